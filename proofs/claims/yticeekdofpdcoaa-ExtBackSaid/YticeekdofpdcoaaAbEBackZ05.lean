/- Several texts put together: AbeT15, AbeT16, AbMono, AbeT17, AbeOp, AbeOp2, AbeT20, AbeT18, AbeT19, AbeR1, AbeR2, AbeR3, AbeR4, AbeR5, AbeR6, AbeR7, AbeR8, AbeR9, AbeA18, AbeT21, AbeT22, AbeT23, AbeT24, AbeB1, AbeB2, AbeB3, AbeA21, AbeR10, AbeA22, AbMn3, AbMn4, AbMn5, AbMn6, AbMn7, AbeA23, AbeA24, AbeA25, AbeA12, AbeA13, AbeA14, AbeA15, AbeA10, AbeA26, AbeA11, AbeA27, AbeA8, AbeA9o, AbeA28, AbMn8, AbeX1, AbeX2, AbeA19, AbeX3, AbeX4, AbeB4, AbeY1, AbeY2, AbeY3, AbeY4, AbeOpB. Conditions: as each part says. -/
import Derived.Test.YticeekdofpdcoaaAbEBackZ04
import Derived.Test.YticeekdofpdcoaaAbEBackZ00
import Derived.Test.YticeekdofpdcoaaAbEBackZ03
import Derived.Laws.Sem
import Derived.SizedLaws
import Derived.ChangeSlices
/- term.Same, walked. Conditions: so many limbs, nodes at most. -/
namespace Go.Ab
open Go.Proofs
set_option maxRecDepth 100000
set_option linter.unusedSimpArgs false

def sgnT : T → Bool
  | .mk _ b _ _ _ _ _ _ => b
def nT : T → Int
  | .mk _ _ _ _ _ n _ _ => n
mutual
def sameT : T → T → Bool
  | .mk k b _ l s n _ ks, u => if k = kindT u then
      (if k = 1 then decide (b = sgnT u) && decide (l = limT u) else if k = 2 ∨ k = 6 then decide (s = strT u) else if k = 8 then decide (s = strT u) && decide (n = nT u) else if k = 9 then decide (n = nT u)
       else if k = 7 then decide (n = nT u) && sameK ks (kidsT u) else if k = 4 ∨ k = 5 then sameK ks (kidsT u) else true) else false
def sameK : List T → List T → Bool
  | [], [] => true
  | x :: r, y :: q => sameT x y && sameK r q
  | [], _ :: _ => false
  | _ :: _, [] => false
end
theorem sameK_len : ∀ (a b : List T), a.length ≠ b.length → sameK a b = false
  | [], [], h => absurd rfl h
  | [], _ :: _, _ => by simp only [sameK]
  | _ :: _, [], _ => by simp only [sameK]
  | x :: r, y :: q, h => by simp only [sameK]; rw [sameK_len r q (by simpa using h), Bool.and_false]
theorem ldB_1 (t k : Nat) (a b c d e f : AV) : ldE Try.prog 4 ⟨t, .buf [a, b, c, d, e, f]⟩ k 1 = if t = k then some b else none := by
  rw [ldE_buf, cellsE_buf]
  by_cases h : t = k
  · simp [h, partA, sh4]
  · simp [h]
theorem ldB_2 (t k : Nat) (a b c d e f : AV) : ldE Try.prog 23 ⟨t, .buf [a, b, c, d, e, f]⟩ k 2 = if t = k then some c else none := by
  rw [ldE_buf, cellsE_buf]
  by_cases h : t = k
  · simp [h, partA, sh22]
  · simp [h]
theorem strEq (a b : List UInt8) : (a == b) = decide (a = b) := by rw [Bool.eq_iff_iff, beq_iff_eq, decide_eq_true_eq]
theorem intEq (x y : Int) : (x == y) = decide (x = y) := by rw [Bool.eq_iff_iff, beq_iff_eq, decide_eq_true_eq]
mutual
def fewT (m : Nat) : T → Prop
  | .mk _ _ _ l _ _ _ ks => l.length < m ∧ ks.length < m ∧ fewK m ks
def fewK (m : Nat) : List T → Prop
  | [] => True
  | t :: r => fewT m t ∧ fewK m r
end
theorem fewK_at (m : Nat) : ∀ (ks : List T) (i : Nat) (t : T) (r : List T), ks.drop i = t :: r → fewK m ks → fewT m t
  | [], i, t, r, h, _ => by simp at h
  | a :: q, 0, t, r, h, hw => by simp only [List.drop_zero, List.cons.injEq] at h; obtain ⟨rfl, rfl⟩ := h; simp only [fewK] at hw; exact hw.1
  | a :: q, i + 1, t, r, h, hw => by simp only [fewK] at hw; exact fewK_at m q i t r (by simpa using h) hw.2
end Go.Ab

/- The document's own check of a term by itself. Conditions: limbs in range; a text shorter than the rounds. -/
namespace Go.Ab
open Go.Proofs
set_option maxRecDepth 100000
set_option linter.unusedSimpArgs false

def badT (m k : Int) (b : Bool) (l : List Nat) (s : List UInt8) : Bool := (m != 0) || ((k != 1) && !zeroB b l) || ((k != 2) && (k != 6) && !(s == []))
def ownS (k : Int) (b : Bool) (l : List Nat) (s : List UInt8) (c : Nat) : Bool :=
  if k = 1 then chkN b l && decide (c = 0) else if k = 2 then s.all okC && (decide (1 ≤ s.length) && decide (s.length ≤ 40) && decide (c = 0)) else if k = 3 then decide (c = 0) else if k = 4 then decide (c = 2) else if k = 5 then decide (c ≤ 40)
  else if k = 6 then decide (s.length ≤ 400) && decide (c = 0) else false
theorem own_split (k : Int) (b : Bool) (lg : Gk) (l : List Nat) (s : List UInt8) (m : Int) (kg : Gk) (ks : List T) :
    ownT (.mk k b lg l s m kg ks) = (!badT m k b l s && ownS k b l s ks.length) := by
  unfold badT ownS
  simp only [ownT]
  by_cases h1 : k = 1
  · subst h1; cases hs : s == [] <;> cases hc : chkN b l <;> by_cases hm : m = 0 <;> simp [hm, hs]
  by_cases h2 : k = 2
  · subst h2
    unfold nameB
    cases hz : zeroB b l <;> by_cases hm : m = 0 <;> simp [hm] <;> cases s.all okC <;> simp
  by_cases h3 : k = 3
  · subst h3; cases hz : zeroB b l <;> cases hs : s == [] <;> by_cases hm : m = 0 <;> simp [hm, hs]
  by_cases h4 : k = 4
  · subst h4; cases hz : zeroB b l <;> cases hs : s == [] <;> by_cases hm : m = 0 <;> simp [hm, hs]
  by_cases h5 : k = 5
  · subst h5; cases hz : zeroB b l <;> cases hs : s == [] <;> by_cases hm : m = 0 <;> simp [hm, hs]
  by_cases h6 : k = 6
  · subst h6; cases hz : zeroB b l <;> by_cases hm : m = 0 <;> simp [hm]
  have hk : ¬ (1 ≤ k ∧ k ≤ 6) := by omega
  simp only [decide_eq_false hk, Bool.false_and, h1, h2, h3, h4, h5, h6, ↓reduceIte, Bool.and_false]
theorem i_neqV (x y : Int) : binA Try.prog .neq 3 (.int .i64 x) (.int .i64 y) = some (.bool (x != y)) := rfl
set_option maxHeartbeats 32000000 in
theorem fields_eq (n d : Nat) (k : Int) (b : Bool) (lg : Gk) (l : List Nat) (hl : Limbs l) (s : List UInt8) (hs : s.length < n) (hs2 : s.length ≤ 9223372036854775807) (m : Int) (kg : Gk) (ks : List T) :
    evalFn Try.prog cfg0 n (d+2) 68 [.tree (encT (.mk k b lg l s m kg ks))] = some (.tree (.bool (ownT (.mk k b lg l s m kg ks))), [[]]) := by
  rw [own_split]
  rw [evalFn_go _ Try.func68 (by unfold Try.f68; rfl) (by unfold Try.f68; decide) (Nat.le_of_ble_eq_true (by unfold Try.f68; rfl)) (by kernel_rfl)]
  have c1 := fun D st => callA_trees (cfg := cfg0) (d := D) (s := st) (f := 87) (vs := [.agg [.bool b, encL lg l]]) rfl (rcheck_eq n d b lg l hl)
  rw [den_assoc, den_assoc]
  refine seq_cut (fun env st => env 1 = .ptr 1 1 0 ∧ st 1 = ⟨1, .buf (cellsT (.mk k b lg l s m kg ks))⟩ ∧ badT m k b l s = false) ?_ ?_
  · intro env st ⟨e1, j1, hb⟩
    rw [hb, Bool.not_false, Bool.true_and]
    simp only [cellsT] at j1
    unfold ownS
    by_cases h1 : k = 1
    · subst h1
      have b1 : ((1 : Int) == 1) = true := rfl
      simp only [↓reduceIte]
      cases hc : chkN b l with
      | true =>
        rw [hc] at c1
        simp only [Bool.true_and]
        simp only [simB, zbo, Nat.reduceBEq, own0, ↓reduceIte, Nat.reduceEqDiff, Nat.reduceAdd, simA, simL, zex, List.toList_toArray, len9, ix9, zey, zez, zfa, zfb, zfc, simN, Nat.zero_add, e1, j1, faT_0, faT_1, faT_2, faT_4, ldT_0, ldT_1, ldT_2, ldT_4, c1, lenTk, natEq0, i_eqlV, b1]
        exact finish_b _ _ _ _ _ _ _ (by simp only [zfk, ↓reduceIte, Nat.reduceEqDiff]; try rfl) rfl
      | false =>
        rw [hc] at c1
        simp only [Bool.false_and]
        simp only [simB, zbo, Nat.reduceBEq, own0, ↓reduceIte, Nat.reduceEqDiff, Nat.reduceAdd, simA, simL, zex, List.toList_toArray, len9, ix9, zey, zez, zfa, zfb, zfc, simN, Nat.zero_add, e1, j1, faT_0, faT_1, faT_2, faT_4, ldT_0, ldT_1, ldT_2, ldT_4, c1, lenTk, natEq0, i_eqlV, b1]
        exact finish_b _ _ _ _ _ _ _ (by simp only [zfk, ↓reduceIte, Nat.reduceEqDiff]; try rfl) rfl
    have b1 : (k == 1) = false := beq_eq_false_iff_ne.mpr h1
    by_cases h2 : k = 2
    · subst h2
      simp only [Int.reduceEq, ↓reduceIte]
      simp only [simB, zbo, Nat.reduceBEq, own0, ↓reduceIte, Nat.reduceEqDiff, Nat.reduceAdd, simA, simL, zex, List.toList_toArray, len9, ix9, zey, zez, zfa, zfb, zfc, simN, Nat.zero_add, e1, j1, faT_0, faT_1, faT_2, faT_4, ldT_0, ldT_1, ldT_2, ldT_4, i_eqlV, Int.reduceBEq, den_loop]
      refine loop_ends (X := Nat) (fun i env s' => env 1 = .ptr 1 1 0 ∧ env 4 = .int .i64 (i : Int) ∧ s' 1 = ⟨1, .buf (cellsT (.mk 2 b lg l s m kg ks))⟩ ∧ i ≤ s.length ∧ (s.take i).all okC = true) (fun i => s.length - i) (fun _ => (.tree (.bool (s.all okC && (decide (1 ≤ s.length) && decide (s.length ≤ 40) && decide (ks.length = 0)))), [[]])) ?_ n 0 _ _ (by omega) ⟨(by simp only [zfk, ↓reduceIte, Nat.reduceEqDiff, e1]; try rfl), (by simp only [zfk, ↓reduceIte, Nat.reduceEqDiff]; try rfl), by simp only [cellsT]; exact (by simp only [zfk, ↓reduceIte, Nat.reduceEqDiff, j1]; try rfl), Nat.zero_le _, rfl⟩
      intro r i hx ih env st ⟨e1, e4, j1, hi, ha⟩
      simp only [cellsT] at j1
      by_cases hp : i = s.length
      · subst hp
        have q1 : ¬ ((s.length : Int) < (s.length : Int)) := by omega
        rw [List.take_length] at ha
        rw [ha, Bool.true_and]
        by_cases g1 : 1 ≤ s.length
        · have g1' : (s.length : Int) ≥ 1 := by omega
          rw [decide_eq_true g1, Bool.true_and]
          by_cases g2 : s.length ≤ 40
          · have g2' : (s.length : Int) ≤ 40 := by omega
            rw [decide_eq_true g2, Bool.true_and]
            simp only [simB, zbo, Nat.reduceBEq, own0, ↓reduceIte, Nat.reduceEqDiff, Nat.reduceAdd, simL, zex, List.toList_toArray, len9, ix9, zey, zez, zfa, zfb, zfc, simN, Nat.zero_add, e1, e4, j1, faT_0, faT_2, faT_4, ldT_0, ldT_2, ldT_4, q1, g1', g2', lenTk, i_eqlV, natEq0]
            exact finish_b _ _ _ _ _ _ _ (by simp only [zfk, ↓reduceIte, Nat.reduceEqDiff]; try rfl) rfl
          · have g2' : ¬ (s.length : Int) ≤ 40 := by omega
            rw [decide_eq_false g2, Bool.false_and]
            simp only [simB, zbo, Nat.reduceBEq, own0, ↓reduceIte, Nat.reduceEqDiff, Nat.reduceAdd, simL, zex, List.toList_toArray, len9, ix9, zey, zez, zfa, zfb, zfc, simN, Nat.zero_add, e1, e4, j1, faT_0, faT_2, faT_4, ldT_0, ldT_2, ldT_4, q1, g1', g2', lenTk, i_eqlV, natEq0]
            exact finish_b _ _ _ _ _ _ _ (by simp only [zfk, ↓reduceIte, Nat.reduceEqDiff]; try rfl) rfl
        · have g1' : ¬ (s.length : Int) ≥ 1 := by omega
          rw [decide_eq_false g1, Bool.false_and, Bool.false_and]
          simp only [simB, zbo, Nat.reduceBEq, own0, ↓reduceIte, Nat.reduceEqDiff, Nat.reduceAdd, simL, zex, List.toList_toArray, len9, ix9, zey, zez, zfa, zfb, zfc, simN, Nat.zero_add, e1, e4, j1, faT_0, faT_2, faT_4, ldT_0, ldT_2, ldT_4, q1, g1', lenTk, i_eqlV, natEq0]
          exact finish_b _ _ _ _ _ _ _ (by simp only [zfk, ↓reduceIte, Nat.reduceEqDiff]; try rfl) rfl
      · have q1 : (i : Int) < (s.length : Int) := by omega
        have q2 : (0 : Int) ≤ (i : Int) ∧ (i : Int) < (s.length : Int) := by omega
        have f4 := i_add Try.prog 3 (i : Int) 1 (by omega) (by omega)
        have hst : s.take (i + 1) = s.take i ++ [s.getD i 0] := by
          rw [List.take_add_one, List.getD, List.getElem?_eq_getElem (by omega)]; rfl
        have ha1 : ∀ c, s.getD i 0 = c → okC c = true → (s.take (i + 1)).all okC = true := by
          intro c hc ho
          rw [hst, hc, List.all_append, ha]; simp [ho]
        have ha0 : ∀ c, s.getD i 0 = c → okC c = false → s.all okC = false := by
          intro c hc ho
          rw [List.all_eq_false]
          refine ⟨c, ?_, by rw [ho]; decide⟩
          rw [← hc, List.getD, List.getElem?_eq_getElem (by omega)]
          exact List.getElem_mem _
        generalize hc : s.getD i 0 = c at ha1 ha0
        replace ha1 := ha1 c rfl
        replace ha0 := ha0 c rfl
        by_cases c1 : (c.toNat : Int) < 33
        · rw [ha0 (by unfold okC; rw [decide_eq_false (by omega)]; rfl), Bool.false_and]
          simp only [simB, zbo, Nat.reduceBEq, own0, ↓reduceIte, Nat.reduceEqDiff, Nat.reduceAdd, simL, zex, List.toList_toArray, len9, ix9, zey, zez, zfa, zfb, zfc, simN, Nat.zero_add, e1, e4, j1, faT_0, faT_2, faT_4, ldT_0, ldT_2, ldT_4, q1, q2, and_self, Int.toNat_natCast, hc, c1]
          exact finish_b _ _ _ _ _ _ _ (by simp only [zfk, ↓reduceIte, Nat.reduceEqDiff]; try rfl) rfl
        by_cases c2 : (c.toNat : Int) > 126
        · rw [ha0 (by unfold okC; rw [decide_eq_false (p := c.toNat ≤ 126) (by omega)]; simp), Bool.false_and]
          simp only [simB, zbo, Nat.reduceBEq, own0, ↓reduceIte, Nat.reduceEqDiff, Nat.reduceAdd, simL, zex, List.toList_toArray, len9, ix9, zey, zez, zfa, zfb, zfc, simN, Nat.zero_add, e1, e4, j1, faT_0, faT_2, faT_4, ldT_0, ldT_2, ldT_4, q1, q2, and_self, Int.toNat_natCast, hc, c1, c2]
          exact finish_b _ _ _ _ _ _ _ (by simp only [zfk, ↓reduceIte, Nat.reduceEqDiff]; try rfl) rfl
        · have ha1 := ha1 (by unfold okC; rw [decide_eq_true (by omega), decide_eq_true (by omega)]; rfl)
          simp only [simB, zbo, Nat.reduceBEq, own0, ↓reduceIte, Nat.reduceEqDiff, Nat.reduceAdd, simL, zex, List.toList_toArray, len9, ix9, zey, zez, zfa, zfb, zfc, simN, Nat.zero_add, e1, e4, j1, faT_0, faT_2, faT_4, ldT_0, ldT_2, ldT_4, q1, q2, and_self, Int.toNat_natCast, hc, c1, c2, f4]
          exact ih (i + 1) _ _ (by omega) rfl ⟨(by simp only [zfk, ↓reduceIte, Nat.reduceEqDiff, e1]; try rfl), (by simp only [zfk, ↓reduceIte, Nat.reduceEqDiff]; try rfl), by simp only [cellsT]; exact (by simp only [zfk, ↓reduceIte, Nat.reduceEqDiff, j1]; try rfl), by omega, ha1⟩
    have b2 : (k == 2) = false := beq_eq_false_iff_ne.mpr h2
    by_cases h3 : k = 3
    · subst h3
      simp only [Int.reduceEq, ↓reduceIte]
      simp only [simB, zbo, Nat.reduceBEq, own0, ↓reduceIte, Nat.reduceEqDiff, Nat.reduceAdd, simA, simL, zex, List.toList_toArray, len9, ix9, zey, zez, zfa, zfb, zfc, simN, Nat.zero_add, e1, j1, faT_0, faT_4, ldT_0, ldT_4, lenTk, natEq0, i_eqlV, Int.reduceBEq]
      exact finish_b _ _ _ _ _ _ _ (by simp only [zfk, ↓reduceIte, Nat.reduceEqDiff]; try rfl) rfl
    have b3 : (k == 3) = false := beq_eq_false_iff_ne.mpr h3
    by_cases h4 : k = 4
    · subst h4
      simp only [Int.reduceEq, ↓reduceIte]
      simp only [simB, zbo, Nat.reduceBEq, own0, ↓reduceIte, Nat.reduceEqDiff, Nat.reduceAdd, simA, simL, zex, List.toList_toArray, len9, ix9, zey, zez, zfa, zfb, zfc, simN, Nat.zero_add, e1, j1, faT_0, faT_4, ldT_0, ldT_4, lenTk, natEq2, i_eqlV, Int.reduceBEq]
      exact finish_b _ _ _ _ _ _ _ (by simp only [zfk, ↓reduceIte, Nat.reduceEqDiff]; try rfl) rfl
    have b4 : (k == 4) = false := beq_eq_false_iff_ne.mpr h4
    by_cases h5 : k = 5
    · subst h5
      have e40 : decide (ks.length ≤ 40) = decide ((ks.length : Int) ≤ 40) := by rw [Bool.eq_iff_iff, decide_eq_true_eq, decide_eq_true_eq]; omega
      simp only [Int.reduceEq, ↓reduceIte, e40]
      simp only [simB, zbo, Nat.reduceBEq, own0, ↓reduceIte, Nat.reduceEqDiff, Nat.reduceAdd, simA, simL, zex, List.toList_toArray, len9, ix9, zey, zez, zfa, zfb, zfc, simN, Nat.zero_add, e1, j1, faT_0, faT_4, ldT_0, ldT_4, lenTk, i_eqlV, i_leqV, Int.reduceBEq]
      exact finish_b _ _ _ _ _ _ _ (by simp only [zfk, ↓reduceIte, Nat.reduceEqDiff]; try rfl) rfl
    have b5 : (k == 5) = false := beq_eq_false_iff_ne.mpr h5
    by_cases h6 : k = 6
    · subst h6
      simp only [Int.reduceEq, ↓reduceIte]
      by_cases g : s.length ≤ 400
      · have g' : (s.length : Int) ≤ 400 := by omega
        rw [decide_eq_true g, Bool.true_and]
        simp only [simB, zbo, Nat.reduceBEq, own0, ↓reduceIte, Nat.reduceEqDiff, Nat.reduceAdd, simA, simL, zex, List.toList_toArray, len9, ix9, zey, zez, zfa, zfb, zfc, simN, Nat.zero_add, e1, j1, faT_0, faT_2, faT_4, ldT_0, ldT_2, ldT_4, lenTk, natEq0, i_eqlV, Int.reduceBEq, g']
        exact finish_b _ _ _ _ _ _ _ (by simp only [zfk, ↓reduceIte, Nat.reduceEqDiff]; try rfl) rfl
      · have g' : ¬ (s.length : Int) ≤ 400 := by omega
        rw [decide_eq_false g, Bool.false_and]
        simp only [simB, zbo, Nat.reduceBEq, own0, ↓reduceIte, Nat.reduceEqDiff, Nat.reduceAdd, simA, simL, zex, List.toList_toArray, len9, ix9, zey, zez, zfa, zfb, zfc, simN, Nat.zero_add, e1, j1, faT_0, faT_2, faT_4, ldT_0, ldT_2, ldT_4, lenTk, natEq0, i_eqlV, Int.reduceBEq, g']
        exact finish_b _ _ _ _ _ _ _ (by simp only [zfk, ↓reduceIte, Nat.reduceEqDiff]; try rfl) rfl
    have b6 : (k == 6) = false := beq_eq_false_iff_ne.mpr h6
    simp only [h1, h2, h3, h4, h5, h6, ↓reduceIte]
    simp only [simB, zbo, Nat.reduceBEq, own0, ↓reduceIte, Nat.reduceEqDiff, Nat.reduceAdd, simA, simL, zex, List.toList_toArray, len9, ix9, zey, zez, zfa, zfb, zfc, simN, Nat.zero_add, e1, j1, faT_0, faT_4, ldT_0, ldT_4, i_eqlV, b1, b2, b3, b4, b5, b6]
    exact finish_b _ _ _ _ _ _ _ (by simp only [zfk, ↓reduceIte, Nat.reduceEqDiff]; try rfl) rfl
  · intro K hN hR hE
    refine seq_cut (fun env st => env 1 = .ptr 1 1 0 ∧ st 1 = ⟨1, .buf (cellsT (.mk k b lg l s m kg ks))⟩ ∧ env 3 = .bool (zeroB b l)) ?_ ?_
    · intro env st ⟨e1, j1, e3⟩
      have j1' := j1
      simp only [cellsT] at j1
      unfold badT at hN ⊢
      generalize zeroB b l = z at hN e3 ⊢
      cases x1 : (m != 0) with
      | true =>
        rw [Bool.true_or, Bool.true_or, Bool.not_true, Bool.false_and]
        simp only [simB, zbo, Nat.reduceBEq, own0, ↓reduceIte, Nat.reduceEqDiff, Nat.reduceAdd, simA, simL, zex, List.toList_toArray, len9, ix9, zey, zez, zfa, zfb, zfc, simN, Nat.zero_add, e1, j1, e3, faT_0, faT_2, faT_3, ldT_0, ldT_2, ldT_3, i_neqV, x1, hR]
        exact finish_b _ _ _ _ _ _ _ (by simp only [zfk, ↓reduceIte, Nat.reduceEqDiff]; try rfl) rfl
      | false =>
        have hx : ((k != 1) && !z) = true ∨ ((k != 1) && !z) = false := by cases ((k != 1) && !z) <;> simp
        rcases hx with hx | hx
        · rw [hx, Bool.or_true, Bool.true_or, Bool.not_true, Bool.false_and]
          rw [Bool.and_eq_true] at hx
          have hz : z = false := by cases z <;> simp_all
          subst hz
          simp only [simB, zbo, Nat.reduceBEq, own0, ↓reduceIte, Nat.reduceEqDiff, Nat.reduceAdd, simA, simL, zex, List.toList_toArray, len9, ix9, zey, zez, zfa, zfb, zfc, simN, Nat.zero_add, e1, j1, e3, faT_0, faT_2, faT_3, ldT_0, ldT_2, ldT_3, i_neqV, x1, hx.1, unA_not', Bool.not_false, hR]
          exact finish_b _ _ _ _ _ _ _ (by simp only [zfk, ↓reduceIte, Nat.reduceEqDiff]; try rfl) rfl
        · rw [x1, hx, Bool.or_self, Bool.false_or] at hN
          rw [hx, Bool.or_self, Bool.false_or]
          cases x4 : (k != 2) <;> cases x5 : (k != 6) <;> cases x6 : (s == []) <;> rw [x4, x5, x6] at hN <;> simp only [Bool.true_and, Bool.false_and, Bool.and_true, Bool.and_false, Bool.not_true, Bool.not_false] at hN ⊢ <;> cases x2 : (k != 1) <;> cases z <;> first
            | (exfalso; rw [x2] at hx; exact absurd hx (by decide))
            | (simp only [simB, zbo, Nat.reduceBEq, own0, ↓reduceIte, Nat.reduceEqDiff, Nat.reduceAdd, simA, simL, zex, List.toList_toArray, len9, ix9, zey, zez, zfa, zfb, zfc, simN, Nat.zero_add, e1, j1, e3, faT_0, faT_2, faT_3, ldT_0, ldT_2, ldT_3, i_neqV, x1, x2, x4, x5, x6, unA_not', Bool.not_false, Bool.not_true, hR]
               exact finish_b _ _ _ _ _ _ _ (by simp only [zfk, ↓reduceIte, Nat.reduceEqDiff]; try rfl) rfl)
            | (simp only [simB, zbo, Nat.reduceBEq, own0, ↓reduceIte, Nat.reduceEqDiff, Nat.reduceAdd, simA, simL, zex, List.toList_toArray, len9, ix9, zey, zez, zfa, zfb, zfc, simN, Nat.zero_add, e1, j1, e3, faT_0, faT_2, faT_3, ldT_0, ldT_2, ldT_3, i_neqV, x1, x2, x4, x5, x6, unA_not', Bool.not_false, Bool.not_true, hR]
               exact hN _ _ ⟨(by simp only [zfk, ↓reduceIte, Nat.reduceEqDiff, e1]; try rfl), (by simp only [zfk, ↓reduceIte, Nat.reduceEqDiff, j1']; try rfl), trivial⟩)
    · intro K2 hN2 hR2 hE2
      unfold zeroB at hN2
      have e : ((l.length : Int) == 0) = decide (l.length = 0) := by rw [Bool.eq_iff_iff, beq_iff_eq, decide_eq_true_eq]; omega
      cases hy : decide (l.length = 0) with
      | true =>
        rw [hy] at e hN2
        simp only [simB, zbo, Nat.reduceBEq, own0, ↓reduceIte, Nat.reduceEqDiff, Nat.reduceAdd, simA, simL, zex, List.toList_toArray, len9, ix9, zey, zez, zfa, zfb, zfc, simN, Nat.zero_add, encT, cellsT, faT_1, faN_0, faN_1, ldB_1, ldB_2, Nat.reduceAdd, i_eqlV, e, unA_not']
        exact hN2 _ _ ⟨(by simp only [zfk, ↓reduceIte, Nat.reduceEqDiff]; try rfl), by simp only [cellsT]; exact (by simp only [zfk, ↓reduceIte, Nat.reduceEqDiff]; try rfl), by simp only [zfk, ↓reduceIte, Nat.reduceEqDiff, Bool.and_true]⟩
      | false =>
        rw [hy] at e hN2
        simp only [simB, zbo, Nat.reduceBEq, own0, ↓reduceIte, Nat.reduceEqDiff, Nat.reduceAdd, simA, simL, zex, List.toList_toArray, len9, ix9, zey, zez, zfa, zfb, zfc, simN, Nat.zero_add, encT, cellsT, faT_1, faN_0, faN_1, ldB_1, ldB_2, Nat.reduceAdd, i_eqlV, e, unA_not']
        exact hN2 _ _ ⟨(by simp only [zfk, ↓reduceIte, Nat.reduceEqDiff]; try rfl), by simp only [cellsT]; exact (by simp only [zfk, ↓reduceIte, Nat.reduceEqDiff]; try rfl), by simp only [zfk, ↓reduceIte, Nat.reduceEqDiff, Bool.and_false]⟩
end Go.Ab

/- What the abstract run gives, it gives with more rounds and more depth too. No conditions. -/
namespace Go.Ab
section
variable {P : Program} {cfg : Cfg} {call call' : FuncId → List Arg → Option Out}
def Less (call call' : FuncId → List Arg → Option Out) : Prop := ∀ f as1 r, call f as1 = some r → call' f as1 = some r
theorem callA_mono (h : Less call call') {d : Nat} {s : St} {f : FuncId} {vs : List AV} {r : AV × St} (hc : callA cfg call d s f vs = some r) : callA cfg call' d s f vs = some r := by
  unfold callA at hc ⊢
  cases ha : argsA cfg f s 0 vs with
  | none => rw [ha] at hc; cases hc
  | some as1 =>
    rw [ha] at hc
    simp only [Option.bind_some] at hc ⊢
    split at hc
    · rename_i hg
      rw [if_pos hg]
      cases hcc : call f as1 with
      | none => rw [hcc] at hc; cases hc
      | some o => rw [hcc] at hc; rw [h _ _ _ hcc]; exact hc
    · cases hc
theorem callQ_mono (h : Less call call') {f : FuncId} {vs : List AV} {r : AV} (hc : callQ call f vs = some r) : callQ call' f vs = some r := by
  unfold callQ at hc ⊢
  split at hc
  · rename_i hg
    rw [if_pos hg]
    cases hcc : call f (vs.map .tree) with
    | none => rw [hcc] at hc; cases hc
    | some o => rw [hcc] at hc; rw [h _ _ _ hcc]; exact hc
  · rename_i hg
    rw [if_neg hg]
    split at hc
    · rename_i hg2
      rw [if_pos hg2]
      cases hcc : call f (vs.map fun v => .tree (loosen v)) with
      | none => rw [hcc] at hc; cases hc
      | some o => rw [hcc] at hc; rw [h _ _ _ hcc]; exact hc
    · cases hc
theorem opA_mono (h : Less call call') {q : Bool} {o : Oper} {d : Nat} {env : Env} {s : St} {r : AV × St} (hc : opA P cfg call q o d env s = some r) : opA P cfg call' q o d env s = some r := by
  obtain ⟨dst, op, ty, pos, af, g⟩ := o
  cases op with
  | call c =>
    obtain ⟨ce, as1, us⟩ := c
    cases ce with
    | value f =>
      simp only [opA] at hc ⊢
      split at hc
      · split at hc
        · rename_i hq
          rw [if_pos hq]
          split at hc
          · rename_i h0
            rw [if_pos h0]
            exact callA_mono h hc
          rename_i h0
          rw [if_neg h0]
          split at hc
          · rename_i h1
            rw [if_pos h1]
            split at hc
            · rename_i h2
              rw [if_pos h2]
              exact callA_mono h hc
            · cases hc
          · rename_i h1
            rw [if_neg h1]
            obtain ⟨v, hcc, hv⟩ := Option.map_eq_some_iff.mp hc
            rw [callQ_mono h hcc]
            exact congrArg some hv
        · rename_i hq
          rw [if_neg hq]
          exact callA_mono h hc
      · cases hc
    | builtin b => cases b <;> exact hc
    | _ => exact hc
  | _ => exact hc
theorem opsA_mono (h : Less call call') {q : Bool} {ops : Array Oper} : ∀ (l : List Oper) {env : Env} {s : St} {r : Env × St}, opsA P cfg call q ops l env s = some r → opsA P cfg call' q ops l env s = some r
  | [], env, s, r, hc => hc
  | o :: l, env, s, r, hc => by
    simp only [opsA] at hc ⊢
    cases hw : wantA ops o env with
    | none => rw [hw] at hc; cases hc
    | some b =>
      rw [hw] at hc
      cases b with
      | false => exact opsA_mono h l hc
      | true =>
        simp only at hc ⊢
        cases ho : opA P cfg call q o (o.dst.getD 0) env s with
        | none => rw [ho] at hc; cases hc
        | some x =>
          rw [ho] at hc
          rw [opA_mono h ho]
          simp only [Option.bind_some] at hc ⊢
          exact opsA_mono h l hc
def LessK (K K' : Kont) : Prop := ∀ e env s r, K e env s = some r → K' e env s = some r
theorem loopA_mono {b b' : Kont → Env → St → Option Out} (hb : ∀ K K', LessK K K' → ∀ env s r, b K env s = some r → b' K' env s = some r) {K K' : Kont} (hK : LessK K K') :
    ∀ (n n' : Nat), n ≤ n' → ∀ env s r, loopA b K n env s = some r → loopA b' K' n' env s = some r
  | 0, n', _, env, s, r, hc => by cases hc
  | n + 1, n', hn, env, s, r, hc => by
    obtain ⟨m, rfl⟩ : ∃ m, n' = m + 1 := ⟨n' - 1, by omega⟩
    simp only [loopA] at hc ⊢
    refine hb _ _ (fun e env s r h => ?_) _ _ _ hc
    cases e with
    | normal => exact loopA_mono hb hK n m (by omega) _ _ _ h
    | exit i => exact hK _ _ _ _ h
    | ret => exact hK _ _ _ _ h
theorem den_mono (h : Less call call') {n n' : Nat} (hn : n ≤ n') : ∀ (c : Code) {K K' : Kont}, LessK K K' → ∀ {env : Env} {s : St} {r : Out}, den P cfg call n c K env s = some r → den P cfg call' n' c K' env s = some r
  | .skip, K, K', hK, env, s, r, hc => hK _ _ _ _ hc
  | .label _, K, K', hK, env, s, r, hc => hK _ _ _ _ hc
  | .region _ ops draw, K, K', hK, env, s, r, hc => by
    simp only [den] at hc ⊢
    cases ho : opsA P cfg call draw ops ops.toList env (killI cfg.keep draw ops.toList s) with
    | none => rw [ho] at hc; cases hc
    | some x =>
      rw [ho] at hc
      rw [opsA_mono h _ ho]
      exact hK _ _ _ _ hc
  | .goto t, K, K', hK, env, s, r, hc => by
    simp only [den] at hc ⊢
    split at hc
    · rename_i hg
      rw [if_pos hg]
      exact hK _ _ _ _ hc
    · cases hc
  | .seq a b, K, K', hK, env, s, r, hc => by
    simp only [den] at hc ⊢
    refine den_mono h hn a (fun e env s r hh => ?_) hc
    cases e with
    | normal => exact den_mono h hn b hK hh
    | exit i => exact hK _ _ _ _ hh
    | ret => exact hK _ _ _ _ hh
  | .cond c a b, K, K', hK, env, s, r, hc => by
    simp only [den] at hc ⊢
    cases hv : ev env c <;> rw [hv] at hc <;> try cases hc
    rename_i x
    cases x with
    | true => exact den_mono h hn a hK hc
    | false => exact den_mono h hn b hK hc
  | .scope a, K, K', hK, env, s, r, hc => by
    simp only [den] at hc ⊢
    exact den_mono h hn a hK hc
  | .block id a, K, K', hK, env, s, r, hc => by
    simp only [den] at hc ⊢
    refine den_mono h hn a (fun e env s r hh => ?_) hc
    cases e with
    | normal => exact hK _ _ _ _ hh
    | exit i =>
      simp only at hh ⊢
      split at hh
      · rename_i hi; rw [if_pos hi]; exact hK _ _ _ _ hh
      · rename_i hi; rw [if_neg hi]; exact hK _ _ _ _ hh
    | ret => exact hK _ _ _ _ hh
  | .loop a, K, K', hK, env, s, r, hc => by
    simp only [den] at hc ⊢
    exact loopA_mono (b := den P cfg call n a) (b' := den P cfg call' n' a) (fun K K' hK env s r hh => den_mono h hn a hK hh) hK n n' hn _ _ _ hc
  | .exit id, K, K', hK, env, s, r, hc => hK _ _ _ _ hc
  | .ret, K, K', hK, env, s, r, hc => hK _ _ _ _ hc
  | .rangeFunc .., K, K', hK, env, s, r, hc => by cases hc
  | .refuse _, K, K', hK, env, s, r, hc => by cases hc
theorem evalFn_mono {n n' : Nat} (hn : n ≤ n') : ∀ (d d' : Nat), d ≤ d' → Less (evalFn P cfg n d) (evalFn P cfg n' d')
  | 0, _, _, f, as1, r, hc => by cases hc
  | d + 1, d', hd, f, as1, r, hc => by
    obtain ⟨m, rfl⟩ : ∃ m, d' = m + 1 := ⟨d' - 1, by omega⟩
    simp only [evalFn] at hc ⊢
    cases hp : cfg.prim f as1 with
    | some o => rw [hp] at hc; exact hc
    | none =>
      rw [hp] at hc
      simp only at hc ⊢
      cases hf : P.funcs[f]? with
      | none => rw [hf] at hc; cases hc
      | some fn =>
        rw [hf] at hc
        simp only at hc ⊢
        cases hb : fn.body with
        | none => rw [hb] at hc; cases hc
        | some c =>
          rw [hb] at hc
          simp only at hc ⊢
          split at hc
          · rename_i hg
            rw [if_pos hg]
            exact den_mono (evalFn_mono hn d m (by omega)) hn _ (fun _ _ _ _ hh => hh) hc
          · cases hc
end
end Go.Ab

/- The document's own check of terms, walked. Conditions: limbs in range; texts shorter than the rounds. -/
namespace Go.Ab
open Go.Proofs
set_option maxRecDepth 100000
set_option linter.unusedSimpArgs false

mutual
def bigT (R : Nat) : T → Prop
  | .mk _ _ _ l s _ _ ks => Limbs l ∧ s.length < R ∧ bigK R ks
def bigK (R : Nat) : List T → Prop
  | [] => True
  | t :: r => bigT R t ∧ bigK R r
end
theorem bigK_at (R : Nat) : ∀ (ks : List T) (i : Nat) (t : T) (r : List T), ks.drop i = t :: r → bigK R ks → bigT R t
  | [], i, t, r, h, _ => by simp at h
  | a :: q, 0, t, r, h, hw => by simp only [List.drop_zero, List.cons.injEq] at h; obtain ⟨rfl, rfl⟩ := h; simp only [bigK] at hw; exact hw.1
  | a :: q, i + 1, t, r, h, hw => by simp only [bigK] at hw; exact bigK_at R q i t r (by simpa using h) hw.2
mutual
def rwT : T → Int → Int → Int
  | .mk k b lg l s m kg ks, deep, n => if n + 1 > 2000 ∨ deep > 60 ∨ ownT (.mk k b lg l s m kg ks) = false then -1 else rwK k ks 0 deep (n + 1)
def rwK (k : Int) : List T → Nat → Int → Int → Int
  | [], _, _, n => n
  | t :: r, i, deep, n => if rwT t (if k = 4 ∧ i = 1 then deep else deep + 1) n < 0 then -1 else rwK k r (i + 1) deep (rwT t (if k = 4 ∧ i = 1 then deep else deep + 1) n)
end
mutual
theorem rwT_good (R : Nat) : ∀ (t : T) (deep n : Int), bigT R t → 0 ≤ n → 0 ≤ rwT t deep n → goodT t ∧ rwT t deep n = n + nodT t ∧ rwT t deep n ≤ 2000
  | .mk k b lg l s m kg ks, deep, n, hb, hn, h => by
    simp only [rwT, nodT] at h ⊢
    split at h
    · omega
    · rename_i hg
      have ho : ownT (.mk k b lg l s m kg ks) = true := by
        cases h0 : ownT (.mk k b lg l s m kg ks)
        · exact absurd (.inr (.inr h0)) hg
        · rfl
      simp only [hg, ↓reduceIte]
      simp only [bigT] at hb
      have := rwK_good R k ks 0 deep (n + 1) hb.2.2 (by omega) (by omega) h
      simp only [goodT]
      exact ⟨⟨hb.1, ho, this.1⟩, by omega, this.2.2⟩
theorem rwK_good (R : Nat) (k : Int) : ∀ (ks : List T) (i : Nat) (deep n : Int), bigK R ks → 0 ≤ n → n ≤ 2000 → 0 ≤ rwK k ks i deep n → goodK ks ∧ rwK k ks i deep n = n + nodK ks ∧ rwK k ks i deep n ≤ 2000
  | [], i, deep, n, _, hn, hn2, h => by simp only [rwK, goodK, nodK] at h ⊢; exact ⟨trivial, by omega, hn2⟩
  | t :: r, i, deep, n, hb, hn, hn2, h => by
    simp only [rwK, goodK, nodK, bigK] at h hb ⊢
    generalize (if k = 4 ∧ i = 1 then deep else deep + 1) = dd at h ⊢
    split at h
    · omega
    · rename_i hg
      have a := rwT_good R t dd n hb.1 hn (by omega)
      have b := rwK_good R k r (i + 1) deep _ hb.2 (by omega) (by omega) h
      simp only [hg, ↓reduceIte]
      exact ⟨⟨a.1, b.1⟩, by omega, b.2.2⟩
end
theorem callA_tii {cfg : Cfg} {call : FuncId → List Arg → Option Out} {D : Nat} {f : FuncId} {ys : List AV} {x z : Int} {r : AV} (hc : call f [.tree (.agg ys), .tree (.int .i64 x), .tree (.int .i64 z)] = some (.tree r, [[], [], []])) (s : St) :
    callA cfg call D s f [.agg ys, .int .i64 x, .int .i64 z] = some (r, s) := callA_trees (vs := [.agg ys, .int .i64 x, .int .i64 z]) rfl hc
set_option maxHeartbeats 32000000 in
theorem rwalk_eq (R : Nat) (hR : 100 ≤ R) (hR2 : R ≤ 9223372036854775808) : ∀ (N D : Nat) (t : T) (deep n : Int), 2001 - n ≤ N → N + 3 ≤ D → bigT R t → 0 ≤ deep → deep ≤ 1000 → 0 ≤ n → n ≤ 2000 →
    evalFn Try.prog cfg0 R D 34 [.tree (encT t), .tree (.int .i64 deep), .tree (.int .i64 n)] = some (.tree (.int .i64 (rwT t deep n)), [[], [], []])
  | 0, D, t, deep, n, h1, h2, h3, h4, h5, h6, h7 => by omega
  | N + 1, D, t, deep, n, h1, h2, h3, h4, h5, h6, h7 => by
    have IH := fun D h t deep n h1 h3 h4 h5 h6 h7 => rwalk_eq R hR hR2 N D t deep n h1 h h3 h4 h5 h6 h7
    obtain ⟨d, rfl⟩ : ∃ d, D = d + 4 := ⟨D - 4, by omega⟩
    rw [evalFn_go _ Try.func34 (by unfold Try.f34; rfl) (by unfold Try.f34; decide) (Nat.le_of_ble_eq_true (by unfold Try.f34; rfl)) (by kernel_rfl)]
    obtain ⟨k, b, lg, l, s, m, kg, ks⟩ := t
    simp only [bigT] at h3
    have f0 := i_add Try.prog 3 n 1 (by omega) (by omega)
    have co := fun D st => callA_trees (cfg := cfg0) (d := D) (s := st) (f := 68) (vs := [encT (.mk k b lg l s m kg ks)]) rfl (fields_eq R (d+1) k b lg l h3.1 s h3.2.1 (by omega) m kg ks)
    simp only [encT, cellsT] at co
    by_cases g1 : n + 1 > 2000
    · have hr : rwT (.mk k b lg l s m kg ks) deep n = -1 := by simp only [rwT]; exact if_pos (.inl g1)
      rw [hr]
      simp only [simB, zbo, Nat.reduceBEq, own0, ↓reduceIte, Nat.reduceEqDiff, Nat.reduceAdd, simA, simL, simN, Nat.zero_add, encT, cellsT, f0, g1]
      exact finish_i _ _ _ _ _ _ _ (by simp only [zfk, ↓reduceIte, Nat.reduceEqDiff]; try rfl) rfl
    by_cases g2 : deep > 60
    · have hr : rwT (.mk k b lg l s m kg ks) deep n = -1 := by simp only [rwT]; exact if_pos (.inr (.inl g2))
      rw [hr]
      simp only [simB, zbo, Nat.reduceBEq, own0, ↓reduceIte, Nat.reduceEqDiff, Nat.reduceAdd, simA, simL, simN, Nat.zero_add, encT, cellsT, f0, g1, g2]
      exact finish_i _ _ _ _ _ _ _ (by simp only [zfk, ↓reduceIte, Nat.reduceEqDiff]; try rfl) rfl
    cases g3 : ownT (.mk k b lg l s m kg ks) with
    | false =>
      have hr : rwT (.mk k b lg l s m kg ks) deep n = -1 := by simp only [rwT]; exact if_pos (.inr (.inr g3))
      rw [hr]
      rw [g3] at co
      simp only [simB, zbo, Nat.reduceBEq, own0, ↓reduceIte, Nat.reduceEqDiff, Nat.reduceAdd, simA, simL, simN, Nat.zero_add, encT, cellsT, ldT_a, f0, g1, g2, co, unA_not', Bool.not_false]
      exact finish_i _ _ _ _ _ _ _ (by simp only [zfk, ↓reduceIte, Nat.reduceEqDiff]; try rfl) rfl
    | true =>
      rw [g3] at co
      have hg : ¬ (n + 1 > 2000 ∨ deep > 60 ∨ ownT (.mk k b lg l s m kg ks) = false) := by rw [g3]; simp only [g1, g2, false_or]; decide
      have hr : rwT (.mk k b lg l s m kg ks) deep n = rwK k ks 0 deep (n + 1) := by simp only [rwT]; exact if_neg hg
      rw [hr]
      have hks : ks.length ≤ 40 := by
        have := g3
        simp only [ownT, Bool.and_eq_true, decide_eq_true_eq] at this
        have h5 := this.2.1.2
        by_cases k4 : k = 4
        · rw [if_pos k4, decide_eq_true_eq] at h5; omega
        · rw [if_neg k4] at h5
          by_cases k5 : k = 5
          · rw [if_pos k5, decide_eq_true_eq] at h5; exact h5
          · rw [if_neg k5, decide_eq_true_eq] at h5; omega
      simp only [simB, zbo, Nat.reduceBEq, own0, ↓reduceIte, Nat.reduceEqDiff, Nat.reduceAdd, simA, simL, simN, Nat.zero_add, encT, cellsT, ldT_a, f0, g1, g2, co, unA_not', Bool.not_true, den_loop]
      generalize hV : rwK k ks 0 deep (n + 1) = V
      refine loop_ends (X := Nat × Int) (fun x env st => env 1 = .int .i64 deep ∧ env 2 = .int .i64 x.2 ∧ env 3 = .ptr 3 1 0 ∧ env 7 = .int .i64 (x.1 : Int) ∧ st 3 = ⟨1, .buf (cellsT (.mk k b lg l s m kg ks))⟩ ∧ x.1 ≤ ks.length ∧ n + 1 ≤ x.2 ∧ x.2 ≤ 2000 ∧ rwK k (ks.drop x.1) x.1 deep x.2 = V) (fun x => ks.length - x.1) (fun _ => (.tree (.int .i64 V), [[], [], []])) ?_ R (0, n + 1) _ _ (by simp only; omega) ⟨(by simp only [zfk, ↓reduceIte, Nat.reduceEqDiff, env0, List.getElem?_cons_zero, List.getElem?_cons_succ]; try rfl), (by simp only [zfk, ↓reduceIte, Nat.reduceEqDiff]; try rfl), (by simp only [zfk, ↓reduceIte, Nat.reduceEqDiff]; try rfl), (by simp only [zfk, ↓reduceIte, Nat.reduceEqDiff]; try rfl), by simp only [cellsT]; exact (by simp only [zfk, ↓reduceIte, Nat.reduceEqDiff]; try rfl), Nat.zero_le _, by simp only; omega, by simp only; omega, hV⟩
      rintro rr ⟨i, v⟩ hrr ih env st ⟨e1, e2, e3, e7, j3, hi, hv0, hv1, hc⟩
      simp only at e2 e7 hi hv0 hv1 hc
      simp only [cellsT] at j3
      cases hd : ks.drop i with
      | nil =>
        have hil : i = ks.length := by have := congrArg List.length hd; simp only [List.length_drop, List.length_nil] at this; omega
        rw [hd] at hc
        simp only [rwK] at hc
        rw [← hc]
        have q1 : ¬ ((i : Int) < (ks.length : Int)) := by omega
        simp only [simB, zbo, Nat.reduceBEq, own0, ↓reduceIte, Nat.reduceEqDiff, Nat.reduceAdd, simL, simN, Nat.zero_add, e1, e2, e3, e7, j3, faT_4, ldT_4, lenTk, q1]
        exact finish_i _ _ _ _ _ _ _ (by simp only [zfk, ↓reduceIte, Nat.reduceEqDiff]; try rfl) rfl
      | cons kid r =>
        have hil : i < ks.length := by have := congrArg List.length hd; simp only [List.length_drop, List.length_cons] at this; omega
        rw [hd] at hc
        simp only [rwK] at hc
        have q1 : (i : Int) < (ks.length : Int) := by omega
        have f5 := i_add Try.prog 3 (i : Int) 1 (by omega) (by omega)
        have f6 := i_add Try.prog 3 deep 1 (by omega) (by omega)
        have kb := bigK_at R ks i kid r hd h3.2.2
        have ia := fun st => ia_K st ks (gr kg) i hil
        rw [hd] at ia
        have ld := fun st => ld_K st kid r
        simp only [encT] at ld
        by_cases hk1 : k = 4 ∧ i = 1
        · rw [if_pos hk1] at hc
          obtain ⟨rfl, rfl⟩ := hk1
          have b4 : ((4 : Int) == 4) = true := rfl
          have b1 : (((1 : Nat) : Int) == 1) = true := rfl
          have cc := fun D => callA_tii (cfg := cfg0) (D := D) (IH (d+3) (by omega) kid deep v (by omega) kb (by omega) (by omega) (by omega) (by omega))
          by_cases hx : rwT kid deep v < 0
          · rw [if_pos hx] at hc
            rw [← hc]
            simp only [simB, zbo, Nat.reduceBEq, own0, ↓reduceIte, Nat.reduceEqDiff, Nat.reduceAdd, simL, simN, Nat.zero_add, e1, e2, e3, e7, j3, faT_0, faT_4, ldT_0, ldT_4, lenTk, q1, f6, i_eqlV, b4, b1, ia, ld, cc, hx]
            exact finish_i _ _ _ _ _ _ _ (by simp only [zfk, ↓reduceIte, Nat.reduceEqDiff]; try rfl) rfl
          · rw [if_neg hx] at hc
            have hgd := rwT_good R kid deep v kb (by omega) (by omega)
            have := nod_pos kid
            simp only [simB, zbo, Nat.reduceBEq, own0, ↓reduceIte, Nat.reduceEqDiff, Nat.reduceAdd, simL, simN, Nat.zero_add, e1, e2, e3, e7, j3, faT_0, faT_4, ldT_0, ldT_4, lenTk, q1, f6, i_eqlV, b4, b1, ia, ld, cc, hx, f5]
            exact ih (1 + 1, rwT kid deep v) _ _ (by simp only; omega) rfl ⟨(by simp only [zfk, ↓reduceIte, Nat.reduceEqDiff, e1]; try rfl), (by simp only [zfk, ↓reduceIte, Nat.reduceEqDiff]; try rfl), (by simp only [zfk, ↓reduceIte, Nat.reduceEqDiff, e3]; try rfl), (by simp only [zfk, ↓reduceIte, Nat.reduceEqDiff]; try rfl), by simp only [cellsT]; exact (by simp only [zfk, ↓reduceIte, Nat.reduceEqDiff, j3]; try rfl), by simp only; omega, by simp only; omega, by simp only; omega, by simp only; rw [drop_next hd]; exact hc⟩
        · rw [if_neg hk1] at hc
          have cc := fun D => callA_tii (cfg := cfg0) (D := D) (IH (d+3) (by omega) kid (deep + 1) v (by omega) kb (by omega) (by omega) (by omega) (by omega))
          have hbb : (k == 4) = true ∧ ((i : Int) == 1) = false ∨ (k == 4) = false := by
            by_cases k4 : k = 4
            · refine .inl ⟨beq_iff_eq.mpr k4, beq_eq_false_iff_ne.mpr fun e => hk1 ⟨k4, by omega⟩⟩
            · exact .inr (beq_eq_false_iff_ne.mpr k4)
          by_cases hx : rwT kid (deep + 1) v < 0
          · rw [if_pos hx] at hc
            rw [← hc]
            rcases hbb with ⟨b4, b1⟩ | b4
            · simp only [simB, zbo, Nat.reduceBEq, own0, ↓reduceIte, Nat.reduceEqDiff, Nat.reduceAdd, simL, simN, Nat.zero_add, e1, e2, e3, e7, j3, faT_0, faT_4, ldT_0, ldT_4, lenTk, q1, f6, i_eqlV, b4, b1, ia, ld, cc, hx]
              exact finish_i _ _ _ _ _ _ _ (by simp only [zfk, ↓reduceIte, Nat.reduceEqDiff]; try rfl) rfl
            · simp only [simB, zbo, Nat.reduceBEq, own0, ↓reduceIte, Nat.reduceEqDiff, Nat.reduceAdd, simL, simN, Nat.zero_add, e1, e2, e3, e7, j3, faT_0, faT_4, ldT_0, ldT_4, lenTk, q1, f6, i_eqlV, b4, ia, ld, cc, hx]
              exact finish_i _ _ _ _ _ _ _ (by simp only [zfk, ↓reduceIte, Nat.reduceEqDiff]; try rfl) rfl
          · rw [if_neg hx] at hc
            have hgd := rwT_good R kid (deep + 1) v kb (by omega) (by omega)
            have := nod_pos kid
            rcases hbb with ⟨b4, b1⟩ | b4
            · simp only [simB, zbo, Nat.reduceBEq, own0, ↓reduceIte, Nat.reduceEqDiff, Nat.reduceAdd, simL, simN, Nat.zero_add, e1, e2, e3, e7, j3, faT_0, faT_4, ldT_0, ldT_4, lenTk, q1, f6, i_eqlV, b4, b1, ia, ld, cc, hx, f5]
              exact ih (i + 1, rwT kid (deep + 1) v) _ _ (by simp only; omega) rfl ⟨(by simp only [zfk, ↓reduceIte, Nat.reduceEqDiff, e1]; try rfl), (by simp only [zfk, ↓reduceIte, Nat.reduceEqDiff]; try rfl), (by simp only [zfk, ↓reduceIte, Nat.reduceEqDiff, e3]; try rfl), (by simp only [zfk, ↓reduceIte, Nat.reduceEqDiff]; try rfl), by simp only [cellsT]; exact (by simp only [zfk, ↓reduceIte, Nat.reduceEqDiff, j3]; try rfl), by simp only; omega, by simp only; omega, by simp only; omega, by simp only; rw [drop_next hd]; exact hc⟩
            · simp only [simB, zbo, Nat.reduceBEq, own0, ↓reduceIte, Nat.reduceEqDiff, Nat.reduceAdd, simL, simN, Nat.zero_add, e1, e2, e3, e7, j3, faT_0, faT_4, ldT_0, ldT_4, lenTk, q1, f6, i_eqlV, b4, ia, ld, cc, hx, f5]
              exact ih (i + 1, rwT kid (deep + 1) v) _ _ (by simp only; omega) rfl ⟨(by simp only [zfk, ↓reduceIte, Nat.reduceEqDiff, e1]; try rfl), (by simp only [zfk, ↓reduceIte, Nat.reduceEqDiff]; try rfl), (by simp only [zfk, ↓reduceIte, Nat.reduceEqDiff, e3]; try rfl), (by simp only [zfk, ↓reduceIte, Nat.reduceEqDiff]; try rfl), by simp only [cellsT]; exact (by simp only [zfk, ↓reduceIte, Nat.reduceEqDiff, j3]; try rfl), by simp only; omega, by simp only; omega, by simp only; omega, by simp only; rw [drop_next hd]; exact hc⟩
theorem rCheck_eq (R : Nat) (hR : 100 ≤ R) (hR2 : R ≤ 9223372036854775808) (d : Nat) (t : T) (ht : bigT R t) : evalFn Try.prog cfg0 R (d + 2005) 16 [.tree (encT t)] = some (.tree (.bool (decide (rwT t 1 0 ≥ 0))), [[]]) := by
  rw [evalFn_go _ Try.func16 (by unfold Try.f16; rfl) (by unfold Try.f16; decide) (Nat.le_of_ble_eq_true (by unfold Try.f16; rfl)) (by kernel_rfl)]
  have cc := fun D => callA_tii (cfg := cfg0) (D := D) (rwalk_eq R hR hR2 2001 (d + 2004) t 1 0 (by decide) (by omega) ht (by decide) (by decide) (by decide) (by decide))
  simp only [simB, zbo, Nat.reduceBEq, own0, ↓reduceIte, Nat.reduceEqDiff, Nat.reduceAdd, simA, simL, simN, Nat.zero_add, encT, ldT_u, cc]
  exact finish_b _ _ _ _ _ _ _ (by simp only [zfk, ↓reduceIte, Nat.reduceEqDiff]; try rfl) rfl
end Go.Ab

/- Terms out of a statement's reading. No conditions. -/
namespace Go.Ab
open Go.Proofs Go.RowKit Go.ChangeShapes Go.WideShapes Go.ChangeAt
set_option maxRecDepth 100000

def R0 : Nat := 9223372036854775808
theorem R0_max : maxLen < R0 := by unfold R0 maxLen; decide
theorem R0_in {n : Nat} (h : n ≤ maxLen) : n < R0 := Nat.lt_of_le_of_lt h R0_max
theorem R0_pos : 0 < R0 := by unfold R0; decide
set_option maxRecDepth 100000 in
theorem und28 : ∃ f0 f1 f2 f3 f4 : Field, Try.prog.underlying 28 = some (.struct #[f0, f1, f2, f3, f4]) ∧ (f0.type = 3 ∧ f1.type = 25 ∧ f2.type = 9 ∧ f3.type = 3 ∧ f4.type = 26) ∧ (f0.offset = 0 ∧ f1.offset = 1 ∧ f2.offset = 3 ∧ f3.offset = 4 ∧ f4.offset = 5) := by
  exact ⟨_, _, _, _, _, Try.underlying28, ⟨rfl, rfl, rfl, rfl, rfl⟩, ⟨rfl, rfl, rfl, rfl, rfl⟩⟩
theorem cells28 : Try.prog.cellsOf 28 = 6 := by kernel_rfl
theorem cellsOI : Try.prog.cellsOf 3 = 1 := by kernel_rfl
theorem cellsS : Try.prog.cellsOf 9 = 1 := by kernel_rfl
theorem cellsTk : Try.prog.cellsOf 26 = 1 := by kernel_rfl
theorem VC_app {S : Nat → Nat → Prop} {w : World} {b : Nat} : ∀ (xs ys : List AV) (o : Nat), VC S w xs b o → VC S w ys b (o + xs.length) → VC S w (xs ++ ys) b o
  | [], ys, o, _, h => by simpa using h
  | x :: xs, ys, o, h, h' => by
    simp only [List.cons_append, VC] at h ⊢
    exact ⟨h.1, h.2.1, VC_app xs ys (o + 1) h.2.2 (by rw [List.length_cons] at h'; rw [show o + 1 + xs.length = o + (xs.length + 1) by omega]; exact h')⟩
theorem VC_of_VL {S : Nat → Nat → Prop} {w : World} {b : Nat} : ∀ (xs : List AV) (vs : List Value) (o : Nat), VL S w xs vs → (∀ j v, vs[j]? = some v → S b (o + j) ∧ w.cell? ⟨b, o + j, none⟩ = some v) → VC S w xs b o
  | [], _, _, _, _ => by simp only [VC]
  | x :: xs, vs, o, h, hc => by
    simp only [VL] at h
    obtain ⟨v, r, rfl, h1, h2, h3⟩ := h
    simp only [VC]
    have h0 := hc 0 v rfl
    refine ⟨h0.1, ⟨v, h0.2, h1, h2⟩, VC_of_VL xs r (o + 1) h3 fun j u hj => ?_⟩
    have := hc (j + 1) u (by simpa using hj)
    rw [show o + (j + 1) = o + 1 + j by omega] at this
    exact this
theorem VC_terms {S : Nat → Nat → Prop} {w : World} {b : Nat} (R : Nat) : ∀ (len o : Nat), (∀ i, i < len → ∃ t, bigT R t ∧ fewT R t ∧ VC S w (cellsT t) b (o + i * 6)) → ∃ ks : List T, ks.length = len ∧ bigK R ks ∧ fewK R ks ∧ VC S w (cellsK ks) b o
  | 0, o, _ => ⟨[], rfl, by simp only [bigK], by simp only [fewK], by simp only [cellsK, VC]⟩
  | len + 1, o, h => by
    obtain ⟨t, h1, h2, h3⟩ := h 0 (by omega)
    obtain ⟨ks, k0, k1, k2, k3⟩ := VC_terms R len (o + 6) fun i hi => by
      obtain ⟨t, a1, a2, a3⟩ := h (i + 1) (by omega)
      exact ⟨t, a1, a2, by rw [show o + 6 + i * 6 = o + (i + 1) * 6 by omega]; exact a3⟩
    refine ⟨t :: ks, by simp [k0], by simp only [bigK]; exact ⟨h1, k1⟩, by simp only [fewK]; exact ⟨h2, k2⟩, ?_⟩
    simp only [cellsK]
    exact VC_app _ _ _ (by simpa using h3) (by rw [cellsT_len]; exact k3)
theorem cell_lt {w : World} {a : Addr} {v : Value} (h : w.cell? a = some v) : a.block < w.heap.size := by
  rw [World.cell?] at h
  cases hb : w.heap[a.block]? with
  | none => simp only [hb] at h; cases h
  | some o => exact (Array.getElem?_eq_some_iff.mp hb).1
theorem add_none (b o i : Nat) : (⟨b, o, none⟩ : Addr).add i = ⟨b, o + i, none⟩ := by
  unfold Addr.add
  split
  · rename_i h; rw [h]; rfl
  · rfl
theorem V0_str {S : Nat → Nat → Prop} {w : World} (s : ByteArray) : V0 S w (.str s.data.toList) (.string s) := by simp [V0]
section
variable {H : Type} {enc : TypeId × Value → H} {w : World} {base : Nat} {held : Bool}
theorem openT_cells : ∀ (fuel : Nat) (cs : List Value) (x : DataW H × List MemPlace), DataW.trod enc Try.prog w base (fun _ => true) held fuel 28 cs = some x →
    ∃ t : T, bigT R0 t ∧ fewT R0 t ∧ VL (old w) w (cellsT t) cs ∧ cs.length = 6
  | fuel, cs, x, h => by
    obtain ⟨f0, f1, f2, f3, f4, hu, ⟨t0, t1, t2, t3, t4⟩, ⟨o0, o1, o2, o3, o4⟩⟩ := und28
    obtain ⟨xs, n, hfu, _, hl, hxs, hf⟩ := DataW.trod_struct hu h
    rw [cells28] at hl
    match cs, hl with
    | [c0, c1, c2, c3, c4, c5], _ =>
      match xs, hxs with
      | [y0, y1, y2, y3, y4], _ =>
        have g0 := hf 0 f0 rfl
        have g1 := hf 1 f1 rfl
        have g2 := hf 2 f2 rfl
        have g3 := hf 3 f3 rfl
        have g4 := hf 4 f4 rfl
        rw [t0, o0, cellsOI] at g0
        rw [t1, o1, cells24] at g1
        rw [t2, o2, cellsS] at g2
        rw [t3, o3, cellsOI] at g3
        rw [t4, o4, cellsTk] at g4
        simp only [List.drop_zero, List.drop_succ_cons, List.take_succ_cons, List.take_zero, List.getElem?_cons_zero, List.getElem?_cons_succ] at g0 g1 g2 g3 g4
        obtain ⟨k, e0, _, _⟩ := DataW.trod_int Try.underlying3 g0
        obtain ⟨s, e2, _, hs⟩ := DataW.trod_string Try.underlying9 g2
        obtain ⟨m, e3, _, _⟩ := DataW.trod_int Try.underlying3 g3
        simp only [List.cons.injEq, and_true] at e0 e2 e3
        subst e0; subst e2; subst e3
        obtain ⟨n0, n1, hnu, s0, s1, p0, p1⟩ := und24
        obtain ⟨ys, n', _, _, hl2, hys, hf2⟩ := DataW.trod_struct hnu g1
        match ys, hys with
        | [z0, z1], _ =>
          have q0 := hf2 0 n0 rfl
          have q1 := hf2 1 n1 rfl
          rw [s0, p0, cells4] at q0
          rw [s1, p1, cells22] at q1
          simp only [List.drop_zero, List.drop_succ_cons, List.take_succ_cons, List.take_zero, List.getElem?_cons_zero, List.getElem?_cons_succ] at q0 q1
          obtain ⟨b, eb, _⟩ := DataW.trod_bool Try.underlying4 q0
          simp only [List.cons.injEq, and_true] at eb
          subst eb
          have hlim : ∃ l : List Nat, Limbs l ∧ l.length < R0 ∧ V0 (old w) w (encL .l l) c2 ∧ c2.oneCell' = true := by
            rcases open_ints Try.underlying23 Try.underlying56 (by kernel_rfl) q1 with ⟨hc, _⟩ | ⟨x, l, c, zs, hc, _, hl, hm, hz, _, hcell, hwz⟩
            · simp only [List.cons.injEq, and_true] at hc
              subst hc
              obtain ⟨l, h1, h2⟩ := limbsOf (w := w) (a := none) (len := 0) (cap := 0) (zs := []) (.inl ⟨rfl, rfl, rfl, rfl⟩)
              have hlen : l.length = 0 := by
                simp only [encL, V0] at h2
                obtain ⟨a, cap, he, _⟩ := h2
                injection he with _ h3 _
                exact h3.symm
              exact ⟨l, h1, by rw [hlen]; exact R0_in (by omega), h2, rfl⟩
            · simp only [List.cons.injEq, and_true] at hc
              subst hc
              obtain ⟨l', h1, h2⟩ := limbsOf (w := w) (a := some x) (len := l) (cap := c) (zs := zs) (.inr ⟨x, rfl, hl, hm, by simpa using hz, hcell, hwz⟩)
              have hlen : l'.length = l := by
                simp only [encL, V0] at h2
                obtain ⟨a, cap, he, _⟩ := h2
                injection he with _ h3 _
                exact h3.symm
              exact ⟨l', h1, by rw [hlen]; exact R0_in (by omega), h2, rfl⟩
          obtain ⟨l, hL, hLl, hV2, hO2⟩ := hlim
          have hkids : ∃ ks : List T, ks.length < R0 ∧ bigK R0 ks ∧ fewK R0 ks ∧ V0 (old w) w (.sl (cellsK ks) ks.length (gr .l)) c5 ∧ c5.oneCell' = true := by
            rcases DataW.trod_slice Try.underlying26 g4 with ⟨hc, _⟩ | ⟨a, len, cap, elems, rest, n2, hfn, hc, _, hb, hle, hm, hlen, hel, hsp, _⟩
            · simp only [List.cons.injEq, and_true] at hc
              subst hc
              refine ⟨[], R0_pos, by simp only [bigK], by simp only [fewK], ?_, rfl⟩
              simp only [V0, cellsK]
              exact ⟨none, 0, rfl, by simp, by simp [gr], by simp [Grip.isTok, gr], .inl (by simp)⟩
            · simp only [List.cons.injEq, and_true] at hc
              subst hc
              by_cases hcap : cap = 0
              · subst hcap
                have : len = 0 := by omega
                subst this
                refine ⟨[], R0_pos, by simp only [bigK], by simp only [fewK], ?_, rfl⟩
                simp only [V0, cellsK]
                exact ⟨some a, 0, rfl, by simp, by simp [gr], by simp [Grip.isTok, gr], .inl (by simp)⟩
              · have hsp := hsp rfl
                have key : ∀ i, i < cap → ∃ cs' y, w.cells? base (a.add (i * 6)) 6 = some cs' ∧ DataW.trod enc Try.prog w base (fun _ => true) held n2 28 cs' = some y := by
                  intro i hi
                  by_cases hil : i < len
                  · have h1 := hel i hil
                    rw [cells28] at h1
                    have h2 : elems[i]? = some (elems[i]'(by omega)) := List.getElem?_eq_getElem (by omega)
                    rw [h2] at h1
                    obtain ⟨cs', k1, k2⟩ := Option.bind_eq_some_iff.mp h1
                    exact ⟨cs', _, k1, k2⟩
                  · have h1 := hsp.2 (i - len) (by omega)
                    rw [cells28, show len + (i - len) = i by omega] at h1
                    have h2 : rest[i - len]? = some (rest[i - len]'(by omega)) := List.getElem?_eq_getElem (by omega)
                    rw [h2] at h1
                    obtain ⟨cs', k1, k2⟩ := Option.bind_eq_some_iff.mp h1
                    exact ⟨cs', _, k1, k2⟩
                obtain ⟨bl, of, spot⟩ := a
                have hs : spot = none := by
                  obtain ⟨cs', y, k1, k2⟩ := key 0 (by omega)
                  obtain ⟨_, h2, h3⟩ := World.cells?_some k1
                  have h4 := h3 0 (by omega)
                  have h5 : cs'[0]? = some (cs'[0]'(by omega)) := List.getElem?_eq_getElem (by omega)
                  rw [h5] at h4
                  simpa [Addr.add] using World.cell?_spot h4
                subst hs
                obtain ⟨ks, k0, k1, k2, k3⟩ := VC_terms (S := old w) (w := w) (b := bl) R0 len of fun i hi => by
                  obtain ⟨cs', y, a1, a2⟩ := key i (by omega)
                  obtain ⟨t, b1, b2, b3, b4⟩ := openT_cells n2 cs' y a2
                  refine ⟨t, b1, b2, VC_of_VL _ _ _ b3 fun j v hj => ?_⟩
                  obtain ⟨_, c1, c2⟩ := World.cells?_some a1
                  have hj6 : j < 6 := by rw [← c1]; exact (List.getElem?_eq_some_iff.mp hj).1
                  have c3 := c2 j hj6
                  rw [hj, add_none, add_none] at c3
                  exact ⟨cell_lt c3, c3⟩
                refine ⟨ks, by rw [k0]; exact R0_in (by omega), k1, k2, ?_, rfl⟩
                simp only [V0]
                exact ⟨_, cap, by rw [k0], by rw [k0]; exact hle, by simp [gr], by simp [Grip.isTok, gr], .inr ⟨bl, of, rfl, k3⟩⟩
          obtain ⟨ks, hk1, hk2, hk3, hk4, hk5⟩ := hkids
          refine ⟨.mk k b .l l s.data.toList m .l ks, ?_, ?_, ?_, rfl⟩
          · simp only [bigT]
            exact ⟨hL, by have : s.data.toList.length = s.size := Array.length_toList
                          rw [this]; exact R0_in (by omega), hk2⟩
          · simp only [fewT]
            exact ⟨hLl, hk1, hk3⟩
          · simp only [cellsT, VL]
            exact ⟨_, _, rfl, rfl, by simp only [V0], _, _, rfl, rfl, by simp only [V0], _, _, rfl, hO2, hV2, _, _, rfl, rfl, V0_str s, _, _, rfl, rfl, by simp only [V0], _, _, rfl, hk5, hk4, rfl⟩
termination_by fuel => fuel
decreasing_by all_goals omega
def IsTerm (w : World) (v : Value) : Prop := ∃ t : T, bigT R0 t ∧ fewT R0 t ∧ V0 (old w) w (encT t) v
theorem openTerm {r : Reach} {b0 : Nat} {v : Value} {d : DataW H} {ps : List MemPlace} (hval : Value.okWide Try.prog w r b0 28 v) (h : DataW.Trod enc Try.prog w base (fun _ => true) held 28 v d ps) : IsTerm w v := by
  obtain ⟨f0, f1, f2, f3, f4, hu, _, _⟩ := und28
  obtain ⟨cs, rfl, hsz⟩ := okWide_struct hu hval
  obtain ⟨fuel, hf⟩ := h
  obtain ⟨t, h1, h2, h3, _⟩ := openT_cells fuel _ _ hf
  refine ⟨t, h1, h2, ?_⟩
  simp only [encT, V0]
  exact ⟨cs.toList, by simp, by simpa [Value.cells] using h3⟩
end
end Go.Ab

/- Rows of terms in memory, as a statement's reading gives them. No conditions. -/
namespace Go.Ab
open Go.Proofs Go.RowKit
set_option maxRecDepth 100000
section
variable {H : Type} {enc : TypeId × Value → H} {w : World} {base : Nat} {held : Bool}
end
end Go.Ab

/- Lists of terms: term.List; rows of terms that grow. Conditions: lengths in range. -/
namespace Go.Ab
open Go.Proofs
set_option maxRecDepth 100000
set_option linter.unusedSimpArgs false

theorem callQ_loose {call : FuncId → List Arg → Option Out} {f : FuncId} {vs vs' : List AV} {v : AV} {os : List (List AV)} (h0 : vs.all isTree = false) (ht : vs.all isLent = true) (e : vs.map loosen = vs') (hc : call f (vs'.map Arg.tree) = some (.tree v, os)) : callQ call f vs = some v := by
  have e2 : (vs.map fun v => Arg.tree (loosen v)) = vs'.map .tree := by rw [← e]; simp
  simp only [callQ, h0, ht, Bool.false_eq_true, if_false, if_true, e2, hc, Option.bind_some]
def consT (h t : T) : T := .mk 4 false .n [] [] 0 .t [h, t]
def listT : List T → T → T
  | [], t => t
  | h :: r, t => consT h (listT r t)
theorem cells_cons (h t : T) : cellsT (consT h t) = consV (cellsT h) (cellsT t) := by
  simp only [consT, cellsT, cellsK, consV, List.append_nil, encL, encC, List.map_nil, List.length_nil, gr, List.length_cons, Nat.reduceAdd]
theorem chunk_K (ks : List T) (i : Nat) (t : T) (r : List T) (h : ks.drop i = t :: r) : chunk (cellsK ks) i = cellsT t := by
  rw [chunk, cellsK_drop, h]
  simp only [cellsK]
  rw [List.take_append_of_le_length (by rw [cellsT_len]; exact Nat.le_refl _), List.take_of_length_le (by rw [cellsT_len]; exact Nat.le_refl _)]
theorem listT_snoc (h : T) : ∀ (r : List T) (t : T), listT (r ++ [h]) t = listT r (consT h t)
  | [], t => rfl
  | a :: r, t => by simp only [List.cons_append, listT, listT_snoc h r t]
theorem lstN_K (ks : List T) : ∀ (n : Nat) (t : T), n ≤ ks.length → lstN (cellsK ks) n (cellsT t) = cellsT (listT (ks.take n) t)
  | 0, t, _ => rfl
  | n + 1, t, h => by
    have hd : ks.drop n = ks[n] :: ks.drop (n + 1) := List.drop_eq_getElem_cons h
    rw [lstN, chunk_K ks n _ _ hd, ← cells_cons, lstN_K ks n _ (by omega), List.take_succ_eq_append_getElem h, listT_snoc]
theorem tList_eq (n d : Nat) (ks : List T) (g : Grip) (t : T) (h : ks.length ≤ 9223372036854775807) : evalFn Try.prog cfg0 n (d+1) 84 [.tree (.sl (cellsK ks) ks.length g), .tree (encT t)] = some (.tree (encT (listT ks t)), [[], []]) := by
  have hp : prim0 84 [.tree (.sl (cellsK ks) ks.length g), .tree (encT t)] = some (.tree (encT (listT ks t)), [[], []]) := by
    unfold prim0
    rw [if_neg (by decide), if_pos (by decide)]
    have e := lstN_K ks ks.length t (Nat.le_refl _)
    rw [List.take_length] at e
    simp only [listP, encT]
    rw [if_pos ⟨cellsK_len ks, cellsT_len t, h⟩, e]
  have hc : cfg0.prim = prim0 := rfl
  rw [evalFn]
  simp only [hc, hp]
theorem by28 : decide (byOf Try.prog 28 ≤ 200) = true := by kernel_rfl
theorem zl28 : (zeroOf Try.prog 28).map List.length = some 6 := by kernel_rfl
def Ap (s : St) (d : Nat) (x : AV) (us : List T) : Prop := (us = [] ∧ x = .sl [] 0 .nil) ∨ (us ≠ [] ∧ ∃ t, x = .sl (cellsK us) us.length (.tok d t) ∧ s d = ⟨t, .tok 6⟩)
theorem Ap.push {s : St} {d : Nat} {x : AV} {us : List T} (h : Ap s d x us) (hl : us.length ≤ 1000000) (v : T) :
    ∃ x' s', appendA Try.prog #[26, 26] d s x (.sl (cellsT v) 1 .tight) = some (x', s') ∧ Ap s' d x' (us ++ [v]) ∧ ∀ q, q ≠ d → s' q = s q := by
  have hb := of_decide_eq_true by28
  have hk : cellsK (us ++ [v]) = cellsK us ++ cellsT v := by rw [cellsK_append]; simp only [cellsK, List.append_nil]
  have hm : ∀ s, moreA Try.prog 28 6 (some 26) s (.sl (cellsT v) 1 .tight) = some (cellsT v, 1) := fun s => by
    simp only [moreA, Option.map_some, tkTk, cellsT_len, Nat.one_mul, ↓reduceIte]
  have hc : (us.length + 1) * byOf Try.prog 28 ≤ 140737488355328 ∧ us.length + 1 ≤ 9223372036854775807 := by
    have : (us.length + 1) * byOf Try.prog 28 ≤ 1000001 * 200 := Nat.mul_le_mul (by omega) hb
    omega
  rcases h with ⟨rfl, rfl⟩ | ⟨_, t, rfl, hs⟩
  · refine ⟨_, upd s d ⟨(s d).t + 1, .tok 6⟩, ?_, .inr ⟨by simp, (s d).t + 1, rfl, upd_same _ _ _⟩, fun q hq => upd_ne _ _ hq⟩
    simp only [appendA, List.getElem?_toArray, List.getElem?_cons_zero, List.getElem?_cons_succ, Option.map_some, tkTk, eszT, Option.bind_some, hm, baseA, List.length_nil, Nat.zero_mul, ↓reduceIte, zl28, and_true]
    rw [if_pos (by simpa using hc)]
    simp [cellsK]
  · refine ⟨_, upd (upd s d ⟨t, .dead⟩) d ⟨t + 1, .tok 6⟩, ?_, .inr ⟨by simp, t + 1, rfl, upd_same _ _ _⟩, fun q hq => (upd_ne _ _ hq).trans (upd_ne _ _ hq)⟩
    simp only [appendA, List.getElem?_toArray, List.getElem?_cons_zero, List.getElem?_cons_succ, Option.map_some, tkTk, eszT, Option.bind_some, hm, baseA, hs, cellsK_len, and_self, ↓reduceIte, zl28, and_true]
    rw [if_pos hc]
    simp only [upd_same, List.length_append, List.length_cons, List.length_nil, Nat.zero_add, hk]
def kgOf (us : List T) : Gk := if us = [] then .n else .l
theorem Ap.settled {s : St} {d : Nat} {x : AV} {us : List T} (h : Ap s d x us) : Go.Ab.settled x = some (.sl (cellsK us) us.length (gr (kgOf us))) := by
  rcases h with ⟨rfl, rfl⟩ | ⟨hu, t, rfl, _⟩
  · rfl
  · simp only [Go.Ab.settled, kgOf, if_neg hu, gr]
end Go.Ab

/- Terms in their order: mathematics. Conditions: terms that may be. -/
namespace Go.Ab
open Go.Proofs
set_option maxRecDepth 100000
set_option linter.unusedSimpArgs false

end Go.Ab

/- The statement TermOrders. Conditions: limbs in range; texts in range. -/
namespace Go.Ab
open Go.Proofs
set_option maxRecDepth 100000
set_option linter.unusedSimpArgs false

mutual
theorem ht_nod : ∀ t : T, htT t ≤ nodT t
  | .mk _ _ _ _ _ _ _ ks => by have := htK_nod ks; simp only [htT, nodT]; omega
theorem htK_nod : ∀ ks : List T, htK ks ≤ nodK ks
  | [] => Nat.le_refl _
  | t :: r => by have := ht_nod t; have := htK_nod r; simp only [htK, nodK]; omega
end
mutual
theorem good_few : ∀ t : T, goodT t → fewT 100000 t
  | .mk k b lg l s m kg ks, h => by
    have ho := good_own h
    have h1 := ho.2.1
    simp only [ownT, Bool.and_eq_true, decide_eq_true_eq] at h1
    simp only [fewT]
    refine ⟨?_, ?_, goodK_few ks ho.2.2⟩
    · have h2 := h1.2.1.1.1
      by_cases hk : k = 1
      · rw [if_pos hk] at h2
        simp only [chkN, Bool.and_eq_true, decide_eq_true_eq] at h2
        omega
      · rw [if_neg hk] at h2
        simp only [zeroB, Bool.and_eq_true, decide_eq_true_eq] at h2
        omega
    · have h2 := h1.2.1.2
      by_cases k4 : k = 4
      · rw [if_pos k4, decide_eq_true_eq] at h2; omega
      · rw [if_neg k4] at h2
        by_cases k5 : k = 5
        · rw [if_pos k5, decide_eq_true_eq] at h2; omega
        · rw [if_neg k5, decide_eq_true_eq] at h2; omega
theorem goodK_few : ∀ ks : List T, goodK ks → fewK 100000 ks
  | [], _ => by simp only [fewK]
  | t :: r, h => by simp only [goodK] at h; simp only [fewK]; exact ⟨good_few t h.1, goodK_few r h.2⟩
end
end Go.Ab

/- The reference's own functions on numbers: reading, normal forms, comparing. Conditions: limbs in range, not too many. -/
namespace Go.Ab
open Go.Proofs
set_option maxRecDepth 100000
set_option linter.unusedSimpArgs false

end Go.Ab

/- The reference's own functions on numbers: Cmp, Add, Sub. Conditions: limbs in range, not too many. -/
namespace Go.Ab
open Go.Proofs
set_option maxRecDepth 100000
set_option linter.unusedSimpArgs false

end Go.Ab

/- The reference's own functions on numbers: Add, Sub. Conditions: limbs in range, not too many. -/
namespace Go.Ab
open Go.Proofs
set_option maxRecDepth 100000
set_option linter.unusedSimpArgs false

end Go.Ab

/- The reference's Sub. Conditions: limbs in range, not too many. -/
namespace Go.Ab
open Go.Proofs
set_option maxRecDepth 100000
set_option linter.unusedSimpArgs false

end Go.Ab

/- The reference's Mul. Conditions: limbs in range, not too many. -/
namespace Go.Ab
open Go.Proofs
set_option maxRecDepth 100000
set_option linter.unusedSimpArgs false

end Go.Ab

/- The reference's Shr. Conditions: limbs in range, not too many. -/
namespace Go.Ab
open Go.Proofs
set_option maxRecDepth 100000
set_option linter.unusedSimpArgs false

end Go.Ab

/- The reference's Len. Conditions: limbs in range, not too many. -/
namespace Go.Ab
open Go.Proofs
set_option maxRecDepth 100000
set_option linter.unusedSimpArgs false

end Go.Ab

/- The reference's Shl. Conditions: limbs in range, not too many. -/
namespace Go.Ab
open Go.Proofs
set_option maxRecDepth 100000
set_option linter.unusedSimpArgs false

end Go.Ab

/- The reference's Div. Conditions: limbs in range, not too many. -/
namespace Go.Ab
open Go.Proofs
set_option maxRecDepth 100000
set_option linter.unusedSimpArgs false

section
variable (n d : Nat) (hn : 100000 ≤ n) (D : Nat) (s : St)
include hn
end
end Go.Ab

/- The reference's numbers: what is a number, made of limbs, of ints; its compare. Conditions: limbs in range. -/
namespace Go.Ab
open Go.Proofs
set_option maxRecDepth 100000
set_option linter.unusedSimpArgs false

section
variable (n d : Nat) (hn : 100000 ≤ n) (D : Nat) (s : St)
include hn
end
end Go.Ab

/- Small Ints as terms; rows and lists of them, compared. Conditions: numbers that Go has. -/
namespace Go.Ab
open Go.Proofs
set_option maxRecDepth 100000
set_option linter.unusedSimpArgs false

def I64 (v : Int) : Prop := -9223372036854775808 ≤ v ∧ v ≤ 9223372036854775807
def intT (v : Int) : T := .mk 1 (decide (v < 0)) .l (digs v.natAbs) [] 0 .n []
def nilT' : T := .mk 3 false .n [] [] 0 .n []
def tupT (kg : Gk) (us : List T) : T := .mk 5 false .n [] [] 0 kg us
end Go.Ab

/- The statement TermTuples. Conditions: numbers that Go has. -/
namespace Go.Ab
open Go.Proofs
set_option maxRecDepth 100000
set_option linter.unusedSimpArgs false

def intsA (xs : List Int) : List AV := xs.map (AV.int .i64)
theorem bs1T (e : T) : (fillA (fun i => some (i * 6, 6)) (rep 1 zeroT6) [(0, .agg (cellsT e))]).map (AV.sl · 1 .tight) = some (.sl (cellsT e) 1 .tight) := by
  have h := cellsT_len e
  have a1 : splice (rep 1 zeroT6) (0 * 6) (cellsT e) = cellsT e := by
    simp only [splice, Nat.zero_mul, List.take_zero, List.nil_append, Nat.zero_add, h]; exact List.append_nil _
  simp only [fillA, settled, Option.bind_some, cellsOf]
  rw [if_pos ⟨h, by decide⟩, a1]
  rfl
theorem Ap.tup {s : St} {d : Nat} {x : AV} {us : List T} (h : Ap s d x us) : buildA Try.prog 28 [(0, .int .i64 5), (4, x)] = some (.agg (cellsT (tupT (kgOf us) us))) := by
  have hs := h.settled
  simp only [buildA, zeroT, tkT, plT, Option.bind_some, fillA, List.getElem?_cons_zero, List.getElem?_cons_succ, hs]
  simp only [tupT, cellsT, encL, encC, List.map_nil, List.length_nil, gr]
  rfl
theorem Ap.list {s : St} {d : Nat} {x : AV} {us : List T} (h : Ap s d x us) (hl : us.length ≤ 1000000) (R D : Nat) : callQ (evalFn Try.prog cfg0 R (D+1)) 84 [x, encT nilT'] = some (encT (listT us nilT')) := by
  rcases h with ⟨rfl, rfl⟩ | ⟨_, t, rfl, _⟩
  · exact callQ_trees (vs := [.sl [] 0 .nil, encT nilT']) rfl (tList_eq R D [] .nil nilT' (by decide))
  · exact callQ_loose (vs := [.sl (cellsK us) us.length (.tok d t), encT nilT']) rfl rfl rfl (tList_eq R D us .loose nilT' (by omega))

section
variable (R : Nat) (hR : 100000 ≤ R) (xs ys : List Int) (hx : ∀ x ∈ xs, I64 x) (hy : ∀ x ∈ ys, I64 x) (hxk : xs.length ≤ 30) (hyk : ys.length ≤ 30) (gx gy : Grip) (x5 x6 : AV) (s1 s2 : St) (ap : Ap s1 36 x5 (xs.map intT)) (ap2 : Ap s2 50 x6 (ys.map intT))
include hR hx hy hxk hyk ap ap2
end
end Go.Ab

/- Light terms; the items of a list. Conditions: lengths in range. -/
namespace Go.Ab
open Go.Proofs
set_option maxRecDepth 100000
set_option linter.unusedSimpArgs false

mutual
def lgT : T → Int → Int
  | .mk _ _ _ l s _ _ ks, n => if (l.length : Int) > 40 ∨ (s.length : Int) > 500 then -1 else lgK ks (n - 1)
def lgK : List T → Int → Int
  | [], n => n
  | t :: r, n => if n ≥ 0 then lgK r (lgT t n) else n
end
mutual
theorem lgT_lt : ∀ (t : T) (n : Int), 0 ≤ n → -1 ≤ lgT t n ∧ lgT t n ≤ n - 1
  | .mk _ _ _ l s _ _ ks, n, h => by
    simp only [lgT]
    split
    · omega
    · by_cases h1 : 0 ≤ n - 1
      · have := lgK_le ks (n - 1) (by omega); omega
      · have h2 : n - 1 = -1 := by omega
        rw [h2]
        cases ks with
        | nil => simp only [lgK]; omega
        | cons a r => simp only [lgK]; rw [if_neg (by omega)]; omega
theorem lgK_le : ∀ (ks : List T) (n : Int), -1 ≤ n → -1 ≤ lgK ks n ∧ lgK ks n ≤ n
  | [], n, h => by simp only [lgK]; omega
  | t :: r, n, h => by
    simp only [lgK]
    split
    · rename_i h0
      have h1 := lgT_lt t n h0
      have h2 := lgK_le r (lgT t n) h1.1
      omega
    · omega
end
set_option maxHeartbeats 8000000 in
theorem light_eq (R : Nat) (hR : 2000 ≤ R) (hR2 : R ≤ 9223372036854775808) : ∀ (d : Nat) (t : T) (n : Int), 0 ≤ n → n < 1000 → n + 2 ≤ (d : Int) → bigT R t → fewT R t →
    evalFn Try.prog cfg0 R d 26 [.tree (encT t), .tree (.int .i64 n)] = some (.tree (.int .i64 (lgT t n)), [[], []])
  | 0, t, n, h0, _, hd, _, _ => by omega
  | d + 1, t, n, h0, h1, hd, hb, hf => by
    have IH := light_eq R hR hR2 d
    obtain ⟨k, b, lg, l, s, m, kg, ks⟩ := t
    simp only [bigT] at hb
    simp only [fewT] at hf
    rw [evalFn_go _ Try.func26 (by unfold Try.f26; rfl) (by unfold Try.f26; decide) (Nat.le_of_ble_eq_true (by unfold Try.f26; rfl)) (by kernel_rfl)]
    have f0 := i_sub Try.prog 3 n 1 (by omega) (by omega)
    have ll := len23
    by_cases c1 : (l.length : Int) > 40
    · have hr : lgT (.mk k b lg l s m kg ks) n = -1 := by simp only [lgT]; rw [if_pos (.inl c1)]
      rw [hr]
      simp only [simB, zbo, Nat.reduceBEq, own0, ↓reduceIte, Nat.reduceEqDiff, Nat.reduceAdd, simA, simL, simN, Nat.zero_add, zex, List.toList_toArray, len9, ix9, zey, zez, zfa, zfb, zfc, encT, cellsT, f0, faT_1, faT_2, faT_4, faN_1, ldT_2, ldT_4, ldT_l, ll, c1, Nat.reduceAdd]
      exact finish_i _ _ _ _ _ _ _ (by simp only [zfk, ↓reduceIte, Nat.reduceEqDiff]; try rfl) rfl
    by_cases c2 : (s.length : Int) > 500
    · have hr : lgT (.mk k b lg l s m kg ks) n = -1 := by simp only [lgT]; rw [if_pos (.inr c2)]
      rw [hr]
      simp only [simB, zbo, Nat.reduceBEq, own0, ↓reduceIte, Nat.reduceEqDiff, Nat.reduceAdd, simA, simL, simN, Nat.zero_add, zex, List.toList_toArray, len9, ix9, zey, zez, zfa, zfb, zfc, encT, cellsT, f0, faT_1, faT_2, faT_4, faN_1, ldT_2, ldT_4, ldT_l, ll, c1, c2, Nat.reduceAdd]
      exact finish_i _ _ _ _ _ _ _ (by simp only [zfk, ↓reduceIte, Nat.reduceEqDiff]; try rfl) rfl
    have hr : lgT (.mk k b lg l s m kg ks) n = lgK ks (n - 1) := by simp only [lgT]; rw [if_neg (by omega)]
    rw [hr]
    simp only [simB, zbo, Nat.reduceBEq, own0, ↓reduceIte, Nat.reduceEqDiff, Nat.reduceAdd, simA, simL, simN, Nat.zero_add, zex, List.toList_toArray, len9, ix9, zey, zez, zfa, zfb, zfc, encT, cellsT, f0, faT_1, faT_2, faT_4, faN_1, ldT_2, ldT_4, ldT_l, ll, c1, c2, Nat.reduceAdd, den_loop]
    refine loop_ends (X := Nat × Int) (fun x env s' => env 2 = .ptr 2 1 0 ∧ s' 2 = ⟨1, .buf (cellsT (.mk k b lg l s m kg ks))⟩ ∧ env 1 = .int .i64 x.2 ∧ env 5 = .int .i64 (x.1 : Int) ∧ x.1 ≤ ks.length ∧ -1 ≤ x.2 ∧ x.2 ≤ n - 1 ∧ lgK ks (n - 1) = lgK (ks.drop x.1) x.2) (fun x => (x.2 + 1).toNat) (fun _ => (.tree (.int .i64 (lgK ks (n - 1))), [[], []])) ?_ R (0, n - 1) _ _ (by simp only; omega) ⟨(by simp only [zfk, ↓reduceIte, Nat.reduceEqDiff]; try rfl), (by simp only [zfk, ↓reduceIte, Nat.reduceEqDiff]; try rfl), (by simp only [zfk, ↓reduceIte, Nat.reduceEqDiff]; try rfl), (by simp only [zfk, ↓reduceIte, Nat.reduceEqDiff]; try rfl), Nat.zero_le _, by simp only; omega, by simp only; omega, rfl⟩
    rintro rr ⟨i, v⟩ hrr ih2 env st ⟨e2, j2, e1, e5, hi, hv0, hv1, hk⟩
    simp only at e1 e5 hi hv0 hv1 hk hrr
    simp only [cellsT] at j2
    cases hdr : ks.drop i with
    | nil =>
      have hil : i = ks.length := by have := congrArg List.length hdr; simp only [List.length_drop, List.length_nil] at this; omega
      subst hil
      rw [hdr] at hk
      simp only [lgK] at hk
      rw [hk]
      have q1 : ¬ ((ks.length : Int) < (ks.length : Int)) := by omega
      simp only [simB, zbo, Nat.reduceBEq, own0, ↓reduceIte, Nat.reduceEqDiff, Nat.reduceAdd, simL, simN, Nat.zero_add, e2, j2, e1, e5, faT_4, ldT_4, lenTk, q1]
      exact finish_i _ _ _ _ _ _ _ (by simp only [zfk, ↓reduceIte, Nat.reduceEqDiff]; try rfl) rfl
    | cons kid r =>
      have hil : i < ks.length := by have := congrArg List.length hdr; simp only [List.length_drop, List.length_cons] at this; omega
      have q1 : (i : Int) < (ks.length : Int) := by omega
      rw [hdr] at hk
      simp only [lgK] at hk
      by_cases q2 : v ≥ 0
      · rw [if_pos q2] at hk
        have hbk := bigK_at R ks i kid r hdr hb.2.2
        have hfk := fewK_at R ks i kid r hdr hf.2.2
        have cc := fun D st => callA_trees (cfg := cfg0) (d := D) (s := st) (f := 26) (vs := [encT kid, .int .i64 v]) rfl (IH kid v q2 (by omega) (by omega) hbk hfk)
        simp only [encT] at cc
        have ia := fun st => ia_K st ks (gr kg) i hil
        rw [hdr] at ia
        have ld := fun st => ld_K st kid r
        simp only [encT] at ld
        have f5 := i_add Try.prog 3 (i : Int) 1 (by omega) (by omega)
        have hl := lgT_lt kid v q2
        simp only [simB, zbo, Nat.reduceBEq, own0, ↓reduceIte, Nat.reduceEqDiff, Nat.reduceAdd, simL, simN, Nat.zero_add, e2, j2, e1, e5, faT_4, ldT_4, lenTk, q1, q2, ia, ld, cc, f5]
        exact ih2 (i + 1, lgT kid v) _ _ (by simp only; omega) rfl ⟨(by simp only [zfk, ↓reduceIte, Nat.reduceEqDiff, e2]; try rfl), by simp only [cellsT]; exact (by simp only [zfk, ↓reduceIte, Nat.reduceEqDiff, j2]; try rfl), (by simp only [zfk, ↓reduceIte, Nat.reduceEqDiff]; try rfl), (by simp only [zfk, ↓reduceIte, Nat.reduceEqDiff]; try rfl), by simp only; omega, by simp only; omega, by simp only; omega, by simp only; rw [drop_next hdr]; exact hk⟩
      · rw [if_neg q2] at hk
        rw [hk]
        simp only [simB, zbo, Nat.reduceBEq, own0, ↓reduceIte, Nat.reduceEqDiff, Nat.reduceAdd, simL, simN, Nat.zero_add, e2, j2, e1, e5, faT_4, ldT_4, lenTk, q1, q2]
        exact finish_i _ _ _ _ _ _ _ (by simp only [zfk, ↓reduceIte, Nat.reduceEqDiff]; try rfl) rfl
theorem Light_eq (R : Nat) (hR : 2000 ≤ R) (hR2 : R ≤ 9223372036854775808) (d : Nat) (t : T) (n : Int) (h0 : 0 ≤ n) (h1 : n < 1000) (hd : n + 2 ≤ (d : Int)) (hb : bigT R t) (hf : fewT R t) :
    evalFn Try.prog cfg0 R (d+1) 8 [.tree (encT t), .tree (.int .i64 n)] = some (.tree (.bool (decide (lgT t n ≥ 0))), [[], []]) := by
  rw [evalFn_go _ Try.func8 (by unfold Try.f8; rfl) (by unfold Try.f8; decide) (Nat.le_of_ble_eq_true (by unfold Try.f8; rfl)) (by kernel_rfl)]
  have cc := fun D st => callA_trees (cfg := cfg0) (d := D) (s := st) (f := 26) (vs := [encT t, .int .i64 n]) rfl (light_eq R hR hR2 d t n h0 h1 hd hb hf)
  simp only [encT] at cc
  simp only [simB, zbo, Nat.reduceBEq, own0, ↓reduceIte, Nat.reduceEqDiff, Nat.reduceAdd, simA, simL, simN, Nat.zero_add, encT, ldT_u, cc]
  exact finish_b _ _ _ _ _ _ _ (by simp only [zfk, ↓reduceIte, Nat.reduceEqDiff]; try rfl) rfl

end Go.Ab

/- How many words a term takes. Conditions: terms that are lean. -/
namespace Go.Ab
open Go.Proofs
set_option maxRecDepth 100000
set_option linter.unusedSimpArgs false

end Go.Ab

/- relictref03.Same, walked. Conditions: so many limbs, nodes at most. -/
namespace Go.Ab
open Go.Proofs
set_option maxRecDepth 100000
set_option linter.unusedSimpArgs false

theorem b_neqV (a b : Bool) : binA Try.prog .neq 4 (.bool a) (.bool b) = some (.bool (!(a == b))) := bool_neq 4 tk4 a b
theorem rsameNum_eq (n d : Nat) (b1 b2 : Bool) (b b' : Gk) (l m : List Nat) (hn : l.length < n) (hk : l.length ≤ 1000000) : evalFn Try.prog cfg0 n (d+1) 35 [.tree (encA b1 b l), .tree (encA b2 b' m)] = some (.tree (.bool (decide (b1 = b2) && decide (l = m))), [[], []]) := by
  rw [evalFn_go _ Try.func35 (by unfold Try.f35; rfl) (by unfold Try.f35; decide) (Nat.le_of_ble_eq_true (by unfold Try.f35; rfl)) (by kernel_rfl)]
  by_cases hb : b1 = b2
  rotate_left
  · have p0 : (b1 == b2) = false := beq_eq_false_iff_ne.mpr hb
    rw [decide_eq_false hb, Bool.false_and]
    simp only [simB, zbo, Nat.reduceBEq, own0, ↓reduceIte, Nat.reduceEqDiff, Nat.reduceAdd, simA, simL, simN, Nat.zero_add, encA, b_neqV, p0, Bool.not_false]
    exact finish_b _ _ _ _ _ _ _ (by simp only [zfk, ↓reduceIte, Nat.reduceEqDiff]; try rfl) rfl
  have p0 : (b1 == b2) = true := beq_iff_eq.mpr hb
  rw [decide_eq_true hb, Bool.true_and]
  by_cases hlm : l.length = m.length
  · have p1 : ((l.length : Int) != (m.length : Int)) = false := by rw [hlm]; exact bne_self_eq_false _
    simp only [simB, zbo, Nat.reduceBEq, own0, ↓reduceIte, Nat.reduceEqDiff, Nat.reduceAdd, simA, simL, simN, Nat.zero_add, encA, b_neqV, p0, Bool.not_true, p1, den_loop]
    refine loop_ends (X := Nat) (fun i env s => env 2 = .ptr 2 1 0 ∧ env 3 = .ptr 3 1 0 ∧ s 2 = ⟨1, .buf [.bool b1, encL b l]⟩ ∧ s 3 = ⟨1, .buf [.bool b2, encL b' m]⟩ ∧ env 5 = .int .i64 (i : Int) ∧ i ≤ l.length ∧ (l.drop i = m.drop i ↔ l = m)) (fun i => l.length - i) (fun _ => (.tree (.bool (decide (l = m))), [[], []])) ?_ n 0 _ _ (by omega) ⟨(by simp only [zfk, ↓reduceIte, Nat.reduceEqDiff]; try rfl), (by simp only [zfk, ↓reduceIte, Nat.reduceEqDiff]; try rfl), (by simp only [zfk, ↓reduceIte, Nat.reduceEqDiff]; try rfl), (by simp only [zfk, ↓reduceIte, Nat.reduceEqDiff]; try rfl), (by simp only [zfk, ↓reduceIte, Nat.reduceEqDiff]; try rfl), Nat.zero_le _, Iff.rfl⟩
    intro k i hx ih env s ⟨h0, h1, j0, j1, h5, hi, hd⟩
    by_cases hp : i = l.length
    · have e : l = m := by
        rw [← hd, hp, List.drop_length, hlm, List.drop_length]
      rw [decide_eq_true e]
      have q1 : ¬ ((i : Int) < (l.length : Int)) := by omega
      simp only [simB, zbo, Nat.reduceBEq, own0, ↓reduceIte, Nat.reduceEqDiff, Nat.reduceAdd, simL, simN, Nat.zero_add, h0, h1, j0, j1, h5, q1]
      exact finish_b _ _ _ _ _ _ _ (by simp only [zfk, ↓reduceIte, Nat.reduceEqDiff]; try rfl) rfl
    · have q1 : (i : Int) < (l.length : Int) := by omega
      have q2 : (0 : Int) ≤ (i : Int) := by omega
      have q3 : i < l.length := by omega
      have q4 : i < m.length := by omega
      have q5 : (i : Int) < (m.length : Int) := by omega
      have f4 := i_add Try.prog 3 (i : Int) 1 (by omega) (by omega)
      have dl : l.drop i = l.getD i 0 :: l.drop (i + 1) := by rw [List.getD_eq_getElem?_getD, List.getElem?_eq_getElem q3]; exact List.drop_eq_getElem_cons q3
      have dm : m.drop i = m.getD i 0 :: m.drop (i + 1) := by rw [List.getD_eq_getElem?_getD, List.getElem?_eq_getElem q4]; exact List.drop_eq_getElem_cons q4
      rw [dl, dm, List.cons.injEq] at hd
      by_cases g : l.getD i 0 = m.getD i 0
      · have p2 : ((l.getD i 0 : Int) != (m.getD i 0 : Int)) = false := by rw [g]; exact bne_self_eq_false _
        simp only [simB, zbo, Nat.reduceBEq, own0, ↓reduceIte, Nat.reduceEqDiff, Nat.reduceAdd, simL, simN, Nat.zero_add, h0, h1, j0, j1, h5, q1, q2, q3, q4, q5, Int.toNat_natCast, p2, f4]
        exact ih (i + 1) _ _ (by omega) rfl ⟨(by simp only [zfk, ↓reduceIte, Nat.reduceEqDiff, h0]; try rfl), (by simp only [zfk, ↓reduceIte, Nat.reduceEqDiff, h1]; try rfl), (by simp only [zfk, ↓reduceIte, Nat.reduceEqDiff, j0]; try rfl), (by simp only [zfk, ↓reduceIte, Nat.reduceEqDiff, j1]; try rfl), (by simp only [zfk, ↓reduceIte, Nat.reduceEqDiff]; try rfl), by omega, by rw [← hd]; simp only [g, true_and]⟩
      · have p2 : ((l.getD i 0 : Int) != (m.getD i 0 : Int)) = true := by rw [bne_iff_ne]; omega
        have hne : ¬ l = m := fun e => g (hd.mpr e).1
        rw [decide_eq_false hne]
        simp only [simB, zbo, Nat.reduceBEq, own0, ↓reduceIte, Nat.reduceEqDiff, Nat.reduceAdd, simL, simN, Nat.zero_add, h0, h1, j0, j1, h5, q1, q2, q3, q4, q5, Int.toNat_natCast, p2, f4]
        exact finish_b _ _ _ _ _ _ _ (by simp only [zfk, ↓reduceIte, Nat.reduceEqDiff]; try rfl) rfl
  · have p1 : ((l.length : Int) != (m.length : Int)) = true := by rw [bne_iff_ne]; omega
    rw [decide_eq_false (fun e => hlm (by rw [e]))]
    simp only [simB, zbo, Nat.reduceBEq, own0, ↓reduceIte, Nat.reduceEqDiff, Nat.reduceAdd, simA, simL, simN, Nat.zero_add, encA, b_neqV, p0, Bool.not_true, p1]
    exact finish_b _ _ _ _ _ _ _ (by simp only [zfk, ↓reduceIte, Nat.reduceEqDiff]; try rfl) rfl
noncomputable def codeRS : Code := (Try.f19.body).getD .skip
noncomputable def rs20 : Code := seqR (seqR (seqR (seqR codeRS)))
set_option maxHeartbeats 32000000 in
theorem rsameK_eq (n D : Nat) (a b : T) (ha : (kidsT a).length < n) (ha2 : (kidsT a).length ≤ 1000000)
    (h : ∀ i j x y q r, (kidsT a).drop i = x :: q → (kidsT b).drop j = y :: r → evalFn Try.prog cfg0 n D 19 [.tree (encT x), .tree (encT y)] = some (.tree (.bool (sameT x y)), [[], []])) (env : Env) (s : St) (e2 : env 2 = .ptr 2 1 0) (e3 : env 3 = .ptr 3 1 0) (j2 : s 2 = ⟨1, .buf (cellsT a)⟩) (j3 : s 3 = ⟨1, .buf (cellsT b)⟩) (e5 : env 5 = .bool true) :
    den Try.prog cfg0 (evalFn Try.prog cfg0 n D) n rs20 (finK Try.prog (cfg0.keep 19) [.tree (encT a), .tree (encT b)] Try.f19.results) env s = some (.tree (.bool (sameK (kidsT a) (kidsT b))), [[], []]) := by
  obtain ⟨k, n1, lg, l, s1, i1, kg, us⟩ := a
  obtain ⟨k', n2, lg', l', s', i2, kg', vs⟩ := b
  simp only [kidsT] at ha ha2 h ⊢
  simp only [cellsT] at j2 j3
  by_cases hl : us.length = vs.length
  case neg =>
    have p1 : ((us.length : Int) != (vs.length : Int)) = true := by rw [bne_iff_ne]; omega
    rw [sameK_len us vs hl]
    simp only [rs20, codeRS, seqR, Try.f19, Option.getD_some, simB, zbo, Nat.reduceBEq, own0, ↓reduceIte, Nat.reduceEqDiff, Nat.reduceAdd, simL, simN, Nat.zero_add, e2, e3, e5, j2, j3, faT_4, ldT_4, Nat.reduceAdd, unA_not', Bool.not_true, lenTk, i_neqV, p1]
    exact finish_b _ _ _ _ _ _ _ (by simp only [zfk, ↓reduceIte, Nat.reduceEqDiff]; try rfl) rfl
  have p1 : ((us.length : Int) != (vs.length : Int)) = false := by rw [hl]; exact bne_self_eq_false _
  simp only [rs20, codeRS, seqR, Try.f19, Option.getD_some, simB, zbo, Nat.reduceBEq, own0, ↓reduceIte, Nat.reduceEqDiff, Nat.reduceAdd, simL, simN, Nat.zero_add, e2, e3, e5, j2, j3, faT_4, ldT_4, Nat.reduceAdd, unA_not', Bool.not_true, lenTk, i_neqV, p1, den_loop]
  refine loop_ends (X := Nat) (fun i env s => env 2 = .ptr 2 1 0 ∧ env 3 = .ptr 3 1 0 ∧ s 2 = ⟨1, .buf (cellsT (.mk k n1 lg l s1 i1 kg us))⟩ ∧ s 3 = ⟨1, .buf (cellsT (.mk k' n2 lg' l' s' i2 kg' vs))⟩ ∧ env 6 = .int .i64 (i : Int) ∧ i ≤ us.length ∧ sameK (us.drop i) (vs.drop i) = sameK us vs) (fun i => us.length - i) (fun _ => (.tree (.bool (sameK us vs)), [[], []])) ?_ n 0 _ _ (by omega) ⟨(by simp only [zfk, ↓reduceIte, Nat.reduceEqDiff, e2]; try rfl), (by simp only [zfk, ↓reduceIte, Nat.reduceEqDiff, e3]; try rfl), by simp only [cellsT]; exact j2, by simp only [cellsT]; exact j3, (by simp only [zfk, ↓reduceIte, Nat.reduceEqDiff]; try rfl), Nat.zero_le _, rfl⟩
  clear e2 e3 j2 j3 e5
  intro rr i hx ih env st ⟨e2, e3, j2, j3, e6, hi, hc⟩
  simp only [cellsT] at j2 j3
  cases hda : us.drop i with
  | nil =>
    have hil : i = us.length := by have := congrArg List.length hda; simp only [List.length_drop, List.length_nil] at this; omega
    have q1 : ¬ ((i : Int) < (us.length : Int)) := by omega
    have hdb : vs.drop i = [] := List.drop_eq_nil_of_le (by omega)
    rw [hda, hdb] at hc
    simp only [sameK] at hc
    rw [← hc]
    simp only [simB, zbo, Nat.reduceBEq, own0, ↓reduceIte, Nat.reduceEqDiff, Nat.reduceAdd, simL, simN, Nat.zero_add, e2, e3, j2, j3, e6, faT_4, ldT_4, Nat.reduceAdd, lenTk, q1]
    exact finish_b _ _ _ _ _ _ _ (by simp only [zfk, ↓reduceIte, Nat.reduceEqDiff]; try rfl) rfl
  | cons x q =>
    have hil : i < us.length := by have := congrArg List.length hda; simp only [List.length_drop, List.length_cons] at this; omega
    have hjl : i < vs.length := by omega
    have q1 : (i : Int) < (us.length : Int) := by omega
    have ia := fun st => ia_K st us (gr kg) i hil
    rw [hda] at ia hc
    have ld := fun st => ld_K st x q
    simp only [encT] at ld
    cases hdb : vs.drop i with
    | nil => have := congrArg List.length hdb; simp only [List.length_drop, List.length_nil] at this; omega
    | cons y r =>
      have ib := fun st => ia_K st vs (gr kg') i hjl
      rw [hdb] at ib hc
      have ldb := fun st => ld_K st y r
      simp only [encT] at ldb
      simp only [sameK] at hc
      have cc := callQ_trees (f := 19) (vs := [encT x, encT y]) rfl (h i i x y q r hda hdb)
      simp only [encT] at cc
      have f5 := i_add Try.prog 3 (i : Int) 1 (by omega) (by omega)
      cases g : sameT x y with
      | true =>
        rw [g, Bool.true_and] at hc
        rw [g] at cc
        simp only [simB, zbo, Nat.reduceBEq, own0, ↓reduceIte, Nat.reduceEqDiff, Nat.reduceAdd, simL, simN, Nat.zero_add, e2, e3, j2, j3, e6, faT_4, ldT_4, Nat.reduceAdd, q1, lenTk, ia, ib, ld, ldb, cc, unA_not', Bool.not_true, f5]
        exact ih (i + 1) _ _ (by omega) rfl ⟨(by simp only [zfk, ↓reduceIte, Nat.reduceEqDiff, e2]; try rfl), (by simp only [zfk, ↓reduceIte, Nat.reduceEqDiff, e3]; try rfl), by simp only [cellsT]; exact j2, by simp only [cellsT]; exact j3, (by simp only [zfk, ↓reduceIte, Nat.reduceEqDiff]; try rfl), by omega, by rw [drop_next hda, drop_next hdb]; exact hc⟩
      | false =>
        rw [g, Bool.false_and] at hc
        rw [g] at cc
        rw [← hc]
        simp only [simB, zbo, Nat.reduceBEq, own0, ↓reduceIte, Nat.reduceEqDiff, Nat.reduceAdd, simL, simN, Nat.zero_add, e2, e3, j2, j3, e6, faT_4, ldT_4, Nat.reduceAdd, q1, lenTk, ia, ib, ld, ldb, cc, unA_not', Bool.not_false, f5]
        exact finish_b _ _ _ _ _ _ _ (by simp only [zfk, ↓reduceIte, Nat.reduceEqDiff]; try rfl) rfl
end Go.Ab

/- relictref03.Same of any terms. Conditions: so many limbs, nodes at most. -/
namespace Go.Ab
open Go.Proofs
set_option maxRecDepth 100000
set_option linter.unusedSimpArgs false
set_option maxHeartbeats 32000000 in
theorem rsame_eq (n : Nat) (hn : n ≤ 1000001) : ∀ (d D : Nat) (a0 b0 : T), htT a0 ≤ d → d + 1 ≤ D → fewT n a0 →
    evalFn Try.prog cfg0 n D 19 [.tree (encT a0), .tree (encT b0)] = some (.tree (.bool (sameT a0 b0)), [[], []])
  | 0, _, a0, b0, hd, _, hf => by obtain ⟨k, b, lg, l, s, m, kg, ks⟩ := a0; simp only [htT] at hd; omega
  | d + 1, D, a0, b0, hd, hD, hf => by
    obtain ⟨m, rfl⟩ : ∃ m, D = m + 2 := ⟨D - 2, by omega⟩
    have IH := fun a b h1 h2 => rsame_eq n hn d (m + 1) a b h1 (by omega) h2
    rw [evalFn_go _ Try.func19 (by unfold Try.f19; rfl) (by unfold Try.f19; decide) (Nat.le_of_ble_eq_true (by unfold Try.f19; rfl)) (by kernel_rfl)]
    have K := rsameK_eq n (m + 1) a0 b0
    obtain ⟨k, n1, lg, l, s, i1, kg, ks⟩ := a0
    obtain ⟨k', n2, lg', l', s', i2, kg', ks'⟩ := b0
    have hf' : l.length < n ∧ ks.length < n ∧ fewK n ks := by simp only [fewT] at hf; exact hf
    have hhk : htK ks ≤ d := by simp only [htT] at hd; omega
    have c1 := fun D st => callA_trees (cfg := cfg0) (d := D) (s := st) (f := 35) (vs := [encA n1 lg l, encA n2 lg' l']) (by cases lg <;> cases lg' <;> rfl) (rsameNum_eq n m n1 n2 lg lg' l l' hf'.1 (by omega))
    simp only [encA] at c1
    simp only [kidsT] at K
    have K := fun env s => K hf'.2.1 (by omega) (fun i j x y q r h1 h2 => IH x y (by have := kids_ht ks i x q h1; omega) (fewK_at _ ks i x q h1 hf'.2.2)) env s
    simp only [encT] at K
    have iq : (i1 == i2) = decide (i1 = i2) := intEq _ _
    by_cases hk : k = k'
    case neg =>
      have p1 : (k != k') = true := by rw [bne_iff_ne]; exact hk
      have hr : sameT (.mk k n1 lg l s i1 kg ks) (.mk k' n2 lg' l' s' i2 kg' ks') = false := by first | (simp [sameT, kindT, sgnT, limT, strT, nT, kidsT, hk]; done) | (simp [sameT, kindT, sgnT, limT, strT, nT, kidsT, hk]; rfl)
      rw [hr]
      simp only [simB, zbo, Nat.reduceBEq, own0, ↓reduceIte, Nat.reduceEqDiff, Nat.reduceAdd, simA, simL, simN, Nat.zero_add, encT, cellsT, faT_0, ldT_0, i_neqV, p1]
      exact finish_b _ _ _ _ _ _ _ (by simp only [zfk, ↓reduceIte, Nat.reduceEqDiff]; try rfl) rfl
    subst hk
    have p1 : (k != k) = false := bne_self_eq_false _
    by_cases h1 : k = 1
    · subst h1
      have hr : sameT (.mk 1 n1 lg l s i1 kg ks) (.mk 1 n2 lg' l' s' i2 kg' ks') = (decide (n1 = n2) && decide (l = l')) := by first | (simp [sameT, kindT, sgnT, limT, strT, nT, kidsT]; done) | (simp [sameT, kindT, sgnT, limT, strT, nT, kidsT]; rfl)
      rw [hr]
      simp only [simB, zbo, Nat.reduceBEq, own0, ↓reduceIte, Nat.reduceEqDiff, Nat.reduceAdd, simA, simL, simN, Nat.zero_add, encT, cellsT, faT_0, faT_1, faT_2, faT_3, faT_4, ldT_0, ldT_1, ldT_2, ldT_3, ldT_4, Nat.reduceAdd, i_neqV, p1, i_eqlV, Int.reduceBEq, s_eqlS, c1]
      exact finish_b _ _ _ _ _ _ _ (by simp only [zfk, ↓reduceIte, Nat.reduceEqDiff]; try rfl) rfl
    have b1 : (k == 1) = false := beq_eq_false_iff_ne.mpr h1
    by_cases h2 : k = 2
    · subst h2
      have hr : sameT (.mk 2 n1 lg l s i1 kg ks) (.mk 2 n2 lg' l' s' i2 kg' ks') = (decide (s = s')) := by first | (simp [sameT, kindT, sgnT, limT, strT, nT, kidsT]; done) | (simp [sameT, kindT, sgnT, limT, strT, nT, kidsT]; rfl)
      rw [hr]
      simp only [simB, zbo, Nat.reduceBEq, own0, ↓reduceIte, Nat.reduceEqDiff, Nat.reduceAdd, simA, simL, simN, Nat.zero_add, encT, cellsT, faT_0, faT_1, faT_2, faT_3, faT_4, ldT_0, ldT_1, ldT_2, ldT_3, ldT_4, Nat.reduceAdd, i_neqV, p1, i_eqlV, Int.reduceBEq, s_eqlS, strEq]
      exact finish_b _ _ _ _ _ _ _ (by simp only [zfk, ↓reduceIte, Nat.reduceEqDiff]; try rfl) rfl
    have b2 : (k == 2) = false := beq_eq_false_iff_ne.mpr h2
    by_cases h6 : k = 6
    · subst h6
      have hr : sameT (.mk 6 n1 lg l s i1 kg ks) (.mk 6 n2 lg' l' s' i2 kg' ks') = (decide (s = s')) := by first | (simp [sameT, kindT, sgnT, limT, strT, nT, kidsT]; done) | (simp [sameT, kindT, sgnT, limT, strT, nT, kidsT]; rfl)
      rw [hr]
      simp only [simB, zbo, Nat.reduceBEq, own0, ↓reduceIte, Nat.reduceEqDiff, Nat.reduceAdd, simA, simL, simN, Nat.zero_add, encT, cellsT, faT_0, faT_1, faT_2, faT_3, faT_4, ldT_0, ldT_1, ldT_2, ldT_3, ldT_4, Nat.reduceAdd, i_neqV, p1, i_eqlV, Int.reduceBEq, s_eqlS, strEq]
      exact finish_b _ _ _ _ _ _ _ (by simp only [zfk, ↓reduceIte, Nat.reduceEqDiff]; try rfl) rfl
    have b6 : (k == 6) = false := beq_eq_false_iff_ne.mpr h6
    by_cases h8 : k = 8
    · subst h8
      have hr : sameT (.mk 8 n1 lg l s i1 kg ks) (.mk 8 n2 lg' l' s' i2 kg' ks') = (decide (s = s') && decide (i1 = i2)) := by first | (simp [sameT, kindT, sgnT, limT, strT, nT, kidsT]; done) | (simp [sameT, kindT, sgnT, limT, strT, nT, kidsT]; rfl)
      rw [hr]
      by_cases g : s = s'
      · have g' : (s == s') = true := beq_iff_eq.mpr g
        rw [decide_eq_true g, Bool.true_and]
        simp only [simB, zbo, Nat.reduceBEq, own0, ↓reduceIte, Nat.reduceEqDiff, Nat.reduceAdd, simA, simL, simN, Nat.zero_add, encT, cellsT, faT_0, faT_1, faT_2, faT_3, faT_4, ldT_0, ldT_1, ldT_2, ldT_3, ldT_4, Nat.reduceAdd, i_neqV, p1, i_eqlV, Int.reduceBEq, s_eqlS, g', iq]
        exact finish_b _ _ _ _ _ _ _ (by simp only [zfk, ↓reduceIte, Nat.reduceEqDiff]; try rfl) rfl
      · have g' : (s == s') = false := beq_eq_false_iff_ne.mpr g
        rw [decide_eq_false g, Bool.false_and]
        simp only [simB, zbo, Nat.reduceBEq, own0, ↓reduceIte, Nat.reduceEqDiff, Nat.reduceAdd, simA, simL, simN, Nat.zero_add, encT, cellsT, faT_0, faT_1, faT_2, faT_3, faT_4, ldT_0, ldT_1, ldT_2, ldT_3, ldT_4, Nat.reduceAdd, i_neqV, p1, i_eqlV, Int.reduceBEq, s_eqlS, g', iq]
        exact finish_b _ _ _ _ _ _ _ (by simp only [zfk, ↓reduceIte, Nat.reduceEqDiff]; try rfl) rfl
    have b8 : (k == 8) = false := beq_eq_false_iff_ne.mpr h8
    by_cases h9 : k = 9
    · subst h9
      have hr : sameT (.mk 9 n1 lg l s i1 kg ks) (.mk 9 n2 lg' l' s' i2 kg' ks') = (decide (i1 = i2)) := by first | (simp [sameT, kindT, sgnT, limT, strT, nT, kidsT]; done) | (simp [sameT, kindT, sgnT, limT, strT, nT, kidsT]; rfl)
      rw [hr]
      simp only [simB, zbo, Nat.reduceBEq, own0, ↓reduceIte, Nat.reduceEqDiff, Nat.reduceAdd, simA, simL, simN, Nat.zero_add, encT, cellsT, faT_0, faT_1, faT_2, faT_3, faT_4, ldT_0, ldT_1, ldT_2, ldT_3, ldT_4, Nat.reduceAdd, i_neqV, p1, i_eqlV, Int.reduceBEq, s_eqlS, iq]
      exact finish_b _ _ _ _ _ _ _ (by simp only [zfk, ↓reduceIte, Nat.reduceEqDiff]; try rfl) rfl
    have b9 : (k == 9) = false := beq_eq_false_iff_ne.mpr h9
    by_cases h7 : k = 7
    · subst h7
      have hr : sameT (.mk 7 n1 lg l s i1 kg ks) (.mk 7 n2 lg' l' s' i2 kg' ks') = (decide (i1 = i2) && sameK ks ks') := by first | (simp [sameT, kindT, sgnT, limT, strT, nT, kidsT]; done) | (simp [sameT, kindT, sgnT, limT, strT, nT, kidsT]; rfl)
      rw [hr]
      by_cases g : i1 = i2
      · have g' : (i1 == i2) = true := beq_iff_eq.mpr g
        rw [decide_eq_true g, Bool.true_and]
        simp only [simD, zbo, Nat.reduceBEq, own0, ↓reduceIte, Nat.reduceEqDiff, Nat.reduceAdd, simA, simL, simN, Nat.zero_add, encT, cellsT, faT_0, faT_1, faT_2, faT_3, faT_4, ldT_0, ldT_1, ldT_2, ldT_3, ldT_4, Nat.reduceAdd, i_neqV, p1, i_eqlV, Int.reduceBEq, s_eqlS, zci, g', den_loop]
        rw [zcl, zci]
        exact K _ _ (by simp only [zfk, ↓reduceIte, Nat.reduceEqDiff]; try rfl) (by simp only [zfk, ↓reduceIte, Nat.reduceEqDiff]; try rfl) (by simp only [zfk, ↓reduceIte, Nat.reduceEqDiff]; try rfl) (by simp only [zfk, ↓reduceIte, Nat.reduceEqDiff]; try rfl) (by simp only [zfk, ↓reduceIte, Nat.reduceEqDiff]; try rfl)
      · have g' : (i1 == i2) = false := beq_eq_false_iff_ne.mpr g
        rw [decide_eq_false g, Bool.false_and]
        simp only [simB, zbo, Nat.reduceBEq, own0, ↓reduceIte, Nat.reduceEqDiff, Nat.reduceAdd, simA, simL, simN, Nat.zero_add, encT, cellsT, faT_0, faT_1, faT_2, faT_3, faT_4, ldT_0, ldT_1, ldT_2, ldT_3, ldT_4, Nat.reduceAdd, i_neqV, p1, i_eqlV, Int.reduceBEq, s_eqlS, g', unA_not', Bool.not_false]
        exact finish_b _ _ _ _ _ _ _ (by simp only [zfk, ↓reduceIte, Nat.reduceEqDiff]; try rfl) rfl
    have b7 : (k == 7) = false := beq_eq_false_iff_ne.mpr h7
    by_cases h4 : k = 4
    · subst h4
      have hr : sameT (.mk 4 n1 lg l s i1 kg ks) (.mk 4 n2 lg' l' s' i2 kg' ks') = (sameK ks ks') := by first | (simp [sameT, kindT, sgnT, limT, strT, nT, kidsT]; done) | (simp [sameT, kindT, sgnT, limT, strT, nT, kidsT]; rfl)
      rw [hr]
      simp only [simD, zbo, Nat.reduceBEq, own0, ↓reduceIte, Nat.reduceEqDiff, Nat.reduceAdd, simA, simL, simN, Nat.zero_add, encT, cellsT, faT_0, faT_1, faT_2, faT_3, faT_4, ldT_0, ldT_1, ldT_2, ldT_3, ldT_4, Nat.reduceAdd, i_neqV, p1, i_eqlV, Int.reduceBEq, s_eqlS, zci, den_loop]
      rw [zcl, zci]
      exact K _ _ (by simp only [zfk, ↓reduceIte, Nat.reduceEqDiff]; try rfl) (by simp only [zfk, ↓reduceIte, Nat.reduceEqDiff]; try rfl) (by simp only [zfk, ↓reduceIte, Nat.reduceEqDiff]; try rfl) (by simp only [zfk, ↓reduceIte, Nat.reduceEqDiff]; try rfl) (by simp only [zfk, ↓reduceIte, Nat.reduceEqDiff]; try rfl)
    have b4 : (k == 4) = false := beq_eq_false_iff_ne.mpr h4
    by_cases h5 : k = 5
    · subst h5
      have hr : sameT (.mk 5 n1 lg l s i1 kg ks) (.mk 5 n2 lg' l' s' i2 kg' ks') = (sameK ks ks') := by first | (simp [sameT, kindT, sgnT, limT, strT, nT, kidsT]; done) | (simp [sameT, kindT, sgnT, limT, strT, nT, kidsT]; rfl)
      rw [hr]
      simp only [simD, zbo, Nat.reduceBEq, own0, ↓reduceIte, Nat.reduceEqDiff, Nat.reduceAdd, simA, simL, simN, Nat.zero_add, encT, cellsT, faT_0, faT_1, faT_2, faT_3, faT_4, ldT_0, ldT_1, ldT_2, ldT_3, ldT_4, Nat.reduceAdd, i_neqV, p1, i_eqlV, Int.reduceBEq, s_eqlS, zci, den_loop]
      rw [zcl, zci]
      exact K _ _ (by simp only [zfk, ↓reduceIte, Nat.reduceEqDiff]; try rfl) (by simp only [zfk, ↓reduceIte, Nat.reduceEqDiff]; try rfl) (by simp only [zfk, ↓reduceIte, Nat.reduceEqDiff]; try rfl) (by simp only [zfk, ↓reduceIte, Nat.reduceEqDiff]; try rfl) (by simp only [zfk, ↓reduceIte, Nat.reduceEqDiff]; try rfl)
    have b5 : (k == 5) = false := beq_eq_false_iff_ne.mpr h5
    have hr : sameT (.mk k n1 lg l s i1 kg ks) (.mk k n2 lg' l' s' i2 kg' ks') = true := by first | (simp [sameT, kindT, sgnT, limT, strT, nT, kidsT, h1, h2, h4, h5, h6, h7, h8, h9]; done) | (simp [sameT, kindT, sgnT, limT, strT, nT, kidsT, h1, h2, h4, h5, h6, h7, h8, h9]; rfl)
    rw [hr]
    simp only [simB, zbo, Nat.reduceBEq, own0, ↓reduceIte, Nat.reduceEqDiff, Nat.reduceAdd, simA, simL, simN, Nat.zero_add, encT, cellsT, faT_0, ldT_0, i_neqV, p1, i_eqlV, b1, b2, b4, b5, b6, b7, b8, b9]
    exact finish_b _ _ _ _ _ _ _ (by simp only [zfk, ↓reduceIte, Nat.reduceEqDiff]; try rfl) rfl
end Go.Ab

/- bif.number, bif.empty, bif.text; relictref03.List, relictlaw00.Proper. Conditions: lengths in range. -/
namespace Go.Ab
open Go.Proofs
set_option maxRecDepth 100000
set_option linter.unusedSimpArgs false

def numG (v : Int) : Gk := if v.natAbs = 0 then .n else .l
def smallT (v : Int) : T := .mk 1 (decide (v < 0)) (numG v) (digs v.natAbs) [] 0 .n []
theorem encZ_G (v : Int) : encZ v = .agg [.bool (decide (v < 0)), encL (numG v) (digs v.natAbs)] := rfl
theorem Ap.lent {s : St} {d : Nat} {x : AV} {us : List T} (h : Ap s d x us) : isLent x = true ∧ loosen x = .sl (cellsK us) us.length (gr (kgOf us)) := by
  rcases h with ⟨rfl, rfl⟩ | ⟨hu, t, rfl, _⟩
  · exact ⟨rfl, rfl⟩
  · exact ⟨rfl, by simp only [loosen, kgOf, if_neg hu, gr]⟩
def one26 (x : AV) : Option AV := (fillA (fun i => some (i * 6, 6)) (rep 1 zeroT6) [(0, x)]).map (.sl · 1 .tight)
theorem one26_T (e : T) : one26 (.agg (cellsT e)) = some (.sl (cellsT e) 1 .tight) := bs1T e
end Go.Ab

/- The reference's Int, Neg, Bits; copies of numbers. Conditions: limbs in range. -/
namespace Go.Ab
open Go.Proofs
set_option maxRecDepth 100000
set_option linter.unusedSimpArgs false

end Go.Ab

/- The reference's Div. Conditions: limbs in range, not too many. -/
namespace Go.Ab
open Go.Proofs
set_option maxRecDepth 100000
set_option linter.unusedSimpArgs false

end Go.Ab

/- The reference's sums, products, quotients of numbers. Conditions: limbs in range. -/
namespace Go.Ab
open Go.Proofs
set_option maxRecDepth 100000
set_option linter.unusedSimpArgs false

section
variable (n d : Nat) (hn : 100000 ≤ n)
include hn
end
section
variable (n d : Nat) (hn : 100000 ≤ n) {w w' : AV} {z z' : Int} (hw : IsN w z) (hw' : IsN w' z')
include hn hw hw'
set_option maxHeartbeats 8000000
end
end Go.Ab

/- Bits of numbers with signs, as so many limbs: plain arithmetic. -/
namespace Go.Ab
end Go.Ab

/- Bits with all ones, with nought, with themselves: plain arithmetic. -/
namespace Go.Ab
section
variable (n x : Nat) (h : x < 2 ^ n)
include h
end
section
variable (z : Int) (h : z.natAbs < B ^ 12)
include h
end
end Go.Ab

/- And, or, exclusive or together, of numbers with room: plain arithmetic. -/
namespace Go.Ab
end Go.Ab

/- Bits of numbers below 0, in so many bits as have room. Pure mathematics. -/
namespace Go.Ab
end Go.Ab

/- The reference's bits of numbers. Pure mathematics. -/
namespace Go.Ab
def f3 (op : Nat) (p q : Bool) : Bool := if op = 6 then p && q else if op = 7 then p || q else !(p == q)
section
variable {N op : Nat} {a b : Int} (ha : a.natAbs < 2 ^ N) (hb : b.natAbs < 2 ^ N)
include ha hb
end
end Go.Ab

/- The reference's bits: and, or, exclusive or, bit by bit. Conditions: limbs in range. -/
namespace Go.Ab
open Go.Proofs
set_option maxRecDepth 100000
set_option linter.unusedSimpArgs false

end Go.Ab

/- The reference's bits: the walk. Conditions: limbs in range. -/
namespace Go.Ab
open Go.Proofs
set_option maxRecDepth 100000
set_option linter.unusedSimpArgs false

end Go.Ab

/- The reference's shifts, and how far. Conditions: limbs in range. -/
namespace Go.Ab
open Go.Proofs
set_option maxRecDepth 100000
set_option linter.unusedSimpArgs false

-- Down.
-- Up.
end Go.Ab

/- And, or, exclusive or of limbs; a number's bits. Conditions: numbers that are shown. -/
namespace Go.Ab
open Go.Proofs
set_option maxRecDepth 100000
set_option linter.unusedSimpArgs false

end Go.Ab

/- A number's bits. Conditions: numbers that are shown. -/
namespace Go.Ab
open Go.Proofs
set_option maxRecDepth 100000
set_option linter.unusedSimpArgs false

end Go.Ab

/- Logic of numbers. Conditions: numbers that are shown. -/
namespace Go.Ab
open Go.Proofs
set_option maxRecDepth 100000
set_option linter.unusedSimpArgs false

end Go.Ab

/- Op: logic; the statements' own way to call it. Conditions: numbers that are shown. -/
namespace Go.Ab
open Go.Proofs
set_option maxRecDepth 100000
set_option linter.unusedSimpArgs false
section
variable (n d : Nat) (hn : 100000 ≤ n) {w w' : AV} {z z' : Int} (hw : IsN w z) (hw' : IsN w' z')
include hn hw hw'
set_option maxHeartbeats 8000000
end
end Go.Ab

/- Op: shifts. Conditions: numbers that are shown. -/
namespace Go.Ab
open Go.Proofs
set_option maxRecDepth 100000
set_option linter.unusedSimpArgs false
section
variable (n d : Nat) (hn : 100000 ≤ n) {w w' : AV} {z z' : Int} (hw : IsN w z) (hw' : IsN w' z')
include hn hw hw'
set_option maxHeartbeats 8000000
end
end Go.Ab

/- The reference's Op, any op; the program's, of an op that is none. Conditions: limbs in range. -/
namespace Go.Ab
open Go.Proofs
set_option maxRecDepth 100000
set_option linter.unusedSimpArgs false

section
variable (n d : Nat) (hn : 100000 ≤ n) {w w' : AV} {z z' : Int} (hw : IsN w z) (hw' : IsN w' z')
include hn hw hw'
set_option maxHeartbeats 8000000
end
end Go.Ab

/- The statement NumRooms, abstractly. Conditions: an int. -/
namespace Go.Ab
open Go.Proofs
set_option maxRecDepth 100000
set_option linter.unusedSimpArgs false

end Go.Ab

/- Op, any op: the program's and the reference's give the same number. Conditions: numbers that are shown. -/
namespace Go.Ab
open Go.Proofs
set_option maxRecDepth 100000
set_option linter.unusedSimpArgs false

section
variable (n d : Nat) (hn : 100000 ≤ n) {w w' : AV} {z z' : Int} (hw : IsN w z) (hw' : IsN w' z')
include hn hw hw'
set_option maxHeartbeats 8000000
end
end Go.Ab

/- The number statements' own example, by the kernel's own reckoning. No conditions. -/
namespace Go.Ab
open Go.Proofs
end Go.Ab

/- The statement NumOrders, abstractly. Conditions: limbs in range. -/
namespace Go.Ab
open Go.Proofs
set_option maxRecDepth 100000
set_option linter.unusedSimpArgs false

end Go.Ab

/- The statement NumAll, abstractly. Conditions: limbs in range, an int in range. -/
namespace Go.Ab
open Go.Proofs
set_option maxRecDepth 100000
set_option linter.unusedSimpArgs false

end Go.Ab

/- Numbers as texts. Pure mathematics. -/
namespace Go.Ab
end Go.Ab

/- Strings: what the library's functions upon them give. Conditions: lengths in range. -/
namespace Go.Ab
open Go.Proofs
set_option maxRecDepth 100000
set_option linter.unusedSimpArgs false

end Go.Ab

/- strings.Trim by the digits. Conditions: lengths in range. -/
namespace Go.Ab
open Go.Proofs
set_option maxRecDepth 100000
set_option linter.unusedSimpArgs false

end Go.Ab

/- The statement NumInts, abstractly. Conditions: two ints. -/
namespace Go.Ab
open Go.Proofs
set_option maxRecDepth 100000
set_option linter.unusedSimpArgs false

section
variable (a b : Int)
variable (ha : a.natAbs ≤ 2147483648) (hb : b.natAbs ≤ 2147483648)
include ha hb
end
end Go.Ab

/- A number's text. Conditions: a number that is shown. -/
namespace Go.Ab
open Go.Proofs
set_option maxRecDepth 100000
set_option linter.unusedSimpArgs false

end Go.Ab

/- A number's text: the walk. Conditions: a number that is shown. -/
namespace Go.Ab
open Go.Proofs
set_option maxRecDepth 100000
set_option linter.unusedSimpArgs false

end Go.Ab

/- relictref03.List, relictlaw00.Proper; rows of ints that grow. Conditions: lengths in range. -/
namespace Go.Ab
open Go.Proofs
set_option maxRecDepth 100000
set_option linter.unusedSimpArgs false

def ApI (s : St) (d : Nat) (x : AV) (us : List Int) : Prop := (us = [] ∧ x = .sl [] 0 .nil) ∨ (us ≠ [] ∧ ∃ t, x = .sl (intsA us) us.length (.tok d t) ∧ s d = ⟨t, .tok 1⟩)
def giOf (us : List Int) : Gk := if us = [] then .n else .l
theorem ApI.lent {s : St} {d : Nat} {x : AV} {us : List Int} (h : ApI s d x us) : isLent x = true ∧ loosen x = .sl (intsA us) us.length (gr (giOf us)) ∧ (isTree x = true → x = .sl (intsA us) us.length (gr (giOf us))) := by
  rcases h with ⟨rfl, rfl⟩ | ⟨hu, t, rfl, _⟩
  · exact ⟨rfl, rfl, fun _ => rfl⟩
  · exact ⟨rfl, by simp only [loosen, giOf, if_neg hu, gr], fun h => nomatch h⟩
end Go.Ab

/- Terms as bytes: what is written, what is read, in plain words. No conditions. -/
namespace Go.Ab
open Go.Proofs
set_option maxRecDepth 100000
set_option linter.unusedSimpArgs false

def T0 : T := .mk 0 false .n [] [] 0 .n []
theorem bdY_00 : buildA Try.prog 28 [] = some (.agg (cellsT T0)) := by
  simp only [buildA, zeroT, tkT, plT, Option.bind_some, fillA]; rfl
def u8 (z : Int) : UInt8 := UInt8.ofNat (z % 256).toNat
def be32 (v : Int) : List UInt8 := [u8 (v / 16777216), u8 (v / 65536), u8 (v / 256), u8 v]
def limB (l : List Nat) (i : Nat) : UInt8 := UInt8.ofNat (l.getD (i / 4) 0 / 2 ^ (8 * (i % 4)) % 256)
def limBs (l : List Nat) (k : Nat) : List UInt8 := (List.range k).map (limB l)
def numB (b : Bool) (l : List Nat) : List UInt8 :=
  if 0 ≤ numZ b l ∧ numZ b l ≤ 255 then [97, u8 (numZ b l)]
  else if -2147483648 ≤ numZ b l ∧ numZ b l ≤ 2147483647 then 98 :: be32 (numZ b l)
  else 110 :: u8 ((blen (numZ b l).natAbs + 7) / 8 : Nat) :: (if b then 1 else 0) :: limBs l ((blen (numZ b l).natAbs + 7) / 8)
mutual
def putA : T → List UInt8 × List UInt8 × Nat
  | .mk k b _ l s _ _ ks =>
    if k = 4 then (108 :: (be32 (putP ks).2 ++ (putP ks).1), (putP ks).1, (putP ks).2)
    else
      (if k = 1 then numB b l else if k = 2 then 119 :: u8 s.length :: s else if k = 3 then [106] else if k = 5 then 104 :: u8 ks.length :: putK ks else 109 :: (be32 s.length ++ s),
       if k = 1 then numB b l else if k = 2 then 119 :: u8 s.length :: s else if k = 3 then [106] else if k = 5 then 104 :: u8 ks.length :: putK ks else 109 :: (be32 s.length ++ s), 0)
def putK : List T → List UInt8
  | [] => []
  | t :: r => (putA t).1 ++ putK r
def putP : List T → List UInt8 × Nat
  | [] => ([], 1)
  | h :: r => ((putA h).1 ++ putQ r, putN r)
def putQ : List T → List UInt8
  | [] => []
  | t :: _ => (putA t).2.1
def putN : List T → Nat
  | [] => 1
  | t :: _ => (putA t).2.2 + 1
end
def putB (t : T) : List UInt8 := (putA t).1

structure RS where
  i : Nat
  tm : Int
  e : Int
def RS.fail (s : RS) (e : Int) : RS := if s.e = 0 then ⟨s.i, s.tm, e⟩ else s
def takeR (bs : List UInt8) (s : RS) (n : Nat) : Option (List UInt8) × RS :=
  if s.e ≠ 0 ∨ bs.length < s.i + n then (none, s.fail 3) else (some ((bs.drop s.i).take n), ⟨s.i + n, s.tm, s.e⟩)
def beV : List UInt8 → Int → Int
  | [], v => v
  | b :: r, v => beV r (v * 256 + (b.toNat : Int))
def manyR (bs : List UInt8) (s : RS) (n : Nat) (least most : Int) : Int × RS :=
  let o := takeR bs s n
  let v := beV (o.1.getD []) 0
  if o.2.e ≠ 0 then (0, o.2) else if v < least ∨ most < v then (0, o.2.fail 4) else (v, o.2)
def limR (x : List UInt8) : Nat → Nat → List Nat
  | 0, _ => []
  | m + 1, j => ((x.getD (4 * j) 0).toNat + 256 * (x.getD (4 * j + 1) 0).toNat + 65536 * (x.getD (4 * j + 2) 0).toNat + 16777216 * (x.getD (4 * j + 3) 0).toNat) :: limR x m (j + 1)
def bigR (x : List UInt8) : Bool × Gk × List Nat := if x.length < 2 then (false, .n, []) else (x.headD 0 == 1, .l, limR x.tail ((x.length + 2) / 4) 0)
def i32 (v : Int) : Int := if v < 2147483648 then v else v - 4294967296
def int0 : T := .mk 1 false .n [] [] 0 .n []
def one97 : List UInt8 → T
  | [x] => smallT (x.toNat : Int)
  | _ => int0
def plainR (bs : List UInt8) (s : RS) (tag : Nat) (from_ : Nat) : T × RS :=
  let p : T × RS :=
    if tag = 97 then
      let o := takeR bs s 1
      (one97 (o.1.getD []), o.2)
    else if tag = 98 then
      let o := takeR bs s 4
      (match o.1 with | some x => smallT (i32 (beV x 0)) | none => .mk 1 false .n [] [] 0 .n [], o.2)
    else if tag = 110 then
      let m := manyR bs s 1 1 48
      let o := takeR bs m.2 (1 + m.1.toNat)
      let g := bigR (o.1.getD [])
      (.mk 1 g.1 g.2.1 g.2.2 [] 0 .n [], o.2)
    else if tag = 119 then
      let m := manyR bs s 1 1 40
      let o := takeR bs m.2 m.1.toNat
      (.mk 2 false .n [] (o.1.getD []) 0 .n [], o.2)
    else if tag = 109 then
      let m := manyR bs s 4 0 400
      let o := takeR bs m.2 m.1.toNat
      (.mk 6 false .n [] (o.1.getD []) 0 .n [], o.2)
    else (nilT', s)
  (p.1, if p.2.e = 0 ∧ ¬ (putB p.1 = (bs.drop from_).take (p.2.i - from_) ∧ ownT p.1 = true) then p.2.fail 4 else p.2)
def someR (rd : RS → T × RS) : Nat → RS → List T → List T × RS
  | 0, s, acc => (acc, s)
  | n + 1, s, acc => let r := rd s; if r.2.e ≠ 0 then (acc, r.2) else someR rd n r.2 (acc ++ [r.1])
def termR (bs : List UInt8) : Nat → Int → RS → T × RS
  | 0, _, s => (T0, s)
  | f + 1, deep, s =>
    let o := takeR bs s 1
    if o.2.e ≠ 0 then (T0, o.2) else
    let s1 : RS := ⟨o.2.i, o.2.tm + 1, o.2.e⟩
    let tag := ((o.1.getD []).headD 0).toNat
    if s1.tm > 2000 ∨ deep > 60 then (T0, s1.fail 4)
    else if tag = 97 ∨ tag = 98 ∨ tag = 110 ∨ tag = 119 ∨ tag = 109 ∨ tag = 106 then plainR bs s1 tag s.i
    else if tag = 108 then
      let m := manyR bs s1 4 1 (2001 - s1.tm)
      let h := someR (termR bs f (deep + 1)) m.1.toNat ⟨m.2.i, m.2.tm + (m.1 - 1), m.2.e⟩ []
      let t := termR bs f deep h.2
      (listT h.1 t.1, if kindT t.1 = 4 then t.2.fail 4 else t.2)
    else if tag = 104 then
      let m := manyR bs s1 1 0 40
      let h := someR (termR bs f (deep + 1)) m.1.toNat m.2 []
      (tupT (kgOf h.1) h.1, h.2)
    else (T0, s1.fail 4)
def getR (bs : List UInt8) (at_ : Int) : T × Int × Int :=
  if at_ < 0 ∨ at_ > bs.length then (T0, 0, 1) else
  let r := termR bs (bs.length + 2) 1 ⟨at_.toNat, 0, 0⟩
  if r.2.e ≠ 0 then (T0, 0, r.2.e) else (r.1, (r.2.i : Int), 0)
end Go.Ab

/- Terms that may be: by their parts; as term.Check and relictref03.Check count them. No conditions. -/
namespace Go.Ab
open Go.Proofs
set_option maxRecDepth 100000
set_option linter.unusedSimpArgs false

mutual
def okD : T → Int → Prop
  | .mk k b lg l s n kg ks, d => d ≤ 60 ∧ ownT (.mk k b lg l s n kg ks) = true ∧ okJ k ks 0 d
def okJ (k : Int) : List T → Nat → Int → Prop
  | [], _, _ => True
  | t :: r, i, d => okD t (if k = 4 ∧ i = 1 then d else d + 1) ∧ okJ k r (i + 1) d
end
mutual
theorem rw_okD : ∀ (t : T) (deep n : Int), 0 ≤ n → 0 ≤ rwT t deep n → okD t deep ∧ rwT t deep n = n + nodT t ∧ rwT t deep n ≤ 2000
  | .mk k b lg l s m kg ks, deep, n, hn, h => by
    simp only [rwT, nodT] at h ⊢
    split at h
    · omega
    · rename_i hg
      have ho : ownT (.mk k b lg l s m kg ks) = true := by
        cases h0 : ownT (.mk k b lg l s m kg ks)
        · exact absurd (.inr (.inr h0)) hg
        · rfl
      have hd : deep ≤ 60 := by omega
      simp only [hg, ↓reduceIte]
      have := rw_okJ k ks 0 deep (n + 1) (by omega) (by omega) h
      simp only [okD]
      exact ⟨⟨hd, ho, this.1⟩, by omega, this.2.2⟩
theorem rw_okJ (k : Int) : ∀ (ks : List T) (i : Nat) (deep n : Int), 0 ≤ n → n ≤ 2000 → 0 ≤ rwK k ks i deep n → okJ k ks i deep ∧ rwK k ks i deep n = n + nodK ks ∧ rwK k ks i deep n ≤ 2000
  | [], i, deep, n, hn, hn2, h => by simp only [rwK, okJ, nodK] at h ⊢; exact ⟨trivial, by omega, hn2⟩
  | t :: r, i, deep, n, hn, hn2, h => by
    simp only [rwK, okJ, nodK] at h ⊢
    generalize (if k = 4 ∧ i = 1 then deep else deep + 1) = dd at h ⊢
    split at h
    · omega
    · rename_i hg
      have a := rw_okD t dd n hn (by omega)
      have b := rw_okJ k r (i + 1) deep _ (by omega) (by omega) h
      simp only [hg, ↓reduceIte]
      exact ⟨⟨a.1, b.1⟩, by omega, b.2.2⟩
end
theorem okJ_no4 {k : Int} (hk : k ≠ 4) : ∀ (ks : List T) (i j : Nat) (d : Int), okJ k ks i d ↔ okJ k ks j d
  | [], _, _, _ => by simp only [okJ]
  | t :: r, i, j, d => by
    simp only [okJ]
    rw [if_neg (by omega), if_neg (by omega), okJ_no4 hk r (i + 1) (j + 1) d]
mutual
theorem chk_okD : ∀ (t : T) (deep left : Int), (chkT t deep left).1 = true → okD t deep
  | .mk k b lg l s m kg ks, deep, left, h => by
    simp only [chkT] at h
    split at h
    · cases h
    · rename_i hg
      have ho : ownT (.mk k b lg l s m kg ks) = true := by
        cases h0 : ownT (.mk k b lg l s m kg ks)
        · exact absurd (.inr (.inr h0)) hg
        · rfl
      simp only [okD]
      refine ⟨by omega, ho, ?_⟩
      split at h
      · rename_i hk
        subst hk
        exact chk_okC ks deep _ ho h
      · rename_i hk
        exact (okJ_no4 hk ks 0 0 deep).1 (chk_okK k hk ks deep _ h)
theorem chk_okC {b : Bool} {lg : Gk} {l : List Nat} {s : List UInt8} {m : Int} {kg : Gk} : ∀ (ks : List T) (deep left : Int), ownT (.mk 4 b lg l s m kg ks) = true → (chkC ks deep left).1 = true → okJ 4 ks 0 deep
  | [], deep, left, _, h => by simp only [okJ]
  | [x], deep, left, ho, h => by
    obtain ⟨_, _, e⟩ := own_kids ho rfl
    cases e
  | [x, y], deep, left, ho, h => by
    simp only [chkC, chkL] at h
    simp only [okJ, and_true]
    split at h
    · rename_i h1
      exact ⟨by simpa using chk_okD x _ _ h1, by simpa using chk_okD y _ _ h⟩
    · rename_i h1; exact absurd h h1
  | x :: y :: z :: r, deep, left, ho, h => by
    obtain ⟨_, _, e⟩ := own_kids ho rfl
    cases e
theorem chk_okK (k : Int) (hk : k ≠ 4) : ∀ (ks : List T) (deep left : Int), (chkK ks (deep + 1) left).1 = true → okJ k ks 0 deep
  | [], deep, left, h => by simp only [okJ]
  | t :: r, deep, left, h => by
    simp only [chkK] at h
    simp only [okJ]
    split at h
    · rename_i h1
      refine ⟨?_, (okJ_no4 hk r 0 1 deep).1 (chk_okK k hk r deep _ h)⟩
      rw [if_neg (by omega)]
      exact chk_okD t _ _ h1
    · rename_i h1; exact absurd h h1
end
mutual
theorem okD_chk : ∀ (t : T) (deep left : Int), okD t deep → nodT t ≤ left → chkT t deep left = (true, left - nodT t)
  | .mk k b lg l s m kg ks, deep, left, h, hl => by
    simp only [okD] at h
    simp only [nodT] at hl ⊢
    simp only [chkT]
    rw [if_neg (by rw [h.2.1]; simp; omega)]
    split
    · rename_i hk
      subst hk
      rw [okJ_chkC ks deep _ h.2.1 h.2.2 (by omega)]
      congr 1; omega
    · rename_i hk
      rw [okJ_chkK k hk ks 0 deep _ h.2.2 (by omega)]
      congr 1; omega
theorem okJ_chkC {b : Bool} {lg : Gk} {l : List Nat} {s : List UInt8} {m : Int} {kg : Gk} : ∀ (ks : List T) (deep left : Int), ownT (.mk 4 b lg l s m kg ks) = true → okJ 4 ks 0 deep → nodK ks ≤ left → chkC ks deep left = (true, left - nodK ks)
  | [], deep, left, ho, h, _ => by
    obtain ⟨_, _, e⟩ := own_kids ho rfl
    cases e
  | [x], deep, left, ho, h, _ => by
    obtain ⟨_, _, e⟩ := own_kids ho rfl
    cases e
  | [x, y], deep, left, ho, h, hl => by
    simp only [okJ, and_true] at h
    simp only [nodK] at hl ⊢
    have h1 : okD x (deep + 1) := by simpa using h.1
    have h2 : okD y deep := by simpa using h.2
    simp only [chkC, chkL]
    rw [okD_chk x _ _ h1 (by omega)]
    simp only [if_true]
    rw [okD_chk y _ _ h2 (by omega)]
    congr 1; omega
  | x :: y :: z :: r, deep, left, ho, h, _ => by
    obtain ⟨_, _, e⟩ := own_kids ho rfl
    cases e
theorem okJ_chkK (k : Int) (hk : k ≠ 4) : ∀ (ks : List T) (i : Nat) (deep left : Int), okJ k ks i deep → nodK ks ≤ left → chkK ks (deep + 1) left = (true, left - nodK ks)
  | [], i, deep, left, h, hl => by simp only [chkK, nodK]; congr 1; omega
  | t :: r, i, deep, left, h, hl => by
    simp only [okJ] at h
    simp only [nodK] at hl ⊢
    have h1 : okD t (deep + 1) := by have := h.1; rwa [if_neg (by omega)] at this
    simp only [chkK]
    rw [okD_chk t _ _ h1 (by omega)]
    simp only [if_true]
    rw [okJ_chkK k hk r (i + 1) deep _ h.2 (by omega)]
    congr 1; omega
end
end Go.Ab

/- The run of what writes and reads bytes; bytes put behind others (CFG5). Conditions: lengths in range. -/
namespace Go.Ab
open Go.Proofs
set_option maxRecDepth 100000
set_option linter.unusedSimpArgs false

def run5 (f : FuncId) : Bool := f == 47 || f == 49 || f == 46 || f == 48 || f == 28 || f == 30 || f == 52 || f == 51 || f == 31 || f == 53 || f == 54 || f == 55 || f == 56 || f == 57 || f == 58 || f == 32 || f == 59 || f == 60 || f == 61 || f == 62 || f == 64 || f == 65 || f == 66 || f == 10 || f == 13 || f == 83 || f == 12 || f == 14 || f == 3 || f == 4 || f == 5 || f == 6 || f == 7 || f == 9 || f == 17
noncomputable def prim5 (f : FuncId) (xs : List Arg) : Option Out := match run5 f with
  | true => none
  | false => evalFn Try.prog cfg0 9223372036854775808 6190 f xs
def keep5' (f : FuncId) : Bool := f == 47 || f == 49 || f == 46 || f == 48 || f == 28 || f == 30 || f == 52 || f == 51 || f == 1048623 || f == 1048625 || f == 1048622 || f == 1048624 || f == 1048604 || f == 1048606 || f == 1048628 || f == 1048627 || f == 1048607 || f == 1048629 || f == 1048630 || f == 1048631 || f == 1048632 || f == 1048633 || f == 1048634 || f == 1048608 || f == 1048635 || f == 1048636 || f == 1048637 || f == 1048638 || f == 1048640 || f == 1048641 || f == 1048642 || f == 17
def lin5' (f : FuncId) (j : Nat) : Bool := j == 0 && (f == 47 || f == 49 || f == 46 || f == 48 || f == 28 || f == 30 || f == 52 || f == 51)
noncomputable def cfg5 : Cfg := ⟨lin5', keep5', prim5, fun p => p == "&ext.go:173" || p == "=ext.go:173" || p == "@ext.go:70" || p == "@ext.go:35" || p == "@ext.go:91" || p == "@ref.go:67" || p == "@ref.go:37" || p == "@ref.go:16" || p == "^law.go:41"⟩
theorem own5 (p : String) : cfg5.ownAt p = (p == "&ext.go:173" || p == "=ext.go:173" || p == "@ext.go:70" || p == "@ext.go:35" || p == "@ext.go:91" || p == "@ref.go:67" || p == "@ref.go:37" || p == "@ref.go:16" || p == "^law.go:41") := rfl
theorem keep5 (f : FuncId) : cfg5.keep f = (f == 47 || f == 49 || f == 46 || f == 48 || f == 28 || f == 30 || f == 52 || f == 51 || f == 1048623 || f == 1048625 || f == 1048622 || f == 1048624 || f == 1048604 || f == 1048606 || f == 1048628 || f == 1048627 || f == 1048607 || f == 1048629 || f == 1048630 || f == 1048631 || f == 1048632 || f == 1048633 || f == 1048634 || f == 1048608 || f == 1048635 || f == 1048636 || f == 1048637 || f == 1048638 || f == 1048640 || f == 1048641 || f == 1048642 || f == 17) := by
  show keep5' f = _
  unfold keep5'
  rfl
theorem lin5 (f : FuncId) (j : Nat) : cfg5.lin f j = (j == 0 && (f == 47 || f == 49 || f == 46 || f == 48 || f == 28 || f == 30 || f == 52 || f == 51)) := by
  show lin5' f j = _
  unfold lin5'
  rfl
theorem ev5 {n d : Nat} {f : FuncId} {xs : List Arg} {o : Out} (h1 : run5 f = false) (h : evalFn Try.prog cfg0 9223372036854775808 6190 f xs = some o) : evalFn Try.prog cfg5 n (d+1) f xs = some o := by
  have hc : cfg5.prim = prim5 := rfl
  have hp : prim5 f xs = some o := by unfold prim5; rw [h1]; exact h
  rw [evalFn]
  simp only [hc, hp]

theorem cB_len (bs : List UInt8) : (cellsOfBytes bs).length = bs.length := List.length_map _
theorem cB_app (a b : List UInt8) : cellsOfBytes (a ++ b) = cellsOfBytes a ++ cellsOfBytes b := List.map_append
theorem cB_take (bs : List UInt8) (i : Nat) : (cellsOfBytes bs).take i = cellsOfBytes (bs.take i) := (List.map_take ..).symm
theorem cB_drop (bs : List UInt8) (i : Nat) : (cellsOfBytes bs).drop i = cellsOfBytes (bs.drop i) := (List.map_drop ..).symm
theorem bytesOf_cB : ∀ bs : List UInt8, bytesOf (cellsOfBytes bs) = some bs
  | [] => rfl
  | b :: r => by
    have h := bytesOf_cB r
    simp only [cellsOfBytes, List.map_cons, bytesOf] at h ⊢
    rw [h]
    simp
theorem tkB : tkOf Try.prog 22 = .sl 5 := by kernel_rfl
theorem tkU8 : tkOf Try.prog 5 = .int .u8 := by kernel_rfl
theorem eszB : esz Try.prog 5 = some 1 := by kernel_rfl
theorem zeroB8 : zeroOf Try.prog 5 = some [.int .u8 0] := by kernel_rfl
theorem byB : byOf Try.prog 5 = 1 := by kernel_rfl
def Base (a : Arg) (bs : List UInt8) : Prop := (∃ g, (g = .tight ∨ g = .nil) ∧ a = .tree (.sl (cellsOfBytes bs) bs.length g)) ∨ a = .tok (cellsOfBytes bs) bs.length 1
def Bs (st : St) (p : Nat) (x : AV) (bs : List UInt8) : Prop := (∃ g, (g = .tight ∨ g = .nil) ∧ x = .sl (cellsOfBytes bs) bs.length g) ∨ ∃ t, x = .sl (cellsOfBytes bs) bs.length (.tok p t) ∧ st p = ⟨t, .tok 1⟩
theorem Base.start {a : Arg} {bs : List UInt8} (h : Base a bs) (r : List Arg) : Bs (st0 (a :: r)) 0 (env0 (a :: r) 0) bs := by
  rcases h with ⟨g, hg, rfl⟩ | rfl
  · exact .inl ⟨g, hg, rfl⟩
  · exact .inr ⟨0, rfl, rfl⟩
theorem Base.outs {a : Arg} {bs : List UInt8} (h : Base a bs) (s : St) (vs : List AV) : outsA s 0 (a :: vs.map .tree) = some ([] :: vs.map fun _ => []) := by
  have h2 : ∀ (vs : List AV) (k : Nat), outsA s k (vs.map .tree) = some (vs.map fun _ => []) := by
    intro vs
    induction vs with
    | nil => intro k; rfl
    | cons v vs ih => intro k; simp only [List.map_cons, outsA, ih, Option.bind_some, Option.map_some]
  rcases h with ⟨g, hg, rfl⟩ | rfl
  · simp only [outsA, h2, Option.bind_some, Option.map_some]
  · simp only [outsA, h2, Option.bind_some, Option.map_some]
theorem Bs.call {call : FuncId → List Arg → Option Out} {f : FuncId} {st : St} {p : Nat} {x : AV} {bs : List UInt8} (h : Bs st p x bs) (hl : cfg5.lin f 0 = true) (vs : List AV) (ht : vs.all isTree = true) (bs' : List UInt8)
    (hc : ∀ a, Base a bs → call f (a :: vs.map .tree) = some (.tok (cellsOfBytes bs') bs'.length 1, [] :: vs.map fun _ => [])) (D : Nat) :
    ∃ st' t', callA cfg5 call D st f (x :: vs) = some (.sl (cellsOfBytes bs') bs'.length (.tok D t'), st') ∧ st' D = ⟨t', .tok 1⟩ ∧ ∀ q, q ≠ D → q ≠ p → st' q = st q := by
  rcases h with ⟨g, hg, rfl⟩ | ⟨t, rfl, hp⟩
  · have hx : isTree (.sl (cellsOfBytes bs) bs.length g) = true := by rcases hg with rfl | rfl <;> rfl
    have hall : ((AV.sl (cellsOfBytes bs) bs.length g) :: vs).all isTree = true := by simp only [List.all_cons, hx, ht, Bool.and_self]
    have h1 := hc _ (.inl ⟨g, hg, rfl⟩)
    refine ⟨upd st D ⟨(st D).t + 1, .tok 1⟩, (st D).t + 1, ?_, by simp [upd], fun q hq _ => upd_ne _ _ hq⟩
    have e1 : (AV.sl (cellsOfBytes bs) bs.length g :: vs).map Arg.tree = .tree (.sl (cellsOfBytes bs) bs.length g) :: vs.map .tree := rfl
    have e2 : ([] : List AV) :: vs.map (fun _ => ([] : List AV)) = (AV.sl (cellsOfBytes bs) bs.length g :: vs).map (fun _ => []) := rfl
    rw [← e1, e2] at h1
    simp only [callA, argsA_trees f st _ 0 hall, Option.bind_some, givesL_trees, lendsL_trees _ hall, List.nodup_nil, List.not_mem_nil, false_implies, implies_true, and_self, if_true, h1, List.foldl_nil, ite_self, backA_trees, resA]
  · have h1 := hc _ (.inr rfl)
    have ha : argA cfg5 f st 0 (.sl (cellsOfBytes bs) bs.length (.tok p t)) = some (.tok (cellsOfBytes bs) bs.length 1) := by
      simp only [argA, hl, if_true, hp]
      rw [if_pos ⟨trivial, by rw [cB_len, Nat.mul_one]⟩]
    have hgl : givesL (.sl (cellsOfBytes bs) bs.length (.tok p t) :: vs) (.tok (cellsOfBytes bs) bs.length 1 :: vs.map .tree) = [p] := by simp only [givesL, givesOf, givesL_trees]
    have hll : lendsL (.sl (cellsOfBytes bs) bs.length (.tok p t) :: vs) (.tok (cellsOfBytes bs) bs.length 1 :: vs.map .tree) = [] := by simp only [lendsL, lendsOf, lendsL_trees vs ht]
    refine ⟨upd (upd st p ⟨t, .dead⟩) D ⟨((upd st p ⟨t, .dead⟩) D).t + 1, .tok 1⟩, ((upd st p ⟨t, .dead⟩) D).t + 1, ?_, by simp [upd], fun q hq hqp => by rw [upd_ne _ _ hq, upd_ne _ _ hqp]⟩
    simp only [callA, argsA, ha, argsA_trees f st vs 1 ht, Option.bind_some, Option.map_some, hgl, hll, List.nodup_cons, List.nodup_nil, List.not_mem_nil, not_false_eq_true, false_implies, implies_true, and_self, if_true, h1, List.foldl_nil, ite_self, backA, givesOf, backA_trees, hp, resA]
theorem finish_Bs {a : Arg} {bs0 : List UInt8} (hb : Base a bs0) (vs : List AV) (k : Bool) (hk : k = true) (t p i : Nat) (bs : List UInt8) (env : Env) (s : St) (hv : env t = .sl (cellsOfBytes bs) bs.length (.tok p i)) (hs : s p = ⟨i, .tok 1⟩) :
    finishP Try.prog k (a :: vs.map .tree) #[.tmp t] env s = some (.tok (cellsOfBytes bs) bs.length 1, [] :: vs.map fun _ => []) := by
  subst hk
  rw [finishP_t1]
  simp only [finish, finish1, hv, if_true, hs, Option.bind_some, hb.outs, Option.map_some]
theorem appendB {st : St} {p : Nat} {x : AV} {a : List UInt8} (h : Bs st p x a) (b : List UInt8) (g : Grip) (_hg : g.isTok = false) (hl : a.length + b.length ≤ 1000000000000) (D : Nat) :
    ∃ st' t', appendA Try.prog #[22, 22] D st x (.sl (cellsOfBytes b) b.length g) = some (.sl (cellsOfBytes (a ++ b)) (a ++ b).length (.tok D t'), st') ∧ st' D = ⟨t', .tok 1⟩ ∧ ∀ q, q ≠ D → q ≠ p → st' q = st q := by
  have hm : ∀ s, moreA Try.prog 5 1 (some 22) s (.sl (cellsOfBytes b) b.length g) = some (cellsOfBytes b, b.length) := fun s => by
    simp only [moreA, Option.map_some, tkB, cB_len, Nat.mul_one, if_true]
  have hz : (zeroOf Try.prog 5).map List.length = some 1 := by rw [zeroB8]; rfl
  rcases h with ⟨g', hg', rfl⟩ | ⟨t, rfl, hp⟩
  · refine ⟨upd st D ⟨(st D).t + 1, .tok 1⟩, (st D).t + 1, ?_, by simp [upd], fun q hq _ => upd_ne _ _ hq⟩
    have hb : baseA 1 st (.sl (cellsOfBytes a) a.length g') = some (cellsOfBytes a, a.length, st) := by
      rcases hg' with rfl | rfl <;> simp only [baseA, cB_len, Nat.mul_one, if_true]
    simp only [appendA, List.getElem?_toArray, List.getElem?_cons_zero, List.getElem?_cons_succ, Option.map_some, tkB, eszB, Option.bind_some, hm, hb, byB]
    rw [if_pos ⟨by omega, by omega, hz⟩, cB_app, List.length_append]
  · refine ⟨upd (upd st p ⟨t, .dead⟩) D ⟨((upd st p ⟨t, .dead⟩) D).t + 1, .tok 1⟩, ((upd st p ⟨t, .dead⟩) D).t + 1, ?_, by simp [upd], fun q hq hqp => by rw [upd_ne _ _ hq, upd_ne _ _ hqp]⟩
    have hb : baseA 1 st (.sl (cellsOfBytes a) a.length (.tok p t)) = some (cellsOfBytes a, a.length, upd st p ⟨t, .dead⟩) := by
      simp only [baseA, hp]
      rw [if_pos ⟨trivial, trivial, by rw [cB_len, Nat.mul_one]⟩]
    simp only [appendA, List.getElem?_toArray, List.getElem?_cons_zero, List.getElem?_cons_succ, Option.map_some, tkB, eszB, Option.bind_some, hm, hb, byB]
    rw [if_pos ⟨by omega, by omega, hz⟩, cB_app, List.length_append]
set_option maxHeartbeats 4000000 in
theorem put_eq (n d : Nat) {a : Arg} {bs : List UInt8} (ha : Base a bs) (b : List UInt8) (g : Grip) (hg : g.isTok = false) (hl : bs.length + b.length ≤ 1000000000000) :
    evalFn Try.prog cfg5 n (d+1) 47 [a, .tree (.sl (cellsOfBytes b) b.length g)] = some (.tok (cellsOfBytes (bs ++ b)) (bs ++ b).length 1, [[], []]) := by
  rw [evalFn_go _ Try.func47 (by unfold Try.f47; rfl) (by unfold Try.f47; decide) (Nat.le_of_ble_eq_true (by unfold Try.f47; rfl)) (by kernel_rfl)]
  have hB := ha.start [.tree (.sl (cellsOfBytes b) b.length g)]
  have e1 : env0 [a, .tree (.sl (cellsOfBytes b) b.length g)] 1 = .sl (cellsOfBytes b) b.length g := rfl
  generalize env0 [a, .tree (.sl (cellsOfBytes b) b.length g)] = env at hB e1
  generalize st0 [a, .tree (.sl (cellsOfBytes b) b.length g)] = st at hB
  generalize e0 : env 0 = x at hB
  obtain ⟨st', t', c1, c2, c3⟩ := appendB hB b g hg hl 7
  simp only [simB, keep5, Nat.reduceBEq, own5, String.reduceAppend, String.reduceBEq, Bool.or_false, Bool.or_true, Bool.or_self, ↓reduceIte, Nat.reduceEqDiff, Nat.reduceAdd, simL, simN, Nat.zero_add, e0, e1, c1]
  exact finish_Bs ha [.sl (cellsOfBytes b) b.length g] _ rfl _ 7 t' _ _ _ (by simp only [zfk, ↓reduceIte, Nat.reduceEqDiff]; try rfl) c2
end Go.Ab

/- Four bytes, a number's bytes put behind others (CFG5). Conditions: lengths in range. -/
namespace Go.Ab
open Go.Proofs
set_option maxRecDepth 100000
set_option linter.unusedSimpArgs false

theorem u8_val (z : Int) : ((u8 z).toNat : Int) = z % 256 := by
  have h1 : (z % 256).toNat < 256 := by omega
  simp only [u8, UInt8.toNat_ofNat']
  omega
theorem conv3_5b (s : St) (z : Int) : convA Try.prog 3 5 s (.int .i64 z) = some (.int .u8 ((u8 z).toNat : Int)) := by
  simp only [convA, tk3, tkU8, u8_val]
  congr 2
theorem conv31_5b (s : St) (x : Nat) : convA Try.prog 56 5 s (.int .u32 (x : Int)) = some (.int .u8 ((UInt8.ofNat (x % 256)).toNat : Int)) := by
  have h1 : x % 256 < 256 := by omega
  simp only [convA, tk31, tkU8, UInt8.toNat_ofNat']
  have e : IntKind.u8.wrap (x : Int) = (x : Int) % 256 := rfl
  rw [e]
  congr 2
  omega
def lit1 (x : AV) : Option AV := (fillA (fun i => some (i * 1, 1)) (rep 1 [.int .u8 0]) [(0, x)]).map (.sl · 1 .tight)
def lit2 (x y : AV) : Option AV := (fillA (fun i => some (i * 1, 1)) (rep 2 [.int .u8 0]) [(0, x), (1, y)]).map (.sl · 2 .tight)
def lit3 (x y z : AV) : Option AV := (fillA (fun i => some (i * 1, 1)) (rep 3 [.int .u8 0]) [(0, x), (1, y), (2, z)]).map (.sl · 3 .tight)
def lit4 (x y z w : AV) : Option AV := (fillA (fun i => some (i * 1, 1)) (rep 4 [.int .u8 0]) [(0, x), (1, y), (2, z), (3, w)]).map (.sl · 4 .tight)
section
variable (call : FuncId → List Arg → Option Out) (q : Bool) (d : Option Tmp) (ty : TypeId) (pos : String) (af : Array Edge) (g : Option (Nat × Bool)) (t : Nat) (env : Env) (s : St) (x y z w : Operand)
theorem opA_lit1 : opA Try.prog cfg5 call q ⟨d, .buildSlice 22 1 #[(0, x)], ty, pos, af, g⟩ t env s = (lit1 (ev env x)).map (·, s) := by
  simp only [opA, tkB, eszB, zeroB8, Option.bind_some, List.map_cons, List.map_nil]
  rfl
theorem opA_lit2 : opA Try.prog cfg5 call q ⟨d, .buildSlice 22 2 #[(0, x), (1, y)], ty, pos, af, g⟩ t env s = (lit2 (ev env x) (ev env y)).map (·, s) := by
  simp only [opA, tkB, eszB, zeroB8, Option.bind_some, List.map_cons, List.map_nil]
  rfl
theorem opA_lit3 : opA Try.prog cfg5 call q ⟨d, .buildSlice 22 3 #[(0, x), (1, y), (2, z)], ty, pos, af, g⟩ t env s = (lit3 (ev env x) (ev env y) (ev env z)).map (·, s) := by
  simp only [opA, tkB, eszB, zeroB8, Option.bind_some, List.map_cons, List.map_nil]
  rfl
theorem opA_lit4 : opA Try.prog cfg5 call q ⟨d, .buildSlice 22 4 #[(0, x), (1, y), (2, z), (3, w)], ty, pos, af, g⟩ t env s = (lit4 (ev env x) (ev env y) (ev env z) (ev env w)).map (·, s) := by
  simp only [opA, tkB, eszB, zeroB8, Option.bind_some, List.map_cons, List.map_nil]
  rfl
end
theorem lit1_b (a : Int) : lit1 (.int .u8 a) = some (.sl [.int .u8 a] 1 .tight) := rfl
theorem lit2_b (a b : Int) : lit2 (.int .u8 a) (.int .u8 b) = some (.sl [.int .u8 a, .int .u8 b] 2 .tight) := rfl
theorem lit3_b (a b c : Int) : lit3 (.int .u8 a) (.int .u8 b) (.int .u8 c) = some (.sl [.int .u8 a, .int .u8 b, .int .u8 c] 3 .tight) := rfl
theorem lit4_b (a b c d : Int) : lit4 (.int .u8 a) (.int .u8 b) (.int .u8 c) (.int .u8 d) = some (.sl [.int .u8 a, .int .u8 b, .int .u8 c, .int .u8 d] 4 .tight) := rfl
theorem linPut : cfg5.lin 47 0 = true := by rw [lin5]; rfl
theorem linWord : cfg5.lin 49 0 = true := by rw [lin5]; rfl
theorem linNumber : cfg5.lin 46 0 = true := by rw [lin5]; rfl
theorem linTerm1 : cfg5.lin 28 0 = true := by rw [lin5]; rfl
theorem linList : cfg5.lin 48 0 = true := by rw [lin5]; rfl
theorem Bs.put {n d : Nat} {st : St} {p : Nat} {x : AV} {bs : List UInt8} (h : Bs st p x bs) (b : List UInt8) (g : Grip) (hg : isTree (.sl (cellsOfBytes b) b.length g) = true) (hl : bs.length + b.length ≤ 1000000000000) (D : Nat) :
    ∃ st' t', callA cfg5 (evalFn Try.prog cfg5 n (d+1)) D st 47 [x, .sl (cellsOfBytes b) b.length g] = some (.sl (cellsOfBytes (bs ++ b)) (bs ++ b).length (.tok D t'), st') ∧ st' D = ⟨t', .tok 1⟩ ∧ ∀ q, q ≠ D → q ≠ p → st' q = st q :=
  h.call linPut [.sl (cellsOfBytes b) b.length g] (by simp only [List.all_cons, hg, List.all_nil, Bool.and_self]) (bs ++ b) (fun a ha => put_eq n d ha b g (by cases g <;> first | rfl | cases hg) hl) D
theorem i_shrY (P : Program) (t : TypeId) (a : Int) (k : IntKind) (K : Nat) (hK : K ≤ 64) : binA P .shr t (.int .i64 a) (.int k (K : Int)) = some (.int .i64 (a.fdiv (2 ^ K))) := by
  have hm : min ((K : Int).toNat) 64 = K := by omega
  simp only [binA, shA, IntKind.bits]
  rw [if_neg (by omega)]
  simp only [hm]
theorem be_shr (v : Int) (K : Nat) : v.fdiv (2 ^ K) = v / 2 ^ K := Int.fdiv_eq_ediv_of_nonneg _ (by exact Int.le_of_lt (Int.pow_pos (by decide)))
set_option maxHeartbeats 4000000 in
theorem ewrd_eq (n d : Nat) {a : Arg} {bs : List UInt8} (ha : Base a bs) (v : Int) (hl : bs.length + 4 ≤ 1000000000000) :
    evalFn Try.prog cfg5 n (d+2) 49 [a, .tree (.int .i64 v)] = some (.tok (cellsOfBytes (bs ++ be32 v)) (bs ++ be32 v).length 1, [[], []]) := by
  rw [evalFn_go _ Try.func49 (by unfold Try.f49; rfl) (by unfold Try.f49; decide) (Nat.le_of_ble_eq_true (by unfold Try.f49; rfl)) (by kernel_rfl)]
  have hB := ha.start [.tree (.int .i64 v)]
  have e1 : env0 [a, .tree (.int .i64 v)] 1 = .int .i64 v := rfl
  generalize env0 [a, .tree (.int .i64 v)] = env at hB e1
  generalize st0 [a, .tree (.int .i64 v)] = st at hB
  generalize e0 : env 0 = x at hB
  obtain ⟨st', t', c1, c2, c3⟩ := hB.put (n := n) (d := d) (be32 v) .tight rfl hl 18
  have s1 : binA Try.prog .shr 3 (.int .i64 v) (.int .u64 24) = some (.int .i64 (v / 2 ^ 24)) := by rw [← be_shr]; exact i_shrY Try.prog 3 v .u64 24 (by decide)
  have s2 : binA Try.prog .shr 3 (.int .i64 v) (.int .u64 16) = some (.int .i64 (v / 2 ^ 16)) := by rw [← be_shr]; exact i_shrY Try.prog 3 v .u64 16 (by decide)
  have s3 : binA Try.prog .shr 3 (.int .i64 v) (.int .u64 8) = some (.int .i64 (v / 2 ^ 8)) := by rw [← be_shr]; exact i_shrY Try.prog 3 v .u64 8 (by decide)
  have c1 : callA cfg5 (evalFn Try.prog cfg5 n (d+1)) 18 st 47 [x, .sl [.int .u8 ((u8 (v / 2 ^ 24)).toNat : Int), .int .u8 ((u8 (v / 2 ^ 16)).toNat : Int), .int .u8 ((u8 (v / 2 ^ 8)).toNat : Int), .int .u8 ((u8 v).toNat : Int)] 4 .tight] = some (.sl (cellsOfBytes (bs ++ be32 v)) (bs ++ be32 v).length (.tok 18 t'), st') := c1
  simp only [simB, keep5, Nat.reduceBEq, own5, String.reduceAppend, String.reduceBEq, Bool.or_false, Bool.or_true, Bool.or_self, ↓reduceIte, Nat.reduceEqDiff, Nat.reduceAdd, simL, simN, Nat.zero_add, e0, e1, s1, s2, s3, conv3_5b, opA_lit4, lit4_b, c1]
  exact finish_Bs ha [.int .i64 v] _ rfl _ 18 t' _ _ _ (by simp only [zfk, ↓reduceIte, Nat.reduceEqDiff]; try rfl) c2
end Go.Ab

/- Rows of bytes in memory, as a statement's reading gives them. No conditions. -/
namespace Go.Ab
open Go.Proofs Go.RowKit
theorem bytesRow {w : World} {a : Option Addr} {len cap : Nat} {zs : List Int} (h : IsRow .u8 w a len cap zs) : ∃ bs : List UInt8, bs.length = len ∧ V0 (old w) w (.sl (cellsOfBytes bs) bs.length .loose) (.slice a len cap) := by
  have hl : len ≤ zs.length := by
    rcases h with ⟨_, rfl, _, _⟩ | ⟨_, _, h1, _, h2, _, _⟩ <;> omega
  refine ⟨(zs.take len).map fun z => UInt8.ofNat z.toNat, by rw [List.length_map, List.length_take]; omega, ?_⟩
  have e : AV.sl (cellsOfBytes ((zs.take len).map fun z => UInt8.ofNat z.toNat)) ((zs.take len).map fun z => UInt8.ofNat z.toNat).length .loose = .sl ((zs.take len).map (AV.int .u8)) len .loose := by
    simp only [cellsOfBytes, List.map_map, List.length_map, List.length_take]
    rw [Nat.min_eq_left hl]
    congr 1
    refine List.map_congr_left fun z hz => ?_
    have hz := List.mem_of_mem_take hz
    rcases h with ⟨_, _, _, rfl⟩ | ⟨_, _, _, _, _, _, hw⟩
    · cases hz
    · have := hw z hz
      simp [Lit.wf, IntKind.min, IntKind.max, IntKind.bits, IntKind.signed] at this
      simp only [Function.comp, UInt8.toNat_ofNat']
      congr 1
      omega
  rw [e]
  exact V0_row h
theorem szBytes {H : Type} {es sp : List (DataW H)} {len : Nat} (he : es.length = len) (hh : (es.length + sp.length) * Try.prog.bytesOf 5 ≤ reachBytes) : len ≤ 140737488351232 := by
  have h1 : Try.prog.bytesOf 5 = 1 := by kernel_rfl
  have h2 : reachBytes = 140737488351232 := rfl
  rw [h1, h2] at hh
  omega
theorem openSlz {H : Type} {enc : TypeId × Value → H} {w : World} {base : Nat} {held : Bool} {a : Option Addr} {len cap : Nat} {d : DataW H} {ps : List MemPlace} (h : DataW.Trod enc Try.prog w base (fun _ => true) held 22 (.slice a len cap) d ps) :
    ∃ zs, IsRow .u8 w a len cap zs ∧ (len = 0 ∨ ∃ es sp, d = .slice es sp ∧ es.length = len) := by
  obtain ⟨fuel, hf⟩ := h
  rcases ChangeShapes.open_ints Try.underlying22 Try.underlying5 (by kernel_rfl) hf with ⟨hcs, _⟩ | ⟨x, l, c, zs, hcs, _, hl, hm, hz, hx, hcell, hwz⟩
  · simp [Value.cells] at hcs
    obtain ⟨rfl, rfl, rfl⟩ := hcs
    exact ⟨[], .inl ⟨rfl, rfl, rfl, rfl⟩, .inl rfl⟩
  · simp [Value.cells] at hcs
    obtain ⟨rfl, rfl, rfl⟩ := hcs
    refine ⟨zs, .inr ⟨_, rfl, hl, hm, by simpa using hz, hcell, hwz⟩, .inr ?_⟩
    have h1 := congrArg Prod.fst hx
    refine ⟨_, _, h1, ?_⟩
    have hz' : zs.length = cap := by simpa using hz
    simp [ChangeShapes.lits, List.length_take]
    omega
end Go.Ab
