/- Several texts put together: AbeY5, AbeY6, AbeY7, AbeY8, AbeY9, AbeY10, AbeY11, AbeY12, AbeY13, AbeY14, AbeY15, AbeY16, AbeY17, AbeY18, AbeY19. Conditions: as each part says. -/
import Derived.Test.YticeekdofpdcoaaAbEBackZ05
/- A number's bytes put behind others (CFG5). Conditions: a number that may be; lengths in range. -/
namespace Go.Ab
open Go.Proofs
set_option maxRecDepth 100000
set_option linter.unusedSimpArgs false

section
variable (P : Program) (t : TypeId)
theorem y_geq (x y : Int) : binA P .geq t (.int .i64 x) (.int .i64 y) = some (.bool (decide (x ≥ y))) := rfl
theorem y_leq (x y : Int) : binA P .leq t (.int .i64 x) (.int .i64 y) = some (.bool (decide (x ≤ y))) := rfl
theorem y_gtr (x y : Int) : binA P .gtr t (.int .i64 x) (.int .i64 y) = some (.bool (decide (x > y))) := rfl
theorem y_lss (x y : Int) : binA P .lss t (.int .i64 x) (.int .i64 y) = some (.bool (decide (x < y))) := rfl
theorem y_neq (x y : Int) : binA P .neq t (.int .i64 x) (.int .i64 y) = some (.bool (x != y)) := rfl
theorem y_eql (x y : Int) : binA P .eql t (.int .i64 x) (.int .i64 y) = some (.bool (x == y)) := rfl
end
theorem chkN_abs {b : Bool} {l : List Nat} (h : chkN b l = true) : (numZ b l).natAbs = val l := by
  unfold numZ
  rw [if_pos h]
  split
  · rw [Int.natAbs_neg, Int.natAbs_natCast]
  · rw [Int.natAbs_natCast]
theorem blen_leY (v k : Nat) (h : v < 2 ^ k) : blen v ≤ k := by
  unfold blen
  split
  · omega
  · rename_i h0
    have := (Nat.log2_lt h0).2 h
    omega
theorem limbs_bits {l : List Nat} (hl : Limbs l) : blen (val l) ≤ 32 * l.length := by
  refine blen_leY _ _ ?_
  have h := val_lt l hl
  have e : B ^ l.length = 2 ^ (32 * l.length) := by
    rw [Nat.pow_mul]
  rw [← e]; exact h
theorem intZ_Y (z : Int) : intZ z = .tup [.int .i64 (if isI64 z = true then z else 0), .bool (isI64 z)] := by
  unfold intZ
  cases isI64 z <;> rfl
theorem sh24Y : shOf Try.prog 25 = some (true, 2) := by kernel_rfl
theorem ldR24 (s : St) (x y : AV) : loadA Try.prog 25 s (.rptr [x, y]) = some (.agg [x, y]) := by
  simp only [loadA, partA, sh24Y]; rfl
theorem faR24_0 (s : St) (xs : List AV) : fieldAddrA Try.prog 25 s (.rptr xs) 0 = some (.rptr xs) := by
  simp only [fieldAddrA, fd24_0, esz4, List.drop_zero]
theorem faR24_1 (s : St) (x y : AV) : fieldAddrA Try.prog 25 s (.rptr [x, y]) 1 = some (.rptr [y]) := by
  simp only [fieldAddrA, fd24_1, esz22]; rfl
theorem ldRb (s : St) (b : Bool) (r : List AV) : loadA Try.prog 4 s (.rptr (.bool b :: r)) = some (.bool b) := by
  simp only [loadA, partA, sh4]; rfl
theorem ldRl (s : St) (x : AV) : loadA Try.prog 23 s (.rptr [x]) = some x := by
  simp only [loadA, partA, sh22]; rfl
theorem boxT_agg (s : St) (xs : List AV) : boxT s (.agg xs) = some (.rptr xs, s) := rfl
theorem limBs_succ (l : List Nat) (k : Nat) : limBs l (k + 1) = limBs l k ++ [limB l k] := by
  simp only [limBs, List.range_succ, List.map_append, List.map_cons, List.map_nil]
theorem limBs_len (l : List Nat) (k : Nat) : (limBs l k).length = k := by simp only [limBs, List.length_map, List.length_range]
theorem Bs.word {n d : Nat} {st : St} {p : Nat} {x : AV} {bs : List UInt8} (h : Bs st p x bs) (v : Int) (hl : bs.length + 4 ≤ 1000000000000) (D : Nat) :
    ∃ st' t', callA cfg5 (evalFn Try.prog cfg5 n (d+2)) D st 49 [x, .int .i64 v] = some (.sl (cellsOfBytes (bs ++ be32 v)) (bs ++ be32 v).length (.tok D t'), st') ∧ st' D = ⟨t', .tok 1⟩ ∧ ∀ q, q ≠ D → q ≠ p → st' q = st q :=
  h.call linWord [.int .i64 v] rfl (bs ++ be32 v) (fun _ ha => ewrd_eq n d ha v hl) D
theorem Bs.tok {st : St} {p t : Nat} {bs : List UInt8} (h : st p = ⟨t, .tok 1⟩) : Bs st p (.sl (cellsOfBytes bs) bs.length (.tok p t)) bs := .inr ⟨t, rfl, h⟩
noncomputable def nuC : Code := (Try.f46.body).getD .skip
noncomputable def nu1 : Code := seqR nuC
noncomputable def nu2 : Code := seqR nu1
noncomputable def nu3 : Code := seqR nu2
set_option maxHeartbeats 16000000 in
theorem nu3_eq (n d : Nat) {a : Arg} {bs : List UInt8} (ha : Base a bs) (b : Bool) (g : Gk) (l : List Nat) (hL : Limbs l) (hc : chkN b l = true) (hl : bs.length + 100 ≤ 1000000000000) (hn : 100 ≤ n) (K : Kont)
    (hK : ∀ env s, K .ret env s = finishP Try.prog true (a :: [encA b g l].map .tree) #[.tmp 4] env s) (env : Env) (st : St) (x : AV) (e0 : env 0 = x) (e3 : env 3 = .rptr [.bool b, encL g l]) (hB : Bs st 0 x bs) :
    den Try.prog cfg5 (evalFn Try.prog cfg5 n (d+2)) n nu3 K env st = some (.tok (cellsOfBytes (bs ++ (110 :: u8 ((blen (numZ b l).natAbs + 7) / 8 : Nat) :: (if b then 1 else 0) :: limBs l ((blen (numZ b l).natAbs + 7) / 8)))) (bs ++ (110 :: u8 ((blen (numZ b l).natAbs + 7) / 8 : Nat) :: (if b then 1 else 0) :: limBs l ((blen (numZ b l).natAbs + 7) / 8))).length 1, [[], []]) := by
  have cb := fun D s => callA_trees (cfg := cfg5) (d := D) (s := s) (f := 23) (vs := [encA b g l]) rfl (ev5 (n := n) (d := d+1) rfl (bits_eq 9223372036854775808 6187 (by decide) (isN_A b g l hL)))
  simp only [encA] at cb
  have hbl : blen (numZ b l).natAbs ≤ 384 := by
    have h1 := limbs_bits hL
    rw [chkN_abs hc]
    have h2 : l.length ≤ 12 := by
      simp only [chkN, Bool.and_eq_true, decide_eq_true_eq] at hc
      exact hc.1
    omega
  have hbl2 : blen (numZ b l).natAbs ≤ 32 * l.length := by rw [chkN_abs hc]; exact limbs_bits hL
  obtain ⟨w, hw⟩ : ∃ w, blen (numZ b l).natAbs = w := ⟨_, rfl⟩
  rw [hw] at cb hbl hbl2
  rw [hw]
  have f1 := i_add Try.prog 3 (w : Int) 7 (by omega) (by omega)
  have f2 : binA Try.prog .quo 3 (.int .i64 ((w : Int) + 7)) (.int .i64 8) = some (.int .i64 (((w + 7) / 8 : Nat) : Int)) := i_quo Try.prog 3 (w + 7) 8 (by decide) (by omega)
  obtain ⟨k, hk⟩ : ∃ k, (w + 7) / 8 = k := ⟨_, rfl⟩
  rw [hk] at f2
  rw [hk]
  have hk48 : k ≤ 48 := by omega
  have hkl : k ≤ 4 * l.length := by omega
  obtain ⟨st', t', c1, c2, c3⟩ := hB.put (n := n) (d := d+1) [110, u8 (k : Int), if b then 1 else 0] .tight rfl (by simp only [List.length_cons, List.length_nil]; omega) 56
  have c1 : callA cfg5 (evalFn Try.prog cfg5 n (d+2)) 56 st 47 [x, .sl [.int .u8 110, .int .u8 ((u8 (k : Int)).toNat : Int), .int .u8 (if b then 1 else 0)] 3 .tight] = some (.sl (cellsOfBytes (bs ++ [110, u8 (k : Int), if b then 1 else 0])) (bs ++ [110, u8 (k : Int), if b then 1 else 0]).length (.tok 56 t'), st') := by
    cases b <;> exact c1
  obtain ⟨hd, hhd⟩ : ∃ hd, bs ++ [110, u8 (k : Int), if b then 1 else 0] = hd := ⟨_, rfl⟩
  have hhl : hd.length = bs.length + 3 := by rw [← hhd, List.length_append]; rfl
  have hfin : bs ++ (110 :: u8 (k : Int) :: (if b then 1 else 0) :: limBs l k) = hd ++ limBs l k := by rw [← hhd, List.append_assoc]; rfl
  rw [hfin]
  rw [hhd] at c1
  have nuI : ∀ (i : Nat), i < k → i / 4 < l.length := fun i hi => by omega
  cases b
  all_goals
    simp only [nu3, nu2, nu1, nuC, seqR, Try.f46, Option.getD_some, simB, keep5, Nat.reduceBEq, own5, String.reduceAppend, String.reduceBEq, Bool.or_false, Bool.or_true, Bool.or_self, ↓reduceIte, Nat.reduceEqDiff, Nat.reduceAdd, simA, simL, simN, Nat.zero_add, e0, e3, ldR24, cb, f1, f2, faR24_0, ldRb, conv3_5b, opA_lit3, lit3_b]
    simp only [Bool.false_eq_true, ↓reduceIte] at c1
    simp only [simB, keep5, Nat.reduceBEq, own5, String.reduceAppend, String.reduceBEq, Bool.or_false, Bool.or_true, Bool.or_self, ↓reduceIte, Nat.reduceEqDiff, Nat.reduceAdd, simA, c1, den_loop]
    refine loop_ends (X := Nat) (fun i env s => env 57 = .int .i64 (k : Int) ∧ env 58 = .int .i64 (i : Int) ∧ env 3 = .rptr [.bool _, encL g l] ∧ i ≤ k ∧ ∃ p t, env 0 = .sl (cellsOfBytes (hd ++ limBs l i)) (hd ++ limBs l i).length (.tok p t) ∧ s p = ⟨t, .tok 1⟩) (fun i => k - i) (fun _ => (.tok (cellsOfBytes (hd ++ limBs l k)) (hd ++ limBs l k).length 1, [[], []])) ?_ n 0 _ _ (by omega) ⟨(by simp only [zfk, ↓reduceIte, Nat.reduceEqDiff]; try rfl), (by simp only [zfk, ↓reduceIte, Nat.reduceEqDiff]; try rfl), (by simp only [zfk, ↓reduceIte, Nat.reduceEqDiff, e3]; try rfl), Nat.zero_le _, 56, t', ?_, c2⟩
    rotate_left
    · have h0 : hd ++ limBs l 0 = hd := List.append_nil hd
      rw [h0]
      exact (by simp only [zfk, ↓reduceIte, Nat.reduceEqDiff]; try rfl)
    rintro rd i hrd ih env1 s1 ⟨e57, e58, e3', hik, p, t1, e0', hp1⟩
    have hBi := Bs.tok (bs := hd ++ limBs l i) hp1
    by_cases hlt : i < k
    · have q1 : (i : Int) < (k : Int) := by omega
      have hi4 := nuI i hlt
      have g1 : binA Try.prog .quo 3 (.int .i64 (i : Int)) (.int .i64 4) = some (.int .i64 ((i / 4 : Nat) : Int)) := i_quo Try.prog 3 i 4 (by decide) (by omega)
      have g2 : binA Try.prog .rem 3 (.int .i64 (i : Int)) (.int .i64 4) = some (.int .i64 ((i % 4 : Nat) : Int)) := i_rem Try.prog 3 i 4 (by decide)
      have g3 := i_mul Try.prog 3 8 ((i % 4 : Nat) : Int) (by omega) (by omega)
      have g4 := s_shr Try.prog 56 (l.getD (i / 4) 0) .i64 (8 * ((i % 4 : Nat) : Int)) (by omega) (by omega)
      rw [show (8 * ((i % 4 : Nat) : Int)).toNat = 8 * (i % 4) by omega] at g4
      have g5 := fun s => conv31_5b s (l.getD (i / 4) 0 / 2 ^ (8 * (i % 4)))
      have g6 := fun s => ia22 s g l .i64 ((i / 4 : Nat) : Int) (by omega) (by omega)
      simp only [Int.toNat_natCast] at g6
      have g7 := fun s => ld31 s l (i / 4) hi4
      have g8 := i_add Try.prog 3 (i : Int) 1 (by omega) (by omega)
      obtain ⟨s2, t2, d1, d2, d3⟩ := hBi.put (n := n) (d := d+1) [limB l i] .tight rfl (by simp only [List.length_append, limBs_len, List.length_cons, List.length_nil]; omega) 74
      have d1 : callA cfg5 (evalFn Try.prog cfg5 n (d+2)) 74 s1 47 [.sl (cellsOfBytes (hd ++ limBs l i)) (hd ++ limBs l i).length (.tok p t1), .sl [.int .u8 ((UInt8.ofNat (l.getD (i / 4) 0 / 2 ^ (8 * (i % 4)) % 256)).toNat : Int)] 1 .tight] = some (.sl (cellsOfBytes (hd ++ limBs l i ++ [limB l i])) (hd ++ limBs l i ++ [limB l i]).length (.tok 74 t2), s2) := d1
      have e4 : hd ++ limBs l i ++ [limB l i] = hd ++ limBs l (i + 1) := by rw [limBs_succ, List.append_assoc]
      rw [e4] at d1
      simp only [simB, keep5, Nat.reduceBEq, own5, String.reduceAppend, String.reduceBEq, Bool.or_false, Bool.or_true, Bool.or_self, ↓reduceIte, Nat.reduceEqDiff, Nat.reduceAdd, simA, simL, simN, Nat.zero_add, y_lss, e57, e58, e3', e0', q1, faR24_1, ldRl, g1, g2, g3, g4, g5, g6, g7, g8, opA_lit1, lit1_b, d1]
      exact ih (i + 1) _ _ (by omega) rfl ⟨(by simp only [zfk, ↓reduceIte, Nat.reduceEqDiff, e57]; try rfl), (by simp only [zfk, ↓reduceIte, Nat.reduceEqDiff]; try rfl), (by simp only [zfk, ↓reduceIte, Nat.reduceEqDiff, e3']; try rfl), by omega, 74, t2, (by simp only [zfk, ↓reduceIte, Nat.reduceEqDiff]; try rfl), d2⟩
    · have hie : i = k := by omega
      subst hie
      have q1 : ¬ (i : Int) < (i : Int) := by omega
      simp only [simB, keep5, Nat.reduceBEq, own5, String.reduceAppend, String.reduceBEq, Bool.or_false, Bool.or_true, Bool.or_self, ↓reduceIte, Nat.reduceEqDiff, Nat.reduceAdd, simA, simL, simN, Nat.zero_add, y_lss, e57, e58, e0', q1, hK]
      exact finish_Bs ha [_] true rfl 4 p t1 _ _ _ (by simp only [zfk, ↓reduceIte, Nat.reduceEqDiff]; try rfl) hp1
set_option maxHeartbeats 16000000 in
theorem enum_eq (n d : Nat) {a : Arg} {bs : List UInt8} (ha : Base a bs) (b : Bool) (g : Gk) (l : List Nat) (hL : Limbs l) (hcc : chkN b l = true) (hl : bs.length + 100 ≤ 1000000000000) (hn : 100 ≤ n) :
    evalFn Try.prog cfg5 n (d+3) 46 [a, .tree (encA b g l)] = some (.tok (cellsOfBytes (bs ++ numB b l)) (bs ++ numB b l).length 1, [[], []]) := by
  rw [evalFn_go _ Try.func46 (by unfold Try.f46; rfl) (by unfold Try.f46; decide) (Nat.le_of_ble_eq_true (by unfold Try.f46; rfl)) (by kernel_rfl)]
  have hB := ha.start [.tree (encA b g l)]
  have e1 : env0 [a, .tree (encA b g l)] 1 = .agg [.bool b, encL g l] := rfl
  generalize env0 [a, .tree (encA b g l)] = env at hB e1
  generalize st0 [a, .tree (encA b g l)] = st at hB
  generalize e0 : env 0 = x at hB
  have ci := fun D s => callA_trees (cfg := cfg5) (d := D) (s := s) (f := 24) (vs := [encA b g l]) rfl (ev5 (n := n) (d := d+1) rfl (int_eq 9223372036854775808 6187 (by decide) (isN_A b g l hL)))
  rw [intZ_Y] at ci
  simp only [encA] at ci
  obtain ⟨z, hz⟩ : ∃ z, numZ b l = z := ⟨_, rfl⟩
  rw [hz] at ci
  have hnB : numB b l = if 0 ≤ z ∧ z ≤ 255 then [97, u8 z] else if -2147483648 ≤ z ∧ z ≤ 2147483647 then 98 :: be32 z else 110 :: u8 ((blen z.natAbs + 7) / 8 : Nat) :: (if b then 1 else 0) :: limBs l ((blen z.natAbs + 7) / 8) := by
    rw [numB, hz]
  by_cases h1 : 0 ≤ z ∧ z ≤ 255
  · have hi : isI64 z = true := by unfold isI64; rw [Bool.and_eq_true, decide_eq_true_eq, decide_eq_true_eq]; omega
    rw [hi] at ci
    rw [hnB, if_pos h1]
    have q1 : z ≥ 0 := h1.1
    have q2 : z ≤ 255 := h1.2
    obtain ⟨st', t', c1, c2, c3⟩ := hB.put (n := n) (d := d+1) [97, u8 z] .tight rfl (by simp only [List.length_cons, List.length_nil]; omega) 29
    have c1 : callA cfg5 (evalFn Try.prog cfg5 n (d+2)) 29 st 47 [x, .sl [.int .u8 97, .int .u8 ((u8 z).toNat : Int)] 2 .tight] = some (.sl (cellsOfBytes (bs ++ [97, u8 z])) (bs ++ [97, u8 z]).length (.tok 29 t'), st') := c1
    simp only [simB, keep5, Nat.reduceBEq, own5, String.reduceAppend, String.reduceBEq, Bool.or_false, Bool.or_true, Bool.or_self, ↓reduceIte, Nat.reduceEqDiff, Nat.reduceAdd, simA, simL, simN, Nat.zero_add, e0, e1, boxT_agg, ldR24, ci, zdu, y_geq, y_leq, q1, q2, conv3_5b, opA_lit2, lit2_b, c1]
    exact finish_Bs ha [encA b g l] _ rfl _ 29 t' _ _ _ (by simp only [zfk, ↓reduceIte, Nat.reduceEqDiff]; try rfl) c2
  by_cases h2 : -2147483648 ≤ z ∧ z ≤ 2147483647
  · have hi : isI64 z = true := by unfold isI64; rw [Bool.and_eq_true, decide_eq_true_eq, decide_eq_true_eq]; omega
    rw [hi] at ci
    rw [hnB, if_neg h1, if_pos h2]
    have q3 : z ≥ -2147483648 := h2.1
    have q4 : z ≤ 2147483647 := h2.2
    obtain ⟨st', t', c1, c2, c3⟩ := hB.put (n := n) (d := d+1) [98] .tight rfl (by simp only [List.length_cons, List.length_nil]; omega) 42
    have c1 : callA cfg5 (evalFn Try.prog cfg5 n (d+2)) 42 st 47 [x, .sl [.int .u8 98] 1 .tight] = some (.sl (cellsOfBytes (bs ++ [98])) (bs ++ [98]).length (.tok 42 t'), st') := c1
    obtain ⟨st2, t2, d1, d2, d3⟩ := (Bs.tok (bs := bs ++ [98]) c2).word (n := n) (d := d) z (by simp only [List.length_append, List.length_cons, List.length_nil]; omega) 44
    have e3 : bs ++ [98] ++ be32 z = bs ++ 98 :: be32 z := by rw [List.append_assoc]; rfl
    rw [e3] at d1
    by_cases q1 : z ≥ 0
    · have q2 : ¬ z ≤ 255 := fun h => h1 ⟨q1, h⟩
      simp only [simB, keep5, Nat.reduceBEq, own5, String.reduceAppend, String.reduceBEq, Bool.or_false, Bool.or_true, Bool.or_self, ↓reduceIte, Nat.reduceEqDiff, Nat.reduceAdd, simA, simL, simN, Nat.zero_add, e0, e1, boxT_agg, ldR24, ci, zdu, y_geq, y_leq, q1, q2, q3, q4, conv3_5b, opA_lit1, lit1_b, c1, d1]
      exact finish_Bs ha [encA b g l] _ rfl _ 44 t2 _ _ _ (by simp only [zfk, ↓reduceIte, Nat.reduceEqDiff]; try rfl) d2
    · simp only [simB, keep5, Nat.reduceBEq, own5, String.reduceAppend, String.reduceBEq, Bool.or_false, Bool.or_true, Bool.or_self, ↓reduceIte, Nat.reduceEqDiff, Nat.reduceAdd, simA, simL, simN, Nat.zero_add, e0, e1, boxT_agg, ldR24, ci, zdu, y_geq, y_leq, q1, q3, q4, conv3_5b, opA_lit1, lit1_b, c1, d1]
      exact finish_Bs ha [encA b g l] _ rfl _ 44 t2 _ _ _ (by simp only [zfk, ↓reduceIte, Nat.reduceEqDiff]; try rfl) d2
  have hc : nuC = .seq (seqL nuC) (.seq (seqL nu1) (.seq (seqL nu2) nu3)) := rfl
  rw [hnB, if_neg h1, if_neg h2, ← hz]
  show den _ _ _ _ nuC _ _ _ = _
  rw [hc]
  by_cases hi : isI64 z = true
  · rw [hi] at ci
    unfold isI64 at hi
    rw [Bool.and_eq_true, decide_eq_true_eq, decide_eq_true_eq] at hi
    by_cases q1 : z ≥ 0
    · have q2 : ¬ z ≤ 255 := by omega
      have q3 : z ≥ -2147483648 := by omega
      have q4 : ¬ z ≤ 2147483647 := by omega
      simp only [seqL, nu2, nu1, nuC, seqR, Try.f46, Option.getD_some, simB, keep5, Nat.reduceBEq, own5, String.reduceAppend, String.reduceBEq, Bool.or_false, Bool.or_true, Bool.or_self, ↓reduceIte, Nat.reduceEqDiff, Nat.reduceAdd, simA, simL, simN, Nat.zero_add, e0, e1, boxT_agg, ldR24, ci, zdu, y_geq, y_leq, q1, q2, q3, q4]
      exact nu3_eq n d ha b g l hL hcc hl hn _ (fun _ _ => rfl) _ _ x (by simp only [zfk, ↓reduceIte, Nat.reduceEqDiff, e0]; try rfl) (by simp only [zfk, ↓reduceIte, Nat.reduceEqDiff]; try rfl) hB
    · have q3 : ¬ z ≥ -2147483648 := by omega
      simp only [seqL, nu2, nu1, nuC, seqR, Try.f46, Option.getD_some, simB, keep5, Nat.reduceBEq, own5, String.reduceAppend, String.reduceBEq, Bool.or_false, Bool.or_true, Bool.or_self, ↓reduceIte, Nat.reduceEqDiff, Nat.reduceAdd, simA, simL, simN, Nat.zero_add, e0, e1, boxT_agg, ldR24, ci, zdu, y_geq, y_leq, q1, q3]
      exact nu3_eq n d ha b g l hL hcc hl hn _ (fun _ _ => rfl) _ _ x (by simp only [zfk, ↓reduceIte, Nat.reduceEqDiff, e0]; try rfl) (by simp only [zfk, ↓reduceIte, Nat.reduceEqDiff]; try rfl) hB
  · have hi : isI64 z = false := by simpa using hi
    rw [hi] at ci
    simp only [seqL, nu2, nu1, nuC, seqR, Try.f46, Option.getD_some, simB, keep5, Nat.reduceBEq, own5, String.reduceAppend, String.reduceBEq, Bool.or_false, Bool.or_true, Bool.or_self, ↓reduceIte, Nat.reduceEqDiff, Nat.reduceAdd, simA, simL, simN, Nat.zero_add, e0, e1, boxT_agg, ldR24, ci, zdu, y_geq, y_leq]
    exact nu3_eq n d ha b g l hL hcc hl hn _ (fun _ _ => rfl) _ _ x (by simp only [zfk, ↓reduceIte, Nat.reduceEqDiff, e0]; try rfl) (by simp only [zfk, ↓reduceIte, Nat.reduceEqDiff]; try rfl) hB
end Go.Ab

/- Lists by their heads and their end; short steps of the walk of what writes terms (CFG5). No conditions. -/
namespace Go.Ab
open Go.Proofs
set_option maxRecDepth 100000
set_option linter.unusedSimpArgs false

def spineT : Nat → T → List T × T
  | 0, t => ([], t)
  | f + 1, .mk k b lg l s n kg ks => if k = 4 then (match ks with
    | [h, u] => (h :: (spineT f u).1, (spineT f u).2)
    | _ => ([], .mk k b lg l s n kg ks)) else ([], .mk k b lg l s n kg ks)
theorem spine_no (f : Nat) (t : T) (h : kindT t ≠ 4) : spineT f t = ([], t) := by
  cases f with
  | zero => rfl
  | succ f =>
    obtain ⟨k, b, lg, l, s, n, kg, ks⟩ := t
    simp only [kindT] at h
    simp only [spineT, if_neg h]
theorem spine_cons (f : Nat) (b : Bool) (lg : Gk) (l : List Nat) (s : List UInt8) (n : Int) (kg : Gk) (x u : T) : spineT (f + 1) (.mk 4 b lg l s n kg [x, u]) = (x :: (spineT f u).1, (spineT f u).2) := by
  simp only [spineT, if_true]
theorem good_pair {k : Int} {b : Bool} {lg : Gk} {l : List Nat} {s : List UInt8} {n : Int} {kg : Gk} {ks : List T} (h : goodT (.mk k b lg l s n kg ks)) (hk : k = 4) : ∃ x u, ks = [x, u] := by
  simp only [goodT] at h
  exact own_kids h.2.1 hk
def putAll (ks : List T) : List UInt8 := ks.flatMap putB
theorem putAll_app (a b : List T) : putAll (a ++ b) = putAll a ++ putAll b := List.flatMap_append
theorem putAll_one (t : T) : putAll [t] = putB t := by simp [putAll]
theorem putK_all : ∀ ks : List T, putK ks = putAll ks
  | [] => rfl
  | t :: r => by
    have := putK_all r
    simp only [putK, this, putAll, List.flatMap_cons, putB]
theorem putA_no (t : T) (h : kindT t ≠ 4) : putA t = (putB t, putB t, 0) := by
  obtain ⟨k, b, lg, l, s, n, kg, ks⟩ := t
  simp only [kindT] at h
  simp only [putB, putA, if_neg h]
theorem spine_ok : ∀ (f : Nat) (t : T), goodT t → nodT t ≤ f → kindT (spineT f t).2 ≠ 4 ∧ goodT (spineT f t).2 ∧ goodK (spineT f t).1 ∧ nodK (spineT f t).1 + nodT (spineT f t).2 + (spineT f t).1.length = nodT t ∧ (putA t).2.1 = putAll (spineT f t).1 ++ putB (spineT f t).2 ∧ (putA t).2.2 = (spineT f t).1.length
  | 0, t, _, h => by have := nod_pos t; omega
  | f + 1, .mk k b lg l s n kg ks, hg, h => by
    by_cases hk : k = 4
    · subst hk
      obtain ⟨x, u, rfl⟩ := good_pair hg rfl
      simp only [goodT, goodK, and_true] at hg
      simp only [nodT, nodK] at h ⊢
      obtain ⟨h1, h2, h3, h4, h5, h6⟩ := spine_ok f u hg.2.2.2 (by omega)
      rw [spine_cons]
      dsimp only
      refine ⟨h1, h2, ?_, ?_, ?_, ?_⟩
      · simp only [goodK]; exact ⟨hg.2.2.1, h3⟩
      · simp only [nodK, List.length_cons]; omega
      · simp only [putA, if_true, putP, putQ, h5]
        simp only [putAll, List.flatMap_cons, putB, List.append_assoc]
      · simp only [putA, if_true, putP, putN, h6, List.length_cons]
    · rw [spine_no _ _ (by simpa [kindT] using hk)]
      rw [putA_no _ (by simpa [kindT] using hk)]
      dsimp only
      refine ⟨by simpa [kindT] using hk, hg, by simp [goodK], by simp [nodK], ?_, rfl⟩
      simp [putAll]
theorem putB_list (t : T) (h : kindT t = 4) : putB t = 108 :: (be32 (putA t).2.2 ++ (putA t).2.1) := by
  obtain ⟨k, b, lg, l, s, n, kg, ks⟩ := t
  simp only [kindT] at h
  simp only [putB, putA, if_pos h]
theorem goodK_memY : ∀ {ks : List T} {t : T}, goodK ks → t ∈ ks → goodT t
  | a :: r, t, h, ht => by
    simp only [goodK] at h
    rcases List.mem_cons.1 ht with rfl | ht
    · exact h.1
    · exact goodK_memY h.2 ht
theorem nodK_memY : ∀ {ks : List T} {t : T}, t ∈ ks → nodT t ≤ nodK ks
  | a :: r, t, ht => by
    simp only [nodK]
    rcases List.mem_cons.1 ht with rfl | ht
    · omega
    · have := nodK_memY ht; omega
theorem putAll_len : ∀ {ks : List T} {t : T}, t ∈ ks → (putB t).length ≤ (putAll ks).length
  | a :: r, t, ht => by
    simp only [putAll, List.flatMap_cons, List.length_append]
    rcases List.mem_cons.1 ht with rfl | ht
    · omega
    · have := putAll_len ht; simp only [putAll] at this; omega
theorem putAll_take (ks : List T) (i : Nat) : (putAll (ks.take i)).length ≤ (putAll ks).length := by
  have : putAll ks = putAll (ks.take i) ++ putAll (ks.drop i) := by rw [← putAll_app, List.take_append_drop]
  rw [this, List.length_append]; omega
section
variable (s : St) (a b c d e f : AV)
theorem faRT_0 : fieldAddrA Try.prog 28 s (.rptr [a, b, c, d, e, f]) 0 = some (.rptr [a, b, c, d, e, f]) := by
  have h : fieldOf Try.prog 28 0 = some (3, 0) := by kernel_rfl
  have h2 : esz Try.prog 3 = some 1 := by kernel_rfl
  simp only [fieldAddrA, h, h2]; rfl
theorem faRT_1 : fieldAddrA Try.prog 28 s (.rptr [a, b, c, d, e, f]) 1 = some (.rptr [b, c, d, e, f]) := by
  have h : fieldOf Try.prog 28 1 = some (25, 1) := by kernel_rfl
  simp only [fieldAddrA, h, esz24]; rfl
theorem faRT_2 : fieldAddrA Try.prog 28 s (.rptr [a, b, c, d, e, f]) 2 = some (.rptr [d, e, f]) := by
  have h : fieldOf Try.prog 28 2 = some (9, 3) := by kernel_rfl
  have h2 : esz Try.prog 9 = some 1 := by kernel_rfl
  simp only [fieldAddrA, h, h2]; rfl
theorem faRT_4 : fieldAddrA Try.prog 28 s (.rptr [a, b, c, d, e, f]) 4 = some (.rptr [f]) := by
  have h : fieldOf Try.prog 28 4 = some (26, 5) := by kernel_rfl
  have h2 : esz Try.prog 26 = some 1 := by kernel_rfl
  simp only [fieldAddrA, h, h2]; rfl
theorem ldRT_int (x : Int) (r : List AV) : loadA Try.prog 3 s (.rptr (.int .i64 x :: r)) = some (.int .i64 x) := by
  have h : shOf Try.prog 3 = some (false, 1) := by kernel_rfl
  simp only [loadA, partA, h]; rfl
theorem ldRT_str (x : List UInt8) (r : List AV) : loadA Try.prog 9 s (.rptr (.str x :: r)) = some (.str x) := by
  simp only [loadA, partA, shTs]; rfl
theorem ldRT_num (x y : AV) (r : List AV) : loadA Try.prog 25 s (.rptr (x :: y :: r)) = some (.agg [x, y]) := by
  simp only [loadA, partA, sh24Y]
  rw [if_pos (by simp only [List.length_cons]; omega)]; rfl
theorem ldRT_k (x : AV) (r : List AV) : loadA Try.prog 26 s (.rptr (x :: r)) = some x := by
  have h : shOf Try.prog 26 = some (false, 1) := by kernel_rfl
  simp only [loadA, partA, h]; rfl
theorem ldRT : loadA Try.prog 28 s (.rptr [a, b, c, d, e, f]) = some (.agg [a, b, c, d, e, f]) := by
  simp only [loadA, partA, shT]; rfl
end
theorem convSB (s : St) (b : List UInt8) (h : b.length ≤ 140737488355328) : convA Try.prog 9 22 s (.str b) = some (.sl (cellsOfBytes b) b.length .loose) := by
  simp only [convA, tk9, tkB, tkU8, if_pos h]
def gotoY (x : Option Out) (v : AV) : Option Out := if isTree v = true then x else none
theorem den_gotoY {P : Program} {cfg : Cfg} {call : FuncId → List Arg → Option Out} {n : Nat} (t : Nat) (ht : t < 1048576) (K : Kont) (env : Env) (s : St) : den P cfg call n (.goto t) K env s = gotoY (K .normal env s) (env t) := by
  simp only [den, gotoOk, if_pos ht, gotoY]
theorem gotoY_r (x : Option Out) (xs : List AV) : gotoY x (.rptr xs) = x := rfl
theorem gotoY_s (x : Option Out) (b : List UInt8) : gotoY x (.str b) = x := rfl
theorem gotoY_i (x : Option Out) (k : IntKind) (z : Int) : gotoY x (.int k z) = x := rfl
theorem tok_call {call : FuncId → List Arg → Option Out} {f : FuncId} {p t : Nat} {bs : List UInt8} (hl : cfg5.lin f 0 = true) (vs : List AV) (ht : vs.all isTree = true) (bs' : List UInt8)
    (hc : call f (.tok (cellsOfBytes bs) bs.length 1 :: vs.map .tree) = some (.tok (cellsOfBytes bs') bs'.length 1, [] :: vs.map fun _ => [])) (D : Nat) (st : St) (hp : st p = ⟨t, .tok 1⟩) :
    callA cfg5 call D st f (.sl (cellsOfBytes bs) bs.length (.tok p t) :: vs) = some (.sl (cellsOfBytes bs') bs'.length (.tok D (((upd st p ⟨t, .dead⟩) D).t + 1)), upd (upd st p ⟨t, .dead⟩) D ⟨((upd st p ⟨t, .dead⟩) D).t + 1, .tok 1⟩) := by
  have ha : argA cfg5 f st 0 (.sl (cellsOfBytes bs) bs.length (.tok p t)) = some (.tok (cellsOfBytes bs) bs.length 1) := by
    simp only [argA, hl, if_true, hp]
    rw [if_pos ⟨trivial, by rw [cB_len, Nat.mul_one]⟩]
  have hgl : givesL (.sl (cellsOfBytes bs) bs.length (.tok p t) :: vs) (.tok (cellsOfBytes bs) bs.length 1 :: vs.map .tree) = [p] := by simp only [givesL, givesOf, givesL_trees]
  have hll : lendsL (.sl (cellsOfBytes bs) bs.length (.tok p t) :: vs) (.tok (cellsOfBytes bs) bs.length 1 :: vs.map .tree) = [] := by simp only [lendsL, lendsOf, lendsL_trees vs ht]
  simp only [callA, argsA, ha, argsA_trees f st vs 1 ht, Option.bind_some, Option.map_some, hgl, hll, List.nodup_cons, List.nodup_nil, List.not_mem_nil, not_false_eq_true, false_implies, implies_true, and_self, if_true, hc, List.foldl_nil, ite_self, backA, givesOf, backA_trees, hp, resA]
end Go.Ab

/- A term's bytes put behind others (CFG5). Conditions: a term all of whose parts may be; lengths in range. -/
namespace Go.Ab
open Go.Proofs
set_option maxRecDepth 100000
set_option linter.unusedSimpArgs false

def Term1 (n D : Nat) (t : T) : Prop := ∀ (a : Arg) (bs : List UInt8), Base a bs → bs.length + (putB t).length + 200 ≤ 1000000000000 →
  evalFn Try.prog cfg5 n D 28 [a, .tree (encT t)] = some (.tok (cellsOfBytes (bs ++ putB t)) (bs ++ putB t).length 1, [[], []])
def List1 (n D : Nat) (t : T) : Prop := ∀ (a : Arg) (bs : List UInt8), Base a bs → bs.length + (putB t).length + 200 ≤ 1000000000000 →
  evalFn Try.prog cfg5 n D 48 [a, .tree (encT t)] = some (.tok (cellsOfBytes (bs ++ putB t)) (bs ++ putB t).length 1, [[], []])
theorem own_num {b : Bool} {lg : Gk} {l : List Nat} {s : List UInt8} {n : Int} {kg : Gk} {ks : List T} (h : ownT (.mk 1 b lg l s n kg ks) = true) : chkN b l = true := by
  simp only [ownT, ↓reduceIte, Bool.and_eq_true] at h
  exact h.2.1.1.1
theorem own_str {k : Int} {b : Bool} {lg : Gk} {l : List Nat} {s : List UInt8} {n : Int} {kg : Gk} {ks : List T} (h : ownT (.mk k b lg l s n kg ks) = true) : s.length ≤ 400 := by
  simp only [ownT, Bool.and_eq_true] at h
  have h2 := h.2.1.1.2
  split at h2
  · simp only [nameB, Bool.and_eq_true, decide_eq_true_eq] at h2; omega
  · split at h2
    · simpa using h2
    · have : s = [] := by simpa using h2
      rw [this]; exact Nat.zero_le _
theorem own_kind {k : Int} {b : Bool} {lg : Gk} {l : List Nat} {s : List UInt8} {n : Int} {kg : Gk} {ks : List T} (h : ownT (.mk k b lg l s n kg ks) = true) : k = 1 ∨ k = 2 ∨ k = 3 ∨ k = 4 ∨ k = 5 ∨ k = 6 := by
  simp only [ownT, Bool.and_eq_true, decide_eq_true_eq] at h
  have := h.1
  omega
theorem Bs.term {n D : Nat} {t : T} (H : Term1 n D t) {st : St} {p : Nat} {x : AV} {bs : List UInt8} (h : Bs st p x bs) (hl : bs.length + (putB t).length + 200 ≤ 1000000000000) (dst : Nat) :
    ∃ st' t', callA cfg5 (evalFn Try.prog cfg5 n D) dst st 28 [x, encT t] = some (.sl (cellsOfBytes (bs ++ putB t)) (bs ++ putB t).length (.tok dst t'), st') ∧ st' dst = ⟨t', .tok 1⟩ ∧ ∀ q, q ≠ dst → q ≠ p → st' q = st q :=
  h.call linTerm1 [encT t] rfl (bs ++ putB t) (fun a ha => H a bs ha hl) dst
theorem tok_term {n D : Nat} {t : T} (H : Term1 n D t) {p i : Nat} {bs : List UInt8} (hl : bs.length + (putB t).length + 200 ≤ 1000000000000) (dst : Nat) (st : St) (hp : st p = ⟨i, .tok 1⟩) :
    callA cfg5 (evalFn Try.prog cfg5 n D) dst st 28 [.sl (cellsOfBytes bs) bs.length (.tok p i), encT t] = some (.sl (cellsOfBytes (bs ++ putB t)) (bs ++ putB t).length (.tok dst (((upd st p ⟨i, .dead⟩) dst).t + 1)), upd (upd st p ⟨i, .dead⟩) dst ⟨((upd st p ⟨i, .dead⟩) dst).t + 1, .tok 1⟩) :=
  tok_call linTerm1 [encT t] rfl (bs ++ putB t) (H _ bs (.inr rfl) hl) dst st hp
set_option maxHeartbeats 16000000 in
theorem term1_1 (n D : Nat) (hn : 100 ≤ n) (b : Bool) (lg : Gk) (l : List Nat) (s : List UInt8) (m : Int) (kg : Gk) (ks : List T) (hg : goodT (.mk 1 b lg l s m kg ks)) : Term1 n (D+4) (.mk 1 b lg l s m kg ks) := by
  intro a bs ha hl
  simp only [goodT] at hg
  have hc := own_num hg.2.1
  have hp : putB (.mk 1 b lg l s m kg ks) = numB b l := rfl
  rw [hp] at hl ⊢
  rw [evalFn_goP _ Try.func28 (by unfold Try.f28; rfl) (by unfold Try.f28; decide) (Nat.le_of_ble_eq_true (by unfold Try.f28; rfl)) (by kernel_rfl)]
  have hB := ha.start [.tree (encT (.mk 1 b lg l s m kg ks))]
  have e1 : env0 [a, .tree (encT (.mk 1 b lg l s m kg ks))] 1 = encT (.mk 1 b lg l s m kg ks) := rfl
  generalize env0 [a, .tree (encT (.mk 1 b lg l s m kg ks))] = env at hB e1
  generalize st0 [a, .tree (encT (.mk 1 b lg l s m kg ks))] = st at hB
  generalize e0 : env 0 = x at hB
  obtain ⟨st', t', c1, c2, c3⟩ := hB.call (f := 46) (call := evalFn Try.prog cfg5 n (D+3)) linNumber [encA b lg l] rfl (bs ++ numB b l) (fun a ha => enum_eq n D ha b lg l hg.1 hc (by omega) hn) 14
  simp only [encA] at c1
  simp only [encT, cellsT] at e1
  have b1 : ((1 : Int) == 1) = true := rfl
  simp only [simP, simB, keep5, Nat.reduceBEq, own5, String.reduceAppend, String.reduceBEq, Bool.or_false, Bool.or_true, Bool.or_self, ↓reduceIte, Nat.reduceEqDiff, Nat.reduceAdd, simA, simL, simN, Nat.zero_add, e0, e1, boxT_agg, faRT_0, faRT_1, ldRT_int, ldRT_num, y_eql, b1, c1]
  exact finish_Bs ha [_] _ rfl _ 14 t' _ _ _ (by simp only [zfk, ↓reduceIte, Nat.reduceEqDiff]; try rfl) c2
theorem putB_2 (b : Bool) (lg : Gk) (l : List Nat) (s : List UInt8) (m : Int) (kg : Gk) (ks : List T) : putB (.mk 2 b lg l s m kg ks) = 119 :: u8 s.length :: s := rfl
theorem putB_3 (b : Bool) (lg : Gk) (l : List Nat) (s : List UInt8) (m : Int) (kg : Gk) (ks : List T) : putB (.mk 3 b lg l s m kg ks) = [106] := rfl
theorem putB_5 (b : Bool) (lg : Gk) (l : List Nat) (s : List UInt8) (m : Int) (kg : Gk) (ks : List T) : putB (.mk 5 b lg l s m kg ks) = 104 :: u8 ks.length :: putAll ks := by rw [← putK_all]; rfl
theorem putB_6 (b : Bool) (lg : Gk) (l : List Nat) (s : List UInt8) (m : Int) (kg : Gk) (ks : List T) : putB (.mk 6 b lg l s m kg ks) = 109 :: (be32 s.length ++ s) := rfl
theorem tok_put {n d p i : Nat} {bs : List UInt8} (b : List UInt8) (g : Grip) (hg : isTree (.sl (cellsOfBytes b) b.length g) = true) (hl : bs.length + b.length ≤ 1000000000000) (dst : Nat) (st : St) (hp : st p = ⟨i, .tok 1⟩) :
    callA cfg5 (evalFn Try.prog cfg5 n (d+1)) dst st 47 [.sl (cellsOfBytes bs) bs.length (.tok p i), .sl (cellsOfBytes b) b.length g] = some (.sl (cellsOfBytes (bs ++ b)) (bs ++ b).length (.tok dst (((upd st p ⟨i, .dead⟩) dst).t + 1)), upd (upd st p ⟨i, .dead⟩) dst ⟨((upd st p ⟨i, .dead⟩) dst).t + 1, .tok 1⟩) :=
  tok_call linPut [.sl (cellsOfBytes b) b.length g] (by simp only [List.all_cons, hg, List.all_nil, Bool.and_self]) (bs ++ b) (put_eq n d (.inr rfl) b g (by cases g <;> first | rfl | cases hg) hl) dst st hp
set_option maxHeartbeats 16000000 in
theorem term1_2 (n D : Nat) (b : Bool) (lg : Gk) (l : List Nat) (s : List UInt8) (m : Int) (kg : Gk) (ks : List T) (hg : goodT (.mk 2 b lg l s m kg ks)) : Term1 n (D+4) (.mk 2 b lg l s m kg ks) := by
  intro a bs ha hl
  simp only [goodT] at hg
  have hs := own_str hg.2.1
  rw [putB_2] at hl ⊢
  simp only [List.length_cons] at hl
  rw [evalFn_goP _ Try.func28 (by unfold Try.f28; rfl) (by unfold Try.f28; decide) (Nat.le_of_ble_eq_true (by unfold Try.f28; rfl)) (by kernel_rfl)]
  have hB := ha.start [.tree (encT (.mk 2 b lg l s m kg ks))]
  have e1 : env0 [a, .tree (encT (.mk 2 b lg l s m kg ks))] 1 = encT (.mk 2 b lg l s m kg ks) := rfl
  generalize env0 [a, .tree (encT (.mk 2 b lg l s m kg ks))] = env at hB e1
  generalize st0 [a, .tree (encT (.mk 2 b lg l s m kg ks))] = st at hB
  generalize e0 : env 0 = x at hB
  obtain ⟨st', t', c1, c2, c3⟩ := hB.put (n := n) (d := D+2) [119, u8 (s.length : Int)] .tight rfl (by simp only [List.length_cons, List.length_nil]; omega) 23
  have c1 : callA cfg5 (evalFn Try.prog cfg5 n (D+3)) 23 st 47 [x, .sl [.int .u8 119, .int .u8 ((u8 (s.length : Int)).toNat : Int)] 2 .tight] = some (.sl (cellsOfBytes (bs ++ [119, u8 (s.length : Int)])) (bs ++ [119, u8 (s.length : Int)]).length (.tok 23 t'), st') := c1
  have e2 : bs ++ [119, u8 (s.length : Int)] ++ s = bs ++ 119 :: u8 (s.length : Int) :: s := by rw [List.append_assoc]; rfl
  have d1 := tok_put (n := n) (d := D+2) (bs := bs ++ [119, u8 (s.length : Int)]) s .loose rfl (by simp only [List.length_append, List.length_cons, List.length_nil]; omega) 27 st' c2
  rw [e2] at d1
  simp only [encT, cellsT] at e1
  have b1 : ((2 : Int) == 1) = false := rfl
  have b2 : ((2 : Int) == 2) = true := rfl
  have cv := fun st => convSB st s (by omega)
  simp only [simP, simB, keep5, Nat.reduceBEq, own5, String.reduceAppend, String.reduceBEq, Bool.or_false, Bool.or_true, Bool.or_self, ↓reduceIte, Nat.reduceEqDiff, Nat.reduceAdd, simA, simL, simN, Nat.zero_add, zex, List.toList_toArray, len9, ix9, zey, zez, zfa, zfb, zfc, e0, e1, boxT_agg, faRT_0, faRT_2, ldRT_int, ldRT_str, y_eql, b1, b2]
  rw [prune_L (c := .seq (.goto 18) (.seq (.goto 18) (.seq (.goto 19) (.seq (.goto 20) (.seq (.goto 24) (.seq (.goto 24) (.seq (.goto 25) .skip))))))) (by rfl) (by rfl)]
  simp only [simB, keep5, Nat.reduceBEq, own5, String.reduceAppend, String.reduceBEq, Bool.or_false, Bool.or_true, Bool.or_self, ↓reduceIte, Nat.reduceEqDiff, Nat.reduceAdd, simA, simL, simN, Nat.zero_add, zex, List.toList_toArray, len9, ix9, zey, zez, zfa, zfb, zfc, e0, e1, boxT_agg, faRT_0, faRT_2, ldRT_int, ldRT_str, conv3_5b, opA_lit2, lit2_b, c1, cv, d1, den_gotoY 18 (by decide), den_gotoY 19 (by decide), den_gotoY 20 (by decide), den_gotoY 24 (by decide), den_gotoY 25 (by decide), gotoY_r, gotoY_s, gotoY_i]
  exact finish_Bs ha [_] _ rfl _ 27 _ _ _ _ (by simp only [zfk, ↓reduceIte, Nat.reduceEqDiff]; try rfl) (by simp only [zfk, ↓reduceIte, Nat.reduceEqDiff]; try rfl)
set_option maxHeartbeats 16000000 in
theorem term1_3 (n D : Nat) (b : Bool) (lg : Gk) (l : List Nat) (s : List UInt8) (m : Int) (kg : Gk) (ks : List T) : Term1 n (D+4) (.mk 3 b lg l s m kg ks) := by
  intro a bs ha hl
  rw [putB_3] at hl ⊢
  simp only [List.length_cons, List.length_nil] at hl
  rw [evalFn_goP _ Try.func28 (by unfold Try.f28; rfl) (by unfold Try.f28; decide) (Nat.le_of_ble_eq_true (by unfold Try.f28; rfl)) (by kernel_rfl)]
  have hB := ha.start [.tree (encT (.mk 3 b lg l s m kg ks))]
  have e1 : env0 [a, .tree (encT (.mk 3 b lg l s m kg ks))] 1 = encT (.mk 3 b lg l s m kg ks) := rfl
  generalize env0 [a, .tree (encT (.mk 3 b lg l s m kg ks))] = env at hB e1
  generalize st0 [a, .tree (encT (.mk 3 b lg l s m kg ks))] = st at hB
  generalize e0 : env 0 = x at hB
  obtain ⟨st', t', c1, c2, c3⟩ := hB.put (n := n) (d := D+2) [106] .tight rfl (by simp only [List.length_cons, List.length_nil]; omega) 32
  have c1 : callA cfg5 (evalFn Try.prog cfg5 n (D+3)) 32 st 47 [x, .sl [.int .u8 106] 1 .tight] = some (.sl (cellsOfBytes (bs ++ [106])) (bs ++ [106]).length (.tok 32 t'), st') := c1
  simp only [encT, cellsT] at e1
  have b1 : ((3 : Int) == 1) = false := rfl
  have b2 : ((3 : Int) == 2) = false := rfl
  have b3 : ((3 : Int) == 3) = true := rfl
  simp only [simP, simB, keep5, Nat.reduceBEq, own5, String.reduceAppend, String.reduceBEq, Bool.or_false, Bool.or_true, Bool.or_self, ↓reduceIte, Nat.reduceEqDiff, Nat.reduceAdd, simA, simL, simN, Nat.zero_add, e0, e1, boxT_agg, faRT_0, ldRT_int, y_eql, b1, b2, b3, opA_lit1, lit1_b, c1]
  exact finish_Bs ha [_] _ rfl _ 32 t' _ _ _ (by simp only [zfk, ↓reduceIte, Nat.reduceEqDiff]; try rfl) c2
set_option maxHeartbeats 16000000 in
theorem term1_4 (n D : Nat) (b : Bool) (lg : Gk) (l : List Nat) (s : List UInt8) (m : Int) (kg : Gk) (ks : List T) (H : List1 n D (.mk 4 b lg l s m kg ks)) : Term1 n (D+1) (.mk 4 b lg l s m kg ks) := by
  intro a bs ha hl
  obtain ⟨w, hw⟩ : ∃ w, putB (.mk 4 b lg l s m kg ks) = w := ⟨_, rfl⟩
  have H2 := fun a ha => H a bs ha hl
  rw [hw] at hl H2 ⊢
  rw [evalFn_goP _ Try.func28 (by unfold Try.f28; rfl) (by unfold Try.f28; decide) (Nat.le_of_ble_eq_true (by unfold Try.f28; rfl)) (by kernel_rfl)]
  have hB := ha.start [.tree (encT (.mk 4 b lg l s m kg ks))]
  have e1 : env0 [a, .tree (encT (.mk 4 b lg l s m kg ks))] 1 = encT (.mk 4 b lg l s m kg ks) := rfl
  generalize env0 [a, .tree (encT (.mk 4 b lg l s m kg ks))] = env at hB e1
  generalize st0 [a, .tree (encT (.mk 4 b lg l s m kg ks))] = st at hB
  generalize e0 : env 0 = x at hB
  obtain ⟨st', t', c1, c2, c3⟩ := hB.call (f := 48) (call := evalFn Try.prog cfg5 n D) linList [encT (.mk 4 b lg l s m kg ks)] rfl (bs ++ w) H2 37
  simp only [encT, cellsT] at e1 c1
  have b1 : ((4 : Int) == 1) = false := rfl
  have b2 : ((4 : Int) == 2) = false := rfl
  have b3 : ((4 : Int) == 3) = false := rfl
  have b4 : ((4 : Int) == 4) = true := rfl
  simp only [simP, simB, keep5, Nat.reduceBEq, own5, String.reduceAppend, String.reduceBEq, Bool.or_false, Bool.or_true, Bool.or_self, ↓reduceIte, Nat.reduceEqDiff, Nat.reduceAdd, simA, simL, simN, Nat.zero_add, e0, e1, boxT_agg, faRT_0, ldRT, ldRT_int, y_eql, b1, b2, b3, b4, c1]
  exact finish_Bs ha [_] _ rfl _ 37 t' _ _ _ (by simp only [zfk, ↓reduceIte, Nat.reduceEqDiff]; try rfl) c2
set_option maxHeartbeats 16000000 in
theorem term1_6 (n D : Nat) (b : Bool) (lg : Gk) (l : List Nat) (s : List UInt8) (m : Int) (kg : Gk) (ks : List T) (hg : goodT (.mk 6 b lg l s m kg ks)) : Term1 n (D+4) (.mk 6 b lg l s m kg ks) := by
  intro a bs ha hl
  simp only [goodT] at hg
  have hs := own_str hg.2.1
  rw [putB_6] at hl ⊢
  simp only [List.length_cons, List.length_append] at hl
  have hb4 : (be32 (s.length : Int)).length = 4 := rfl
  rw [evalFn_goP _ Try.func28 (by unfold Try.f28; rfl) (by unfold Try.f28; decide) (Nat.le_of_ble_eq_true (by unfold Try.f28; rfl)) (by kernel_rfl)]
  have hB := ha.start [.tree (encT (.mk 6 b lg l s m kg ks))]
  have e1 : env0 [a, .tree (encT (.mk 6 b lg l s m kg ks))] 1 = encT (.mk 6 b lg l s m kg ks) := rfl
  generalize env0 [a, .tree (encT (.mk 6 b lg l s m kg ks))] = env at hB e1
  generalize st0 [a, .tree (encT (.mk 6 b lg l s m kg ks))] = st at hB
  generalize e0 : env 0 = x at hB
  obtain ⟨st', t', c1, c2, c3⟩ := hB.put (n := n) (d := D+2) [109] .tight rfl (by simp only [List.length_cons, List.length_nil]; omega) 61
  have c1 : callA cfg5 (evalFn Try.prog cfg5 n (D+3)) 61 st 47 [x, .sl [.int .u8 109] 1 .tight] = some (.sl (cellsOfBytes (bs ++ [109])) (bs ++ [109]).length (.tok 61 t'), st') := c1
  obtain ⟨st2, t2, d1, d2, d3⟩ := (Bs.tok (bs := bs ++ [109]) c2).word (n := n) (d := D+1) (s.length : Int) (by simp only [List.length_append, List.length_cons, List.length_nil]; omega) 65
  have e2 : bs ++ [109] ++ be32 (s.length : Int) ++ s = bs ++ 109 :: (be32 (s.length : Int) ++ s) := by rw [List.append_assoc, List.append_assoc]; rfl
  have f1 := tok_put (n := n) (d := D+2) (bs := bs ++ [109] ++ be32 (s.length : Int)) s .loose rfl (by simp only [List.length_append, List.length_cons, List.length_nil]; omega) 69 st2 d2
  rw [e2] at f1
  simp only [encT, cellsT] at e1
  have b1 : ((6 : Int) == 1) = false := rfl
  have b2 : ((6 : Int) == 2) = false := rfl
  have b3 : ((6 : Int) == 3) = false := rfl
  have b4 : ((6 : Int) == 4) = false := rfl
  have b5 : ((6 : Int) == 5) = false := rfl
  have cv := fun st => convSB st s (by omega)
  simp only [simP, simB, keep5, Nat.reduceBEq, own5, String.reduceAppend, String.reduceBEq, Bool.or_false, Bool.or_true, Bool.or_self, ↓reduceIte, Nat.reduceEqDiff, Nat.reduceAdd, simA, simL, simN, Nat.zero_add, zex, List.toList_toArray, len9, ix9, zey, zez, zfa, zfb, zfc, e0, e1, boxT_agg, faRT_0, faRT_2, ldRT_int, ldRT_str, y_eql, b1, b2, b3, b4, b5]
  rw [prune_L (c := .seq (.goto 62) (.seq (.goto 62) (.seq (.goto 63) (.seq (.goto 66) (.seq (.goto 66) (.seq (.goto 67) .skip)))))) (by rfl) (by rfl)]
  simp only [simB, keep5, Nat.reduceBEq, own5, String.reduceAppend, String.reduceBEq, Bool.or_false, Bool.or_true, Bool.or_self, ↓reduceIte, Nat.reduceEqDiff, Nat.reduceAdd, simA, simL, simN, Nat.zero_add, zex, List.toList_toArray, len9, ix9, zey, zez, zfa, zfb, zfc, e0, e1, boxT_agg, faRT_0, faRT_2, ldRT_int, ldRT_str, conv3_5b, opA_lit1, lit1_b, c1, d1, cv, f1, den_gotoY 62 (by decide), den_gotoY 63 (by decide), den_gotoY 66 (by decide), den_gotoY 67 (by decide), gotoY_r, gotoY_s, gotoY_i]
  exact finish_Bs ha [_] _ rfl _ 69 _ _ _ _ (by simp only [zfk, ↓reduceIte, Nat.reduceEqDiff]; try rfl) (by simp only [zfk, ↓reduceIte, Nat.reduceEqDiff]; try rfl)
end Go.Ab

/- Tuples and lists as bytes put behind others; every term that may be (CFG5). Conditions: a term all of whose parts may be; lengths in range. -/
namespace Go.Ab
open Go.Proofs
set_option maxRecDepth 100000
set_option linter.unusedSimpArgs false

set_option maxHeartbeats 16000000 in
theorem term1_5 (n D : Nat) (b : Bool) (lg : Gk) (l : List Nat) (s : List UInt8) (m : Int) (kg : Gk) (ks : List T) (hg : goodT (.mk 5 b lg l s m kg ks)) (hn : ks.length < n) (H : ∀ t ∈ ks, Term1 n (D+3) t) : Term1 n (D+4) (.mk 5 b lg l s m kg ks) := by
  intro a bs ha hl
  have hk40 : ks.length ≤ 1000000 := by
    simp only [goodT, ownT, Bool.and_eq_true] at hg
    have := hg.2.1.2.1.2
    simp at this
    omega
  rw [putB_5] at hl ⊢
  simp only [List.length_cons] at hl
  rw [evalFn_goP _ Try.func28 (by unfold Try.f28; rfl) (by unfold Try.f28; decide) (Nat.le_of_ble_eq_true (by unfold Try.f28; rfl)) (by kernel_rfl)]
  have hB := ha.start [.tree (encT (.mk 5 b lg l s m kg ks))]
  have e1 : env0 [a, .tree (encT (.mk 5 b lg l s m kg ks))] 1 = encT (.mk 5 b lg l s m kg ks) := rfl
  generalize env0 [a, .tree (encT (.mk 5 b lg l s m kg ks))] = env at hB e1
  generalize st0 [a, .tree (encT (.mk 5 b lg l s m kg ks))] = st at hB
  generalize e0 : env 0 = x at hB
  obtain ⟨st', t', c1, c2, c3⟩ := hB.put (n := n) (d := D+2) [104, u8 (ks.length : Int)] .tight rfl (by simp only [List.length_cons, List.length_nil]; omega) 46
  have c1 : callA cfg5 (evalFn Try.prog cfg5 n (D+3)) 46 st 47 [x, .sl [.int .u8 104, .int .u8 ((u8 (ks.length : Int)).toNat : Int)] 2 .tight] = some (.sl (cellsOfBytes (bs ++ [104, u8 (ks.length : Int)])) (bs ++ [104, u8 (ks.length : Int)]).length (.tok 46 t'), st') := c1
  obtain ⟨hd, hhd⟩ : ∃ hd, bs ++ [104, u8 (ks.length : Int)] = hd := ⟨_, rfl⟩
  have hhl : hd.length = bs.length + 2 := by rw [← hhd, List.length_append]; rfl
  have hfin : bs ++ (104 :: u8 (ks.length : Int) :: putAll ks) = hd ++ putAll ks := by rw [← hhd, List.append_assoc]; rfl
  rw [hfin]
  rw [hhd] at c1
  simp only [encT, cellsT] at e1
  have b1 : ((5 : Int) == 1) = false := rfl
  have b2 : ((5 : Int) == 2) = false := rfl
  have b3 : ((5 : Int) == 3) = false := rfl
  have b4 : ((5 : Int) == 4) = false := rfl
  have b5 : ((5 : Int) == 5) = true := rfl
  simp only [simP, simB, keep5, Nat.reduceBEq, own5, String.reduceAppend, String.reduceBEq, Bool.or_false, Bool.or_true, Bool.or_self, ↓reduceIte, Nat.reduceEqDiff, Nat.reduceAdd, simA, simL, simN, Nat.zero_add, e0, e1, boxT_agg, faRT_0, faRT_4, ldRT_int, ldRT_k, y_eql, b1, b2, b3, b4, b5, lenTk, conv3_5b, opA_lit2, lit2_b, c1, den_loop]
  refine loop_ends (X := Nat) (fun i env s => env 48 = .sl (cellsK ks) ks.length (gr kg) ∧ env 49 = .int .i64 (ks.length : Int) ∧ env 50 = .int .i64 (i : Int) ∧ i ≤ ks.length ∧ ∃ p t, p ≠ 6 ∧ env 0 = .sl (cellsOfBytes (hd ++ putAll (ks.take i))) (hd ++ putAll (ks.take i)).length (.tok p t) ∧ s p = ⟨t, .tok 1⟩) (fun i => ks.length - i) (fun _ => (.tok (cellsOfBytes (hd ++ putAll ks)) (hd ++ putAll ks).length 1, [[], []])) ?_ n 0 _ _ (by omega) ⟨(by simp only [zfk, ↓reduceIte, Nat.reduceEqDiff]; try rfl), (by simp only [zfk, ↓reduceIte, Nat.reduceEqDiff]; try rfl), (by simp only [zfk, ↓reduceIte, Nat.reduceEqDiff]; try rfl), Nat.zero_le _, 46, t', by decide, ?_, c2⟩
  rotate_left
  · have h0 : hd ++ putAll (ks.take 0) = hd := List.append_nil hd
    rw [h0]
    exact (by simp only [zfk, ↓reduceIte, Nat.reduceEqDiff]; try rfl)
  rintro rd i hrd ih env1 s1 ⟨e48, e49, e50, hik, p, t1, hp6, e0', hp1⟩
  cases hdr : ks.drop i with
  | nil =>
    have hie : i = ks.length := by have := congrArg List.length hdr; simp only [List.length_drop, List.length_nil] at this; omega
    subst hie
    rw [List.take_length] at e0'
    have q1 : ¬ (ks.length : Int) < (ks.length : Int) := by omega
    simp only [simB, keep5, Nat.reduceBEq, own5, String.reduceAppend, String.reduceBEq, Bool.or_false, Bool.or_true, Bool.or_self, ↓reduceIte, Nat.reduceEqDiff, Nat.reduceAdd, simA, simL, simN, Nat.zero_add, y_lss, e48, e49, e50, e0', q1]
    exact finish_Bs ha [_] _ rfl _ p t1 _ _ _ (by simp only [zfk, ↓reduceIte, Nat.reduceEqDiff]; try rfl) hp1
  | cons u r =>
    have hlt : i < ks.length := by have := congrArg List.length hdr; simp only [List.length_drop, List.length_cons] at this; omega
    have q1 : (i : Int) < (ks.length : Int) := by omega
    have hmem : u ∈ ks := List.mem_of_mem_drop (i := i) (by rw [hdr]; exact List.mem_cons_self ..)
    have ia := fun st => ia_K st ks (gr kg) i hlt
    rw [hdr] at ia
    have ld := fun st => ld_K st u r
    simp only [encT] at ld
    have hlu := putAll_len hmem
    have hlt2 := putAll_take ks i
    have htake : putAll (ks.take (i + 1)) = putAll (ks.take i) ++ putB u := by
      have hx : ks[i]? = some u := by rw [← Nat.add_zero i, ← List.getElem?_drop, hdr]; rfl
      rw [List.take_add_one, hx, putAll_app]
      exact congrArg _ (putAll_one u)
    have hsum : (putAll (ks.take (i + 1))).length ≤ (putAll ks).length := putAll_take ks (i + 1)
    rw [htake, List.length_append] at hsum
    have d1 := fun st hp => tok_term (H u hmem) (p := p) (i := t1) (bs := hd ++ putAll (ks.take i)) (by rw [List.length_append]; omega) 56 st hp
    rw [List.append_assoc, ← htake] at d1
    simp only [encT] at d1
    have g8 := i_add Try.prog 3 (i : Int) 1 (by omega) (by omega)
    simp only [simB, keep5, Nat.reduceBEq, own5, String.reduceAppend, String.reduceBEq, Bool.or_false, Bool.or_true, Bool.or_self, ↓reduceIte, Nat.reduceEqDiff, Nat.reduceAdd, simA, simL, simN, Nat.zero_add, y_lss, e48, e49, e50, e0', q1, ia, ld, zeroT, st_Tt, stT_6, ldT_u, hp6, hp1, d1, g8]
    exact ih (i + 1) _ _ (by omega) rfl ⟨(by simp only [zfk, ↓reduceIte, Nat.reduceEqDiff, e48]; try rfl), (by simp only [zfk, ↓reduceIte, Nat.reduceEqDiff, e49]; try rfl), (by simp only [zfk, ↓reduceIte, Nat.reduceEqDiff]; try rfl), by omega, 56, _, by decide, (by simp only [zfk, ↓reduceIte, Nat.reduceEqDiff]; try rfl), (by simp only [zfk, ↓reduceIte, Nat.reduceEqDiff]; try rfl)⟩
end Go.Ab

/- Lists as bytes put behind others; every term that may be; ext.Put (CFG5). Conditions: a term all of whose parts may be; lengths in range. -/
namespace Go.Ab
open Go.Proofs
set_option maxRecDepth 100000
set_option linter.unusedSimpArgs false

theorem opA_one26Y (call : FuncId → List Arg → Option Out) (q : Bool) (d : Option Tmp) (ty : TypeId) (pos : String) (af : Array Edge) (g : Option (Nat × Bool)) (t : Nat) (env : Env) (s : St) (x : Operand) :
    opA Try.prog cfg5 call q ⟨d, .buildSlice 26 1 #[(0, x)], ty, pos, af, g⟩ t env s = (one26 (ev env x)).map (·, s) := by
  rw [opA_bs]
  simp only [tkTk, eszT, zeroT, Option.bind_some, List.map_cons, List.map_nil]
  rfl
theorem Ap.row {s : St} {d : Nat} {x : AV} {us : List T} (h : Ap s d x us) : ∃ g, x = .sl (cellsK us) us.length g := by
  rcases h with ⟨rfl, rfl⟩ | ⟨_, t, rfl, _⟩
  · exact ⟨.nil, rfl⟩
  · exact ⟨_, rfl⟩
theorem Ap.at {s s2 : St} {d : Nat} {x : AV} {us : List T} (h : Ap s d x us) (hs : s2 d = s d) : Ap s2 d x us := by
  rcases h with ⟨h1, h2⟩ | ⟨h1, t, h2, h3⟩
  · exact .inl ⟨h1, h2⟩
  · exact .inr ⟨h1, t, h2, by rw [hs]; exact h3⟩
theorem Bs.at {s s2 : St} {p : Nat} {x : AV} {bs : List UInt8} (h : Bs s p x bs) (hs : s2 p = s p) : Bs s2 p x bs := by
  rcases h with h | ⟨t, h2, h3⟩
  · exact .inl h
  · exact .inr ⟨t, h2, by rw [hs]; exact h3⟩
noncomputable def liC : Code := (Try.f48.body).getD .skip
noncomputable def li1 : Code := seqR liC
noncomputable def li2 : Code := seqR li1
noncomputable def li3 : Code := seqR li2
set_option maxHeartbeats 16000000 in
theorem li3_eq (n D : Nat) {a : Arg} {bs : List UInt8} (ha : Base a bs) (v : AV) (us : List T) (tl : T) (hun : us.length < n) (H : ∀ t ∈ us, Term1 n (D+3) t) (Ht : Term1 n (D+3) tl) (hl : bs.length + 5 + (putAll us).length + (putB tl).length + 200 ≤ 1000000000000) (hul : us.length ≤ 1000000) (K : Kont)
    (hK : ∀ env s, K .ret env s = finishP Try.prog true (a :: [v].map .tree) #[.tmp 4] env s) (env : Env) (st : St) (x : AV) (g : Grip) (e0 : env 0 = x) (e3 : env 3 = .ptr 3 1 0) (j3 : st 3 = ⟨1, .buf (cellsT tl)⟩) (e5 : env 5 = .sl (cellsK us) us.length g) (hB : Bs st 0 x bs) :
    den Try.prog cfg5 (evalFn Try.prog cfg5 n (D+3)) n li3 K env st = some (.tok (cellsOfBytes (bs ++ 108 :: (be32 us.length ++ (putAll us ++ putB tl)))) (bs ++ 108 :: (be32 us.length ++ (putAll us ++ putB tl))).length 1, [[], []]) := by
  obtain ⟨st', t', c1, c2, c3⟩ := hB.put (n := n) (d := D+2) [108] .tight rfl (by simp only [List.length_cons, List.length_nil]; omega) 24
  have c1 : callA cfg5 (evalFn Try.prog cfg5 n (D+3)) 24 st 47 [x, .sl [.int .u8 108] 1 .tight] = some (.sl (cellsOfBytes (bs ++ [108])) (bs ++ [108]).length (.tok 24 t'), st') := c1
  obtain ⟨st2, t2, d1, d2, d3⟩ := (Bs.tok (bs := bs ++ [108]) c2).word (n := n) (d := D+1) (us.length : Int) (by simp only [List.length_append, List.length_cons, List.length_nil]; omega) 27
  have j3' : st2 3 = ⟨1, .buf (cellsT tl)⟩ := by rw [d3 3 (by decide) (by decide), c3 3 (by decide) (by decide), j3]
  obtain ⟨hd, hhd⟩ : ∃ hd, bs ++ [108] ++ be32 (us.length : Int) = hd := ⟨_, rfl⟩
  have hb4 : (be32 (us.length : Int)).length = 4 := rfl
  have hhl : hd.length = bs.length + 5 := by rw [← hhd, List.length_append, List.length_append, hb4]; rfl
  have hfin : bs ++ (108 :: (be32 (us.length : Int) ++ (putAll us ++ putB tl))) = hd ++ putAll us ++ putB tl := by rw [← hhd]; simp only [List.append_assoc]; rfl
  rw [hfin]
  rw [hhd] at d1
  simp only [li3, li2, li1, liC, seqR, Try.f48, Option.getD_some, simB, keep5, Nat.reduceBEq, own5, String.reduceAppend, String.reduceBEq, Bool.or_false, Bool.or_true, Bool.or_self, ↓reduceIte, Nat.reduceEqDiff, Nat.reduceAdd, simA, simL, simN, Nat.zero_add, e0, e3, e5, lenTk, opA_lit1, lit1_b, c1, d1, den_loop]
  refine loop_ends (X := Nat) (fun i env s => env 28 = .sl (cellsK us) us.length g ∧ env 29 = .int .i64 (us.length : Int) ∧ env 30 = .int .i64 (i : Int) ∧ env 3 = .ptr 3 1 0 ∧ s 3 = ⟨1, .buf (cellsT tl)⟩ ∧ i ≤ us.length ∧ ∃ p t, p ≠ 7 ∧ p ≠ 3 ∧ env 0 = .sl (cellsOfBytes (hd ++ putAll (us.take i))) (hd ++ putAll (us.take i)).length (.tok p t) ∧ s p = ⟨t, .tok 1⟩) (fun i => us.length - i) (fun _ => (.tok (cellsOfBytes (hd ++ putAll us ++ putB tl)) (hd ++ putAll us ++ putB tl).length 1, [[], []])) ?_ n 0 _ _ (by omega) ⟨(by simp only [zfk, ↓reduceIte, Nat.reduceEqDiff, e5]; try rfl), (by simp only [zfk, ↓reduceIte, Nat.reduceEqDiff]; try rfl), (by simp only [zfk, ↓reduceIte, Nat.reduceEqDiff]; try rfl), (by simp only [zfk, ↓reduceIte, Nat.reduceEqDiff, e3]; try rfl), j3', Nat.zero_le _, 27, t2, by decide, by decide, ?_, d2⟩
  rotate_left
  · have h0 : hd ++ putAll (us.take 0) = hd := List.append_nil hd
    rw [h0]
    exact (by simp only [zfk, ↓reduceIte, Nat.reduceEqDiff]; try rfl)
  rintro rd i hrd ih env1 s1 ⟨e28, e29, e30, e3', k3, hik, p, t1, hp7, hp3, e0', hp1⟩
  cases hdr : us.drop i with
  | nil =>
    have hie : i = us.length := by have := congrArg List.length hdr; simp only [List.length_drop, List.length_nil] at this; omega
    subst hie
    rw [List.take_length] at e0'
    have q1 : ¬ (us.length : Int) < (us.length : Int) := by omega
    have f1 := tok_term Ht (p := p) (i := t1) (bs := hd ++ putAll us) (by rw [List.length_append]; omega) 40 s1 hp1
    simp only [encT] at f1
    simp only [simB, keep5, Nat.reduceBEq, own5, String.reduceAppend, String.reduceBEq, Bool.or_false, Bool.or_true, Bool.or_self, ↓reduceIte, Nat.reduceEqDiff, Nat.reduceAdd, simA, simL, simN, Nat.zero_add, y_lss, e28, e29, e30, e0', e3', k3, q1, ldT_u, f1, hK]
    exact finish_Bs ha [v] true rfl 4 40 _ _ _ _ (by simp only [zfk, ↓reduceIte, Nat.reduceEqDiff]; try rfl) (by simp only [zfk, ↓reduceIte, Nat.reduceEqDiff]; try rfl)
  | cons u r =>
    have hlt : i < us.length := by have := congrArg List.length hdr; simp only [List.length_drop, List.length_cons] at this; omega
    have q1 : (i : Int) < (us.length : Int) := by omega
    have hmem : u ∈ us := List.mem_of_mem_drop (i := i) (by rw [hdr]; exact List.mem_cons_self ..)
    have ia := fun st => ia_K st us g i hlt
    rw [hdr] at ia
    have ld := fun st => ld_K st u r
    simp only [encT] at ld
    have hlu := putAll_len hmem
    have hlt2 := putAll_take us i
    have htake : putAll (us.take (i + 1)) = putAll (us.take i) ++ putB u := by
      have hx : us[i]? = some u := by rw [← Nat.add_zero i, ← List.getElem?_drop, hdr]; rfl
      rw [List.take_add_one, hx, putAll_app]
      exact congrArg _ (putAll_one u)
    have hsum : (putAll (us.take (i + 1))).length ≤ (putAll us).length := putAll_take us (i + 1)
    rw [htake, List.length_append] at hsum
    have f1 := fun st hp => tok_term (H u hmem) (p := p) (i := t1) (bs := hd ++ putAll (us.take i)) (by rw [List.length_append]; omega) 36 st hp
    rw [List.append_assoc, ← htake] at f1
    simp only [encT] at f1
    have g8 := i_add Try.prog 3 (i : Int) 1 (by omega) (by omega)
    have hp3' : ¬ 3 = p := fun h => hp3 h.symm
    simp only [simB, keep5, Nat.reduceBEq, own5, String.reduceAppend, String.reduceBEq, Bool.or_false, Bool.or_true, Bool.or_self, ↓reduceIte, Nat.reduceEqDiff, Nat.reduceAdd, simA, simL, simN, Nat.zero_add, y_lss, e28, e29, e30, e0', q1, ia, ld, zeroT, st_Tt, stT_6, ldT_u, hp7, hp1, f1, g8]
    exact ih (i + 1) _ _ (by omega) rfl ⟨(by simp only [zfk, ↓reduceIte, Nat.reduceEqDiff, e28]; try rfl), (by simp only [zfk, ↓reduceIte, Nat.reduceEqDiff, e29]; try rfl), (by simp only [zfk, ↓reduceIte, Nat.reduceEqDiff]; try rfl), (by simp only [zfk, ↓reduceIte, Nat.reduceEqDiff, e3']; try rfl), (by simp only [zfk, ↓reduceIte, Nat.reduceEqDiff, hp3', k3]; try rfl), by omega, 36, _, by decide, by decide, (by simp only [zfk, ↓reduceIte, Nat.reduceEqDiff]; try rfl), (by simp only [zfk, ↓reduceIte, Nat.reduceEqDiff]; try rfl)⟩
set_option maxHeartbeats 16000000 in
theorem list1_eq (n D : Nat) (t : T) (hg : goodT t) (hk : kindT t = 4) (hn : nodT t < n) (hnl : nodT t ≤ 1000000) (H : ∀ u, goodT u → nodT u < nodT t → Term1 n (D+3) u) : List1 n (D+4) t := by
  intro a bs ha hl
  obtain ⟨h1, h2, h3, h4, h5, h6⟩ := spine_ok (nodT t) t hg (Nat.le_refl _)
  obtain ⟨us, hus⟩ : ∃ us, (spineT (nodT t) t).1 = us := ⟨_, rfl⟩
  obtain ⟨tl, htl⟩ : ∃ tl, (spineT (nodT t) t).2 = tl := ⟨_, rfl⟩
  rw [hus] at h3 h4 h5 h6
  rw [htl] at h1 h2 h4 h5
  have hpos : 0 < us.length := by
    obtain ⟨k, b, lg, l, s, m, kg, ks⟩ := t
    simp only [kindT] at hk
    subst hk
    obtain ⟨x, u, rfl⟩ := good_pair hg rfl
    rw [show nodT (T.mk 4 b lg l s m kg [x, u]) = nodK [x, u] + 1 from rfl, spine_cons] at hus
    rw [← hus]; exact Nat.succ_pos _
  have hnus := nodK_len us
  rw [putB_list t hk, h5, h6] at hl ⊢
  simp only [List.length_cons, List.length_append] at hl
  have hb4 : (be32 (us.length : Int)).length = 4 := rfl
  rw [evalFn_go _ Try.func48 (by unfold Try.f48; rfl) (by unfold Try.f48; decide) (Nat.le_of_ble_eq_true (by unfold Try.f48; rfl)) (by kernel_rfl)]
  have hB := ha.start [.tree (encT t)]
  have e1 : env0 [a, .tree (encT t)] 1 = encT t := rfl
  have j17 : (st0 [a, .tree (encT t)] 17).t = 0 := rfl
  have j3 : (st0 [a, .tree (encT t)] 3).t = 0 := rfl
  generalize env0 [a, .tree (encT t)] = env at hB e1
  generalize st0 [a, .tree (encT t)] = st at hB j17 j3
  generalize e0 : env 0 = x at hB
  have hc : liC = .seq (seqL liC) (.seq (seqL li1) (.seq (seqL li2) li3)) := rfl
  show den _ _ _ _ liC _ _ _ = _
  rw [hc]
  simp only [encT] at e1
  simp only [seqL, li2, li1, liC, seqR, Try.f48, Option.getD_some, simB, keep5, Nat.reduceBEq, own5, String.reduceAppend, String.reduceBEq, Bool.or_false, Bool.or_true, Bool.or_self, ↓reduceIte, Nat.reduceEqDiff, Nat.reduceAdd, simA, simL, simN, Nat.zero_add, e0, e1, j3, den_loop]
  refine loop_ends (X := Nat × T × List T) (fun q env s => env 0 = x ∧ env 3 = .ptr 3 1 0 ∧ s 3 = ⟨1, .buf (cellsT q.2.1)⟩ ∧ Ap s 17 (env 5) q.2.2 ∧ s 0 = st 0 ∧ q.2.2 ++ (spineT q.1 q.2.1).1 = us ∧ (spineT q.1 q.2.1).2 = tl ∧ goodT q.2.1 ∧ nodT q.2.1 ≤ q.1 ∧ q.2.2.length + nodT q.2.1 ≤ nodT t) (fun q => q.1) (fun _ => (.tok (cellsOfBytes (bs ++ 108 :: (be32 us.length ++ (putAll us ++ putB tl)))) (bs ++ 108 :: (be32 us.length ++ (putAll us ++ putB tl))).length 1, [[], []])) ?_ n (nodT t, t, []) _ _ (by dsimp only; omega) ⟨(by simp only [zfk, ↓reduceIte, Nat.reduceEqDiff, e0]; try rfl), (by simp only [zfk, ↓reduceIte, Nat.reduceEqDiff, j3]; try rfl), (by simp only [zfk, ↓reduceIte, Nat.reduceEqDiff, j3]; try rfl), .inl ⟨rfl, (by simp only [zfk, ↓reduceIte, Nat.reduceEqDiff]; try rfl)⟩, (by simp only [zfk, ↓reduceIte, Nat.reduceEqDiff]; try rfl), hus, htl, hg, Nat.le_refl _, by simp only [List.length_nil]; omega⟩
  rintro rd ⟨f, u, acc⟩ hrd ih env1 s1 ⟨e0', e3', k3, ap, k0, hac, htl', hgu, hnu, hlen⟩
  dsimp only at k3 ap hac htl' hgu hnu hlen
  obtain ⟨k, b, lg, l, s, m, kg, ks⟩ := u
  simp only [cellsT] at k3
  by_cases hk4 : k = 4
  · subst hk4
    obtain ⟨h, w, rfl⟩ := good_pair hgu rfl
    have hnw : nodT (.mk 4 b lg l s m kg [h, w]) = nodT h + (nodT w + 0) + 1 := rfl
    rw [hnw] at hnu hlen
    obtain ⟨f, rfl⟩ : ∃ f', f = f' + 1 := ⟨f - 1, by omega⟩
    rw [spine_cons] at hac htl'
    dsimp only at hac htl'
    simp only [goodT, goodK, and_true] at hgu
    have b1 : ((4 : Int) == 4) = true := rfl
    have ia0 : ∀ st, indexAddrA Try.prog 26 st (.sl (cellsK [h, w]) [h, w].length (gr kg)) (.int .i64 0) = some (.rptr (cellsK [h, w])) := fun st => ia_K st [h, w] (gr kg) 0 (by simp)
    have ia1 : ∀ st, indexAddrA Try.prog 26 st (.sl (cellsK [h, w]) [h, w].length (gr kg)) (.int .i64 1) = some (.rptr (cellsK [w])) := fun st => ia_K st [h, w] (gr kg) 1 (by simp)
    have l0 := fun st => ld_K st h [w]
    have l1 := fun st => ld_K st w []
    simp only [encT] at l0 l1
    generalize e5' : env1 5 = x5 at ap
    obtain ⟨x', s', a1, a2, a3⟩ := ap.push (by omega) h
    have k3' : s' 3 = s1 3 := a3 3 (by decide)
    rw [k3] at k3'
    simp only [simB, keep5, Nat.reduceBEq, own5, String.reduceAppend, String.reduceBEq, Bool.or_false, Bool.or_true, Bool.or_self, ↓reduceIte, Nat.reduceEqDiff, Nat.reduceAdd, simA, simL, simN, Nat.zero_add, e0', e3', k3, e5', faT_0, faT_4, ldT_0, ldT_4, Nat.reduceAdd, y_eql, b1, ia0, ia1, l0, l1, opA_one26Y, one26_T, a1, k3', st_Tt, stT_6]
    refine ih (f, w, acc ++ [h]) _ _ (by dsimp only; omega) rfl ⟨(by simp only [zfk, ↓reduceIte, Nat.reduceEqDiff, e0']; try rfl), (by simp only [zfk, ↓reduceIte, Nat.reduceEqDiff, e3']; try rfl), (by simp only [zfk, ↓reduceIte, Nat.reduceEqDiff]; try rfl), ?_, ?_, by dsimp only; rw [List.append_assoc]; exact hac, htl', hgu.2.2.2, by dsimp only; omega, by dsimp only; rw [List.length_append]; simp only [List.length_cons, List.length_nil]; have := nod_pos h; omega⟩
    · have ap2 : Ap (upd s' 3 ⟨1, .buf (cellsT w)⟩) 17 x' (acc ++ [h]) := a2.at (upd_ne _ _ (by decide))
      simp only [zfk, ↓reduceIte, Nat.reduceEqDiff]
      exact ap2
    · rw [upd_ne _ _ (by decide), a3 0 (by decide), k0]
  · have hkk : kindT (.mk k b lg l s m kg ks) ≠ 4 := by simpa [kindT] using hk4
    rw [spine_no _ _ hkk, List.append_nil] at hac
    rw [spine_no _ _ hkk] at htl'
    dsimp only at htl'
    subst hac
    obtain ⟨g, e5'⟩ := ap.row
    have b1 : (k == 4) = false := beq_eq_false_iff_ne.mpr hk4
    simp only [simB, keep5, Nat.reduceBEq, own5, String.reduceAppend, String.reduceBEq, Bool.or_false, Bool.or_true, Bool.or_self, ↓reduceIte, Nat.reduceEqDiff, Nat.reduceAdd, simA, simL, simN, Nat.zero_add, e0', e3', k3, faT_0, ldT_0, Nat.reduceAdd, y_eql, b1]
    refine li3_eq n D ha (encT t) acc tl (by omega) (fun w hw => H w (goodK_memY h3 hw) (by have := nodK_memY hw; omega)) (H tl h2 (by omega)) (by omega) (by omega) _ (fun _ _ => rfl) _ _ x g (by simp only [zfk, ↓reduceIte, Nat.reduceEqDiff, e0']; try rfl) (by simp only [zfk, ↓reduceIte, Nat.reduceEqDiff, e3']; try rfl) ?_ (by simp only [zfk, ↓reduceIte, Nat.reduceEqDiff, e5']; try rfl) (hB.at k0)
    rw [← htl']; exact k3
theorem walk_term : ∀ (N : Nat) (t : T), goodT t → nodT t ≤ N → nodT t ≤ 1000000 → ∀ n D, nodT t + 100 ≤ n → 3 * nodT t + 6 ≤ D → Term1 n D t
  | 0, t, _, h, _, _, _, _, _ => by have := nod_pos t; omega
  | N + 1, .mk k b lg l s m kg ks, hg, h, h6, n, D, hn, hD => by
    have hg0 := hg
    simp only [goodT] at hg
    have hnd : nodT (.mk k b lg l s m kg ks) = nodK ks + 1 := rfl
    rw [hnd] at h h6 hn hD
    obtain ⟨E, rfl⟩ : ∃ E, D = E + 4 := ⟨D - 4, by omega⟩
    rcases own_kind hg.2.1 with rfl | rfl | rfl | rfl | rfl | rfl
    · exact term1_1 n E (by omega) b lg l s m kg ks hg0
    · exact term1_2 n E b lg l s m kg ks hg0
    · exact term1_3 n E b lg l s m kg ks
    · obtain ⟨E, rfl⟩ : ∃ E', E = E' + 1 := ⟨E - 1, by omega⟩
      exact term1_4 n (E+4) b lg l s m kg ks (list1_eq n E _ hg0 rfl (by rw [hnd]; omega) (by rw [hnd]; omega) (fun u hu hlt => walk_term N u hu (by rw [hnd] at hlt; omega) (by rw [hnd] at hlt; omega) n (E+3) (by rw [hnd] at hlt; omega) (by rw [hnd] at hlt; omega)))
    · have := nodK_len ks
      exact term1_5 n E b lg l s m kg ks hg0 (by omega) (fun u hu => walk_term N u (goodK_memY hg.2.2 hu) (by have := nodK_memY hu; omega) (by have := nodK_memY hu; omega) n (E+3) (by have := nodK_memY hu; omega) (by have := nodK_memY hu; omega))
    · exact term1_6 n E b lg l s m kg ks hg0
end Go.Ab

/- ext.Put (CFG5). Conditions: limbs in range; so many nodes at most; lengths in range. -/
namespace Go.Ab
open Go.Proofs
set_option maxRecDepth 100000
set_option linter.unusedSimpArgs false

mutual
theorem good_okD : ∀ (t : T) (d : Int), okD t d → wfT t → goodT t
  | .mk k b lg l s n kg ks, d, h, hw => by
    simp only [okD] at h
    simp only [wfT] at hw
    simp only [goodT]
    exact ⟨hw.1, h.2.1, good_okJ k ks 0 d h.2.2 hw.2⟩
theorem good_okJ (k : Int) : ∀ (ks : List T) (i : Nat) (d : Int), okJ k ks i d → wfK ks → goodK ks
  | [], _, _, _, _ => by simp only [goodK]
  | t :: r, i, d, h, hw => by
    simp only [okJ] at h
    simp only [wfK] at hw
    simp only [goodK]
    exact ⟨good_okD t _ h.1 hw.1, good_okJ k r (i + 1) d h.2 hw.2⟩
end
theorem lenB (s : St) (xs : List AV) (m : Nat) (g : Grip) : lenA Try.prog 22 s (.sl xs m g) = some (.int .i64 (m : Int)) := by simp only [lenA, tkB]
theorem slFull (s : St) (b : List UInt8) (g : Grip) : sliceA Try.prog 22 s (.sl (cellsOfBytes b) b.length g) none (some (.int .i64 (b.length : Int))) (some (.int .i64 (b.length : Int))) = some (.sl (cellsOfBytes b) b.length .tight) := by
  have h1 : (0 : Int) ≤ (b.length : Int) ∧ (b.length : Int) ≤ (b.length : Nat) := ⟨by omega, by omega⟩
  simp only [sliceA, tkB, Option.isNone_some, Option.isSome_some, Bool.false_eq_true, and_false, if_false, boundA, h1, and_self, if_true, Int.toNat_natCast, Option.bind_some, eszB, cB_len, Nat.mul_one, Nat.zero_mul, List.drop_zero, Nat.sub_zero, true_and, true_or]
  rw [List.take_of_length_le (by rw [cB_len]; exact Nat.le_refl _)]
theorem cChkY (n d : Nat) (t : T) (hd : htT t ≤ 6186) (hn : nodT t < 1000000) (hw : wfT t) (D : Nat) (s : St) : callA cfg5 (evalFn Try.prog cfg5 n (d+1)) D s 27 [encT t] = some (.bool (chkT t 1 2000).1, s) :=
  callA_trees (vs := [encT t]) rfl (ev5 (n := n) (d := d) rfl (evalFn_mono (show 1000000 ≤ 9223372036854775808 by decide) 6190 6190 (Nat.le_refl _) _ _ _ (tCheck_eq 1000000 (by decide) (Nat.le_refl _) 6186 t hd hn hw)))
theorem finish_tok {as1 : List Arg} {os : List (List AV)} (k : Bool) (hk : k = false) (t p i : Nat) (bs : List UInt8) (env : Env) (s : St) (hv : env t = .sl (cellsOfBytes bs) bs.length (.tok p i)) (ho : outsA s 0 as1 = some os) :
    finishP Try.prog k as1 #[.tmp t] env s = some (.tree (.sl (cellsOfBytes bs) bs.length .loose), os) := by
  subst hk
  rw [finishP_t1]
  simp only [finish, finish1, hv, Bool.false_eq_true, if_false, Option.bind_some, ho, Option.map_some]
theorem finish_slB {as1 : List Arg} {os : List (List AV)} (k : Bool) (hk : k = false) (t : Nat) (xs : List AV) (len : Nat) (g : Grip) (hg : g.isTok = false) (env : Env) (s : St) (hv : env t = .sl xs len g) (ho : outsA s 0 as1 = some os) :
    finishP Try.prog k as1 #[.tmp t] env s = some (.tree (.sl xs len g), os) := by
  subst hk
  rw [finishP_t1]
  cases g <;> first | (simp only [finish, finish1, hv, settle, Option.bind_some, ho, Option.map_some]; done) | cases hg
set_option maxHeartbeats 8000000 in
theorem ePut_ok (n D : Nat) (b : List UInt8) (g : Grip) (t : T) (hc : (chkT t 1 2000).1 = true) (hw : wfT t) (hn : 2200 ≤ n) (hD : 6010 ≤ D) (hl : b.length + (putB t).length + 200 ≤ 1000000000000) :
    evalFn Try.prog cfg5 n (D+1) 10 [.tree (.sl (cellsOfBytes b) b.length g), .tree (encT t)] = some (.tree (.sl (cellsOfBytes (b ++ putB t)) (b ++ putB t).length .loose), [[], []]) := by
  have hnd : nodT t ≤ 2000 := by have := chkT_nod t 1 2000 hc; omega
  have hg := good_okD t 1 (chk_okD t 1 2000 hc) hw
  have hht := ht_nod t
  obtain ⟨E, rfl⟩ : ∃ E, D = E + 1 := ⟨D - 1, by omega⟩
  have ck := cChkY n E t (by omega) (by omega) hw
  rw [hc] at ck
  have hT := walk_term 2000 t hg hnd (by omega) n (E+1) (by omega) (by omega)
  rw [evalFn_go _ Try.func10 (by unfold Try.f10; rfl) (by unfold Try.f10; decide) (Nat.le_of_ble_eq_true (by unfold Try.f10; rfl)) (by kernel_rfl)]
  have e0 : env0 [.tree (.sl (cellsOfBytes b) b.length g), .tree (encT t)] 0 = .sl (cellsOfBytes b) b.length g := rfl
  have e1 : env0 [.tree (.sl (cellsOfBytes b) b.length g), .tree (encT t)] 1 = encT t := rfl
  have ho : ∀ s, outsA s 0 [.tree (.sl (cellsOfBytes b) b.length g), .tree (encT t)] = some [[], []] := fun s => rfl
  generalize hA : [Arg.tree (.sl (cellsOfBytes b) b.length g), .tree (encT t)] = as1 at e0 e1 ho
  generalize env0 as1 = env at e0 e1
  generalize st0 as1 = st
  obtain ⟨st', t', c1, c2, c3⟩ := Bs.term hT (st := st) (p := 0) (x := .sl (cellsOfBytes b) b.length .tight) (bs := b) (.inl ⟨.tight, .inl rfl, rfl⟩) hl 16
  have lr : ∀ s, loadA Try.prog 28 s (.rptr (cellsT t)) = some (.agg (cellsT t)) := fun s => by
    obtain ⟨k, b1, lg, l, s1, m, kg, ks⟩ := t
    exact ldRT _ _ _ _ _ _ _
  simp only [encT] at e1 ck c1
  simp only [simB, keep5, Nat.reduceBEq, own5, String.reduceAppend, String.reduceBEq, Bool.or_false, Bool.or_true, Bool.or_self, ↓reduceIte, Nat.reduceEqDiff, Nat.reduceAdd, simA, simL, simN, Nat.zero_add, e0, e1, boxT_agg, lr, ck, unA_not', Bool.not_true, lenB, zdp, slFull, c1]
  exact finish_tok _ rfl _ 16 t' _ _ _ (by simp only [zfk, ↓reduceIte, Nat.reduceEqDiff]; try rfl) (ho _)
set_option maxHeartbeats 8000000 in
theorem ePut_no (n D : Nat) (b : List UInt8) (g : Grip) (hg : g.isTok = false) (t : T) (hc : (chkT t 1 2000).1 = false) (hw : wfT t) (hnd : nodT t ≤ 6000) :
    evalFn Try.prog cfg5 n (D+2) 10 [.tree (.sl (cellsOfBytes b) b.length g), .tree (encT t)] = some (.tree (.sl (cellsOfBytes b) b.length g), [[], []]) := by
  have hht := ht_nod t
  have ck := cChkY n D t (by omega) (by omega) hw
  rw [hc] at ck
  rw [evalFn_go _ Try.func10 (by unfold Try.f10; rfl) (by unfold Try.f10; decide) (Nat.le_of_ble_eq_true (by unfold Try.f10; rfl)) (by kernel_rfl)]
  have lr : ∀ s, loadA Try.prog 28 s (.rptr (cellsT t)) = some (.agg (cellsT t)) := fun s => by
    obtain ⟨k, b1, lg, l, s1, m, kg, ks⟩ := t
    exact ldRT _ _ _ _ _ _ _
  simp only [encT] at ck
  simp only [simB, keep5, Nat.reduceBEq, own5, String.reduceAppend, String.reduceBEq, Bool.or_false, Bool.or_true, Bool.or_self, ↓reduceIte, Nat.reduceEqDiff, Nat.reduceAdd, simA, simL, simN, Nat.zero_add, encT, boxT_agg, lr, ck, unA_not', Bool.not_false]
  exact finish_slB _ rfl _ _ _ g hg _ _ (by simp only [zfk, ↓reduceIte, Nat.reduceEqDiff]; try rfl) rfl
end Go.Ab

/- A reading: its parts, what is wrong, bytes taken (CFG5). Conditions: places in range. -/
namespace Go.Ab
open Go.Proofs
set_option maxRecDepth 100000
set_option linter.unusedSimpArgs false

def rC (bs : List UInt8) (g : Grip) (s : RS) : List AV := [.sl (cellsOfBytes bs) bs.length g, .int .i64 (s.i : Int), .int .i64 s.tm, .int .i64 s.e]
theorem callA_ptr {call : FuncId → List Arg → Option Out} {f : FuncId} {st : St} {p t : Nat} {xs ys : List AV} {r : AV} (vs : List AV) (ht : vs.all isTree = true) (hc : call f (.ptr xs 0 :: vs.map .tree) = some (.tree r, ys :: vs.map fun _ => [])) (D : Nat) (hp : st p = ⟨t, .buf xs⟩) :
    callA cfg5 call D st f (.ptr p t 0 :: vs) = some (r, upd st p ⟨t, .buf ys⟩) := by
  have ha : argA cfg5 f st 0 (.ptr p t 0) = some (.ptr xs 0) := by simp only [argA, hp, if_true]
  have hgl : givesL (.ptr p t 0 :: vs) (.ptr xs 0 :: vs.map .tree) = [p] := by simp only [givesL, givesOf, givesL_trees]
  have hll : lendsL (.ptr p t 0 :: vs) (.ptr xs 0 :: vs.map .tree) = [] := by simp only [lendsL, lendsOf, lendsL_trees vs ht]
  simp only [callA, argsA, ha, argsA_trees f st vs 1 ht, Option.bind_some, Option.map_some, hgl, hll, List.nodup_cons, List.nodup_nil, List.not_mem_nil, not_false_eq_true, false_implies, implies_true, and_self, if_true, hc, List.foldl_nil, ite_self, backA, givesOf, backA_trees, hp, resA]
section
variable (s : St) (p k : Nat)
theorem esz59a : esz Try.prog 34 = some 1 := by kernel_rfl
theorem esz59i : esz Try.prog 3 = some 1 := by kernel_rfl
theorem esz59b : esz Try.prog 22 = some 1 := by kernel_rfl
theorem sh59a : shOf Try.prog 34 = some (false, 1) := by kernel_rfl
theorem sh59i : shOf Try.prog 3 = some (false, 1) := by kernel_rfl
theorem sh59b : shOf Try.prog 22 = some (false, 1) := by kernel_rfl
theorem fd59_0 : fieldOf Try.prog 59 0 = some (22, 0) := by kernel_rfl
theorem fd59_1 : fieldOf Try.prog 59 1 = some (3, 1) := by kernel_rfl
theorem fd59_2 : fieldOf Try.prog 59 2 = some (3, 2) := by kernel_rfl
theorem fd59_3 : fieldOf Try.prog 59 3 = some (34, 3) := by kernel_rfl
theorem fa59_0 : fieldAddrA Try.prog 59 s (.ptr p k 0) 0 = faE (s p) p k 0 := by
  simp only [fieldAddrA, fd59_0, esz59b, live, cellsAt_E, faE, Nat.zero_add]
theorem fa59_1 : fieldAddrA Try.prog 59 s (.ptr p k 0) 1 = faE (s p) p k 1 := by
  simp only [fieldAddrA, fd59_1, esz59i, live, cellsAt_E, faE, Nat.zero_add]
theorem fa59_2 : fieldAddrA Try.prog 59 s (.ptr p k 0) 2 = faE (s p) p k 2 := by
  simp only [fieldAddrA, fd59_2, esz59i, live, cellsAt_E, faE, Nat.zero_add]
theorem fa59_3 : fieldAddrA Try.prog 59 s (.ptr p k 0) 3 = faE (s p) p k 3 := by
  simp only [fieldAddrA, fd59_3, esz59a, live, cellsAt_E, faE, Nat.zero_add]
end
section
variable (t k : Nat) (a b c d : AV)
theorem ld59_0 : ldE Try.prog 22 ⟨t, .buf [a, b, c, d]⟩ k 0 = if t = k then some a else none := by
  rw [ldE_buf, cellsE_buf]
  by_cases h : t = k <;> simp [h, partA, sh59b]
theorem ld59_1 : ldE Try.prog 3 ⟨t, .buf [a, b, c, d]⟩ k 1 = if t = k then some b else none := by
  rw [ldE_buf, cellsE_buf]
  by_cases h : t = k <;> simp [h, partA, sh59i]
theorem ld59_2 : ldE Try.prog 3 ⟨t, .buf [a, b, c, d]⟩ k 2 = if t = k then some c else none := by
  rw [ldE_buf, cellsE_buf]
  by_cases h : t = k <;> simp [h, partA, sh59i]
theorem ld59_3 : ldE Try.prog 34 ⟨t, .buf [a, b, c, d]⟩ k 3 = if t = k then some d else none := by
  rw [ldE_buf, cellsE_buf]
  by_cases h : t = k <;> simp [h, partA, sh59a]
end
def stY (e : Ent) (p k off : Nat) (s : St) (v : AV) : Option St := match e with
  | ⟨t, .buf xs⟩ => if t = k then (if off < xs.length then some (upd s p ⟨t, .buf (xs.set off v)⟩) else none) else none
  | _ => none
theorem st_iY (s : St) (p k off : Nat) (z : Int) : storeA Try.prog 3 s (.ptr p k off) (.int .i64 z) = stY (s p) p k off s (.int .i64 z) := by
  simp only [storeA, settle, Option.bind_some, stY]
  cases h : s p with
  | mk t c => cases c <;> simp [esz59i, cellOk]
theorem st_eY (s : St) (p k off : Nat) (z : Int) : storeA Try.prog 34 s (.ptr p k off) (.int .i64 z) = stY (s p) p k off s (.int .i64 z) := by
  simp only [storeA, settle, Option.bind_some, stY]
  cases h : s p with
  | mk t c => cases c <;> simp [esz59a, cellOk]
section
variable (t p k : Nat) (s : St) (a b c d v : AV)
theorem stY_1 : stY ⟨t, .buf [a, b, c, d]⟩ p k 1 s v = if t = k then some (upd s p ⟨t, .buf [a, v, c, d]⟩) else none := by simp [stY]
theorem stY_2 : stY ⟨t, .buf [a, b, c, d]⟩ p k 2 s v = if t = k then some (upd s p ⟨t, .buf [a, b, v, d]⟩) else none := by simp [stY]
theorem stY_3 : stY ⟨t, .buf [a, b, c, d]⟩ p k 3 s v = if t = k then some (upd s p ⟨t, .buf [a, b, c, v]⟩) else none := by simp [stY]
end
section
variable {P : Program} {cfg : Cfg} {call : FuncId → List Arg → Option Out} {d : Option Tmp} {ty : TypeId} {pos : String} {af : Array Edge} {g : Option (Nat × Bool)} {t : Nat} {q : Bool} {env : Env} {s : St}
def nckA (s : St) (v : AV) : Option (AV × St) := match v with
  | .ptr p t off => if live s p t then some (.ptr p t off, s) else none
  | .rptr xs => some (.rptr xs, s)
  | _ => none
theorem opA_nck (x : Operand) : opA P cfg call q ⟨d, .nilCheck x, ty, pos, af, g⟩ t env s = nckA s (ev env x) := rfl
theorem nckA_p (p k off : Nat) : nckA s (.ptr p k off) = (faE (s p) p k off).map (·, s) := by
  simp only [nckA, live, cellsAt_E, faE]
  split <;> rfl
end
theorem outs_ptr (s : St) (xs ys : List AV) (h : s 0 = ⟨0, .buf ys⟩) (vs : List AV) : outsA s 0 (.ptr xs 0 :: vs.map .tree) = some (ys :: vs.map fun _ => []) := by
  have h2 : ∀ (vs : List AV) (k : Nat), outsA s k (vs.map .tree) = some (vs.map fun _ => []) := by
    intro vs
    induction vs with
    | nil => intro k; rfl
    | cons v vs ih => intro k; simp only [List.map_cons, outsA, ih, Option.bind_some, Option.map_some]
  simp only [outsA, h, h2, Option.bind_some, Option.map_some]
theorem finish_0 (k : Bool) (as1 : List Arg) (os : List (List AV)) (env : Env) (s : St) (ho : outsA s 0 as1 = some os) : finishP Try.prog k as1 #[] env s = some (.tree (.tup []), os) := by
  have e : finishP Try.prog k as1 #[] env s = (outsA s 0 as1).map (.tree (.tup []), ·) := rfl
  rw [e, ho]; rfl
set_option maxHeartbeats 8000000 in
theorem efail_eq (n d : Nat) (bs : List UInt8) (g : Grip) (s : RS) (e : Int) : evalFn Try.prog cfg5 n (d+1) 54 [.ptr (rC bs g s) 0, .tree (.int .i64 e)] = some (.tree (.tup []), [rC bs g (s.fail e), []]) := by
  rw [evalFn_go _ Try.func54 (by unfold Try.f54; rfl) (by unfold Try.f54; decide) (Nat.le_of_ble_eq_true (by unfold Try.f54; rfl)) (by kernel_rfl)]
  have e0 : env0 [.ptr (rC bs g s) 0, .tree (.int .i64 e)] 0 = .ptr 0 0 0 := rfl
  have e1 : env0 [.ptr (rC bs g s) 0, .tree (.int .i64 e)] 1 = .int .i64 e := rfl
  have j0 : st0 [.ptr (rC bs g s) 0, .tree (.int .i64 e)] 0 = ⟨0, .buf (rC bs g s)⟩ := rfl
  have ho := fun s ys h => outs_ptr s (rC bs g ⟨0, 0, 0⟩) ys h [.int .i64 e]
  have ho : ∀ s' ys, s' 0 = ⟨0, .buf ys⟩ → outsA s' 0 [.ptr (rC bs g s) 0, .tree (.int .i64 e)] = some [ys, []] := fun s' ys h => outs_ptr s' (rC bs g s) ys h [.int .i64 e]
  generalize [Arg.ptr (rC bs g s) 0, .tree (.int .i64 e)] = as1 at e0 e1 j0 ho
  generalize env0 as1 = env at e0 e1
  generalize st0 as1 = st at j0
  obtain ⟨i, tm, e'⟩ := s
  simp only [rC, RS.fail] at j0 ⊢
  by_cases h : e' = 0
  · have b1 : (e' == 0) = true := by rw [h]; rfl
    rw [if_pos h]
    simp only [simB, keep5, Nat.reduceBEq, own5, String.reduceAppend, String.reduceBEq, Bool.or_false, Bool.or_true, Bool.or_self, ↓reduceIte, Nat.reduceEqDiff, Nat.reduceAdd, simA, simL, simN, Nat.zero_add, e0, e1, j0, opA_nck, nckA_p, fa59_3, ld59_3, y_eql, b1, st_eY, stY_3]
    exact finish_0 _ _ _ _ _ (ho _ _ (by simp only [zfk, ↓reduceIte, Nat.reduceEqDiff]; try rfl))
  · have b1 : (e' == 0) = false := beq_eq_false_iff_ne.mpr h
    rw [if_neg h]
    simp only [simB, keep5, Nat.reduceBEq, own5, String.reduceAppend, String.reduceBEq, Bool.or_false, Bool.or_true, Bool.or_self, ↓reduceIte, Nat.reduceEqDiff, Nat.reduceAdd, simA, simL, simN, Nat.zero_add, e0, e1, j0, opA_nck, nckA_p, fa59_3, ld59_3, y_eql, b1, st_eY, stY_3]
    exact finish_0 _ _ _ _ _ (ho _ _ j0)
end Go.Ab

/- Bytes taken; how many, in so many bytes (CFG5). Conditions: places in range. -/
namespace Go.Ab
open Go.Proofs
set_option maxRecDepth 100000
set_option linter.unusedSimpArgs false

def takeV : Option (List UInt8) → AV
  | none => .sl [] 0 .nil
  | some x => .sl (cellsOfBytes x) x.length .tight
def okR (bs : List UInt8) (s : RS) : Prop := s.i ≤ bs.length ∧ bs.length ≤ 150000000000000 ∧ -1000000 ≤ s.tm ∧ s.tm ≤ 1000000
theorem slMid (s : St) (bs : List UInt8) (g : Grip) (i j : Nat) (h1 : i ≤ j) (h2 : j ≤ bs.length) : sliceA Try.prog 22 s (.sl (cellsOfBytes bs) bs.length g) (some (.int .i64 (i : Int))) (some (.int .i64 (j : Int))) (some (.int .i64 (j : Int))) = some (.sl (cellsOfBytes ((bs.drop i).take (j - i))) ((bs.drop i).take (j - i)).length .tight) := by
  have a1 : (0 : Int) ≤ (j : Int) ∧ (j : Int) ≤ (bs.length : Nat) := ⟨by omega, by omega⟩
  have a2 : (0 : Int) ≤ (j : Int) ∧ (j : Int) ≤ (j : Nat) := ⟨by omega, by omega⟩
  have a3 : (0 : Int) ≤ (i : Int) ∧ (i : Int) ≤ (j : Nat) := ⟨by omega, by omega⟩
  have a4 : ((bs.drop i).take (j - i)).length = j - i := by rw [List.length_take, List.length_drop]; omega
  have a5 : ((cellsOfBytes bs).take j).drop i = cellsOfBytes ((bs.drop i).take (j - i)) := by
    rw [cB_take, cB_drop, List.drop_take]
  simp only [sliceA, tkB, Option.isNone_some, Option.isSome_some, Bool.false_eq_true, and_false, if_false, boundA, a1, a2, a3, and_self, if_true, Int.toNat_natCast, Option.bind_some, eszB, cB_len, Nat.mul_one, true_and, true_or, a4, a5]
set_option maxHeartbeats 8000000 in
theorem take_eq (n d : Nat) (bs : List UInt8) (g : Grip) (s : RS) (k : Nat) (hs : okR bs s) (hk : k ≤ 1000000000) : evalFn Try.prog cfg5 n (d+2) 53 [.ptr (rC bs g s) 0, .tree (.int .i64 (k : Int))] = some (.tree (takeV (takeR bs s k).1), [rC bs g (takeR bs s k).2, []]) := by
  rw [evalFn_go _ Try.func53 (by unfold Try.f53; rfl) (by unfold Try.f53; decide) (Nat.le_of_ble_eq_true (by unfold Try.f53; rfl)) (by kernel_rfl)]
  have e0 : env0 [.ptr (rC bs g s) 0, .tree (.int .i64 (k : Int))] 0 = .ptr 0 0 0 := rfl
  have e1 : env0 [.ptr (rC bs g s) 0, .tree (.int .i64 (k : Int))] 1 = .int .i64 (k : Int) := rfl
  have j0 : st0 [.ptr (rC bs g s) 0, .tree (.int .i64 (k : Int))] 0 = ⟨0, .buf (rC bs g s)⟩ := rfl
  have ho : ∀ s' ys, s' 0 = ⟨0, .buf ys⟩ → outsA s' 0 [.ptr (rC bs g s) 0, .tree (.int .i64 (k : Int))] = some [ys, []] := fun s' ys h => outs_ptr s' (rC bs g s) ys h [.int .i64 (k : Int)]
  have cf := fun D (st : St) (hp : st 0 = ⟨0, .buf (rC bs g s)⟩) => callA_ptr (call := evalFn Try.prog cfg5 n (d+1)) [.int .i64 3] rfl (efail_eq n d bs g s 3) D hp
  generalize [Arg.ptr (rC bs g s) 0, .tree (.int .i64 (k : Int))] = as1 at e0 e1 j0 ho
  generalize env0 as1 = env at e0 e1
  generalize st0 as1 = st at j0
  obtain ⟨i, tm, e⟩ := s
  obtain ⟨hi, hb, h3, h4⟩ := hs
  dsimp only at hi h3 h4
  unfold takeR
  dsimp only
  simp only [rC] at j0 cf
  by_cases he : e = 0
  · subst he
    have b1 : ((0 : Int) != 0) = false := rfl
    have f1 := i_sub Try.prog 3 (bs.length : Int) (i : Int) (by omega) (by omega)
    by_cases hk2 : bs.length < i + k
    · have q1 : (k : Int) > (bs.length : Int) - (i : Int) := by omega
      rw [if_pos (.inr hk2)]
      simp only [simB, keep5, Nat.reduceBEq, own5, String.reduceAppend, String.reduceBEq, Bool.or_false, Bool.or_true, Bool.or_self, ↓reduceIte, Nat.reduceEqDiff, Nat.reduceAdd, simA, simL, simN, Nat.zero_add, e0, e1, j0, opA_nck, nckA_p, fa59_0, fa59_1, fa59_3, ld59_0, ld59_1, ld59_3, y_neq, y_gtr, b1, lenB, f1, q1, cf]
      exact finish_slB _ rfl _ _ _ .nil rfl _ _ (by simp only [zfk, ↓reduceIte, Nat.reduceEqDiff]; try rfl) (ho _ _ (by simp only [zfk, ↓reduceIte, Nat.reduceEqDiff]; try rfl))
    · have q1 : ¬ (k : Int) > (bs.length : Int) - (i : Int) := by omega
      rw [if_neg (by omega)]
      have f2 := i_add Try.prog 3 (i : Int) (k : Int) (by omega) (by omega)
      have e2 : (i : Int) + (k : Int) = ((i + k : Nat) : Int) := by omega
      rw [e2] at f2
      have f3 : binA Try.prog .sub 3 (.int .i64 ((i + k : Nat) : Int)) (.int .i64 (k : Int)) = some (.int .i64 (i : Int)) := by
        rw [i_sub Try.prog 3 ((i + k : Nat) : Int) (k : Int) (by omega) (by omega)]
        congr 2; omega
      have f4 := fun s => slMid s bs g i (i + k) (by omega) (by omega)
      rw [Nat.add_sub_cancel_left] at f4
      simp only [simB, keep5, Nat.reduceBEq, own5, String.reduceAppend, String.reduceBEq, Bool.or_false, Bool.or_true, Bool.or_self, ↓reduceIte, Nat.reduceEqDiff, Nat.reduceAdd, simA, simL, simN, Nat.zero_add, e0, e1, j0, opA_nck, nckA_p, fa59_0, fa59_1, fa59_3, ld59_0, ld59_1, ld59_3, y_neq, y_gtr, b1, lenB, f1, q1, f2, f3, f4, st_iY, stY_1]
      exact finish_slB _ rfl _ _ _ .tight rfl _ _ (by simp only [zfk, ↓reduceIte, Nat.reduceEqDiff]; try rfl) (ho _ _ (by simp only [zfk, ↓reduceIte, Nat.reduceEqDiff]; try rfl))
  · have b1 : (e != 0) = true := by simpa using he
    rw [if_pos (.inl he)]
    simp only [simB, keep5, Nat.reduceBEq, own5, String.reduceAppend, String.reduceBEq, Bool.or_false, Bool.or_true, Bool.or_self, ↓reduceIte, Nat.reduceEqDiff, Nat.reduceAdd, simA, simL, simN, Nat.zero_add, e0, e1, j0, opA_nck, nckA_p, fa59_0, fa59_1, fa59_3, ld59_0, ld59_1, ld59_3, y_neq, y_gtr, b1, lenB, cf]
    exact finish_slB _ rfl _ _ _ .nil rfl _ _ (by simp only [zfk, ↓reduceIte, Nat.reduceEqDiff]; try rfl) (ho _ _ (by simp only [zfk, ↓reduceIte, Nat.reduceEqDiff]; try rfl))
end Go.Ab

/- How many, in so many bytes (CFG5). Conditions: places in range. -/
namespace Go.Ab
open Go.Proofs
set_option maxRecDepth 100000
set_option linter.unusedSimpArgs false

theorem y_or (P : Program) (t : TypeId) (a b : Nat) (h : a < 4611686018427387904) (h' : b < 4611686018427387904) : binA P .or t (.int .i64 (a : Int)) (.int .i64 (b : Int)) = some (.int .i64 (((a ||| b) : Nat) : Int)) := by
  have h1 : (BitVec.ofInt 64 (a : Int) ||| BitVec.ofInt 64 (b : Int)).toNat = a ||| b := by
    rw [BitVec.toNat_or]
    simp only [BitVec.ofInt_natCast, BitVec.toNat_ofNat]
    rw [Nat.mod_eq_of_lt (by omega), Nat.mod_eq_of_lt (by omega)]
  have h2 : a ||| b < 2 ^ 62 := Nat.or_lt_two_pow (by omega) (by omega)
  show some (AV.int .i64 (IntKind.i64.wrap ((BitVec.ofInt 64 (a : Int) ||| BitVec.ofInt 64 (b : Int)).toNat : Int))) = _
  rw [h1]
  generalize a ||| b = c at *
  rw [i64_wrap _ (by omega) (by omega)]
theorem y_shl8 (P : Program) (t : TypeId) (a : Nat) (h : a < 4503599627370496) : binA P .shl t (.int .i64 (a : Int)) (.int .u64 8) = some (.int .i64 ((a * 256 : Nat) : Int)) := by
  have e : (a : Int) * 2 ^ (min (8 : Int).toNat 64) = ((a * 256 : Nat) : Int) := by
    show (a : Int) * 256 = _
    omega
  simp only [binA, shA, IntKind.bits]
  rw [if_neg (by decide), e, i64_wrap _ (by omega) (by omega)]
theorem or_256 (v x : Nat) (h : x < 256) : v * 256 ||| x = v * 256 + x := by
  have := shl_or v x 8 (by omega)
  rw [Nat.or_comm, show v * 256 = v * 2 ^ 8 from rfl, this, Nat.add_comm]
def beN : List UInt8 → Nat → Nat
  | [], v => v
  | b :: r, v => beN r (v * 256 + b.toNat)
theorem beV_N : ∀ (l : List UInt8) (v : Nat), beV l (v : Int) = (beN l v : Int)
  | [], v => rfl
  | b :: r, v => by
    have := beV_N r (v * 256 + b.toNat)
    simp only [beV, beN]
    rw [← this]
    congr 1
theorem beN_lt : ∀ (l : List UInt8) (v k : Nat), v < 256 ^ k → beN l v < 256 ^ (k + l.length)
  | [], v, k, h => by simpa [beN] using h
  | b :: r, v, k, h => by
    have hb : b.toNat < 256 := b.toNat_lt
    have h1 : v * 256 + b.toNat < 256 ^ (k + 1) := by rw [Nat.pow_succ]; omega
    have := beN_lt r _ _ h1
    simp only [beN, List.length_cons]
    rw [show k + (r.length + 1) = k + 1 + r.length by omega]
    exact this
theorem beN_app : ∀ (a b : List UInt8) (v : Nat), beN (a ++ b) v = beN b (beN a v)
  | [], b, v => rfl
  | x :: r, b, v => by simp only [List.cons_append, beN, beN_app r b]
theorem iaB (s : St) (bs : List UInt8) (g : Grip) (i : Nat) (h : i < bs.length) : indexAddrA Try.prog 22 s (.sl (cellsOfBytes bs) bs.length g) (.int .i64 (i : Int)) = some (.rptr (cellsOfBytes (bs.drop i))) := by
  simp only [indexAddrA, tkB, eszB, Option.bind_some, Int.toNat_natCast, Nat.mul_one, cB_drop]
  rw [if_pos ⟨by omega, by omega⟩]
theorem ldB (s : St) (b : UInt8) (r : List UInt8) : loadA Try.prog 5 s (.rptr (cellsOfBytes (b :: r))) = some (.int .u8 (b.toNat : Int)) := by
  have h : shOf Try.prog 5 = some (false, 1) := by kernel_rfl
  simp only [loadA, partA, h]; rfl
theorem finish_iY (k : Bool) (as1 : List Arg) (os : List (List AV)) (t : Nat) (z : Int) (env : Env) (s : St) (hv : env t = .int .i64 z) (ho : outsA s 0 as1 = some os) : finishP Try.prog k as1 #[.tmp t] env s = some (.tree (.int .i64 z), os) := by
  rw [finishP_t1]
  simp only [finish, finish1, hv, settle, Option.bind_some, ho, Option.map_some]
theorem RS.fail_ok {bs : List UInt8} {s : RS} {e : Int} (h : okR bs s) : okR bs (s.fail e) := by
  unfold RS.fail
  split <;> exact h
theorem takeR_ok {bs : List UInt8} {s : RS} {k : Nat} (h : okR bs s) : okR bs (takeR bs s k).2 := by
  unfold takeR
  split
  · exact RS.fail_ok h
  · rename_i hc
    exact ⟨by dsimp only; omega, h.2⟩
theorem takeR_len {bs : List UInt8} {s : RS} {k : Nat} : ((takeR bs s k).1.getD []).length ≤ k := by
  unfold takeR
  split
  · simp
  · simp only [Option.getD_some, List.length_take]; omega
theorem takeV_row (o : Option (List UInt8)) : ∃ g, takeV o = .sl (cellsOfBytes (o.getD [])) (o.getD []).length g := by
  cases o with
  | none => exact ⟨.nil, rfl⟩
  | some x => exact ⟨.tight, rfl⟩
theorem manyR_ok {bs : List UInt8} {s : RS} {k : Nat} {a b : Int} (h : okR bs s) : okR bs (manyR bs s k a b).2 := by
  unfold manyR
  dsimp only
  split
  · exact takeR_ok h
  · split
    · exact RS.fail_ok (takeR_ok h)
    · exact takeR_ok h
set_option maxHeartbeats 8000000 in
theorem many_eq (n d : Nat) (hn : 100 ≤ n) (bs : List UInt8) (g : Grip) (s : RS) (k : Nat) (a b : Int) (hs : okR bs s) (hk : k ≤ 4) : evalFn Try.prog cfg5 n (d+3) 58 [.ptr (rC bs g s) 0, .tree (.int .i64 (k : Int)), .tree (.int .i64 a), .tree (.int .i64 b)] = some (.tree (.int .i64 (manyR bs s k a b).1), [rC bs g (manyR bs s k a b).2, [], [], []]) := by
  rw [evalFn_go _ Try.func58 (by unfold Try.f58; rfl) (by unfold Try.f58; decide) (Nat.le_of_ble_eq_true (by unfold Try.f58; rfl)) (by kernel_rfl)]
  have e0 : env0 [.ptr (rC bs g s) 0, .tree (.int .i64 (k : Int)), .tree (.int .i64 a), .tree (.int .i64 b)] 0 = .ptr 0 0 0 := rfl
  have e1 : env0 [.ptr (rC bs g s) 0, .tree (.int .i64 (k : Int)), .tree (.int .i64 a), .tree (.int .i64 b)] 1 = .int .i64 (k : Int) := rfl
  have e2 : env0 [.ptr (rC bs g s) 0, .tree (.int .i64 (k : Int)), .tree (.int .i64 a), .tree (.int .i64 b)] 2 = .int .i64 a := rfl
  have e3 : env0 [.ptr (rC bs g s) 0, .tree (.int .i64 (k : Int)), .tree (.int .i64 a), .tree (.int .i64 b)] 3 = .int .i64 b := rfl
  have j0 : st0 [.ptr (rC bs g s) 0, .tree (.int .i64 (k : Int)), .tree (.int .i64 a), .tree (.int .i64 b)] 0 = ⟨0, .buf (rC bs g s)⟩ := rfl
  have ho : ∀ s' ys, s' 0 = ⟨0, .buf ys⟩ → outsA s' 0 [.ptr (rC bs g s) 0, .tree (.int .i64 (k : Int)), .tree (.int .i64 a), .tree (.int .i64 b)] = some [ys, [], [], []] := fun s' ys h => outs_ptr s' (rC bs g s) ys h [.int .i64 (k : Int), .int .i64 a, .int .i64 b]
  have ct := fun D (st : St) (hp : st 0 = ⟨0, .buf (rC bs g s)⟩) => callA_ptr (call := evalFn Try.prog cfg5 n (d+2)) [.int .i64 (k : Int)] rfl (take_eq n d bs g s k hs (by omega)) D hp
  have cf := fun D (st : St) (hp : st 0 = ⟨0, .buf (rC bs g (takeR bs s k).2)⟩) => callA_ptr (call := evalFn Try.prog cfg5 n (d+2)) [.int .i64 4] rfl (efail_eq n (d+1) bs g (takeR bs s k).2 4) D hp
  generalize [Arg.ptr (rC bs g s) 0, .tree (.int .i64 (k : Int)), .tree (.int .i64 a), .tree (.int .i64 b)] = as1 at e0 e1 e2 e3 j0 ho
  generalize env0 as1 = env at e0 e1 e2 e3
  generalize st0 as1 = st at j0
  have hlen := takeR_len (bs := bs) (s := s) (k := k)
  unfold manyR
  dsimp only
  obtain ⟨gv, hgv⟩ := takeV_row (takeR bs s k).1
  rw [hgv] at ct
  obtain ⟨x, hx⟩ : ∃ x, (takeR bs s k).1.getD [] = x := ⟨_, rfl⟩
  rw [hx] at ct hlen ⊢
  obtain ⟨r, hr⟩ : ∃ r, (takeR bs s k).2 = r := ⟨_, rfl⟩
  rw [hr] at ct cf ⊢
  have hv0 : beV x 0 = ((beN x 0 : Nat) : Int) := beV_N x 0
  rw [hv0]
  simp only [simB, keep5, Nat.reduceBEq, own5, String.reduceAppend, String.reduceBEq, Bool.or_false, Bool.or_true, Bool.or_self, ↓reduceIte, Nat.reduceEqDiff, Nat.reduceAdd, simA, simL, simN, Nat.zero_add, e0, e1, j0, ct, lenB, den_loop]
  refine loop_ends (X := Nat) (fun i env s => env 0 = .ptr 0 0 0 ∧ env 2 = .int .i64 a ∧ env 3 = .int .i64 b ∧ env 9 = .int .i64 ((beN (x.take i) 0 : Nat) : Int) ∧ env 14 = .sl (cellsOfBytes x) x.length gv ∧ env 15 = .int .i64 (x.length : Int) ∧ env 16 = .int .i64 (i : Int) ∧ i ≤ x.length ∧ s 0 = ⟨0, .buf (rC bs g r)⟩) (fun i => x.length - i) (fun _ => (.tree (.int .i64 (if r.e ≠ 0 then (0, r) else if ((beN x 0 : Nat) : Int) < a ∨ b < ((beN x 0 : Nat) : Int) then (0, r.fail 4) else (((beN x 0 : Nat) : Int), r)).1), [rC bs g (if r.e ≠ 0 then (0, r) else if ((beN x 0 : Nat) : Int) < a ∨ b < ((beN x 0 : Nat) : Int) then (0, r.fail 4) else (((beN x 0 : Nat) : Int), r)).2, [], [], []])) ?_ n 0 _ _ (by omega) ⟨(by simp only [zfk, ↓reduceIte, Nat.reduceEqDiff, e0]; try rfl), (by simp only [zfk, ↓reduceIte, Nat.reduceEqDiff, e2]; try rfl), (by simp only [zfk, ↓reduceIte, Nat.reduceEqDiff, e3]; try rfl), (by simp only [zfk, ↓reduceIte, Nat.reduceEqDiff]; try rfl), (by simp only [zfk, ↓reduceIte, Nat.reduceEqDiff]; try rfl), (by simp only [zfk, ↓reduceIte, Nat.reduceEqDiff]; try rfl), (by simp only [zfk, ↓reduceIte, Nat.reduceEqDiff]; try rfl), Nat.zero_le _, (by simp only [zfk, ↓reduceIte, Nat.reduceEqDiff]; try rfl)⟩
  rintro rd i hrd ih env1 s1 ⟨e0', e2', e3', e9, e14, e15, e16, hi, k0⟩
  cases hdr : x.drop i with
  | cons c q =>
    have hlt : i < x.length := by have := congrArg List.length hdr; simp only [List.length_drop, List.length_cons] at this; omega
    have q1 : (i : Int) < (x.length : Int) := by omega
    have ia := fun st => iaB st x gv i hlt
    rw [hdr] at ia
    have ld := fun st => ldB st c q
    have hv : beN (x.take i) 0 < 256 ^ (0 + (x.take i).length) := beN_lt _ 0 0 (by decide)
    have hv2 : beN (x.take i) 0 < 256 ^ 4 := Nat.lt_of_lt_of_le hv (Nat.pow_le_pow_right (by decide) (by rw [List.length_take]; omega))
    have hv3 : beN (x.take i) 0 < 4294967296 := hv2
    have g1 := y_shl8 Try.prog 3 (beN (x.take i) 0) (by omega)
    have hc : c.toNat < 256 := c.toNat_lt
    have g2 := fun s => conv5_3 s c.toNat hc
    have g3 := y_or Try.prog 3 (beN (x.take i) 0 * 256) c.toNat (by omega) (by omega)
    rw [or_256 _ _ hc] at g3
    have hnx : beN (x.take (i + 1)) 0 = beN (x.take i) 0 * 256 + c.toNat := by
      have hxi : x[i]? = some c := by rw [← Nat.add_zero i, ← List.getElem?_drop, hdr]; rfl
      rw [List.take_add_one, hxi, beN_app]; rfl
    rw [← hnx] at g3
    have g8 := i_add Try.prog 3 (i : Int) 1 (by omega) (by omega)
    simp only [simB, keep5, Nat.reduceBEq, own5, String.reduceAppend, String.reduceBEq, Bool.or_false, Bool.or_true, Bool.or_self, ↓reduceIte, Nat.reduceEqDiff, Nat.reduceAdd, simA, simL, simN, Nat.zero_add, y_lss, e0', e9, e14, e15, e16, q1, ia, ld, g1, g2, g3, g8]
    exact ih (i + 1) _ _ (by omega) rfl ⟨(by simp only [zfk, ↓reduceIte, Nat.reduceEqDiff, e0']; try rfl), (by simp only [zfk, ↓reduceIte, Nat.reduceEqDiff, e2']; try rfl), (by simp only [zfk, ↓reduceIte, Nat.reduceEqDiff, e3']; try rfl), (by simp only [zfk, ↓reduceIte, Nat.reduceEqDiff]; try rfl), (by simp only [zfk, ↓reduceIte, Nat.reduceEqDiff, e14]; try rfl), (by simp only [zfk, ↓reduceIte, Nat.reduceEqDiff, e15]; try rfl), (by simp only [zfk, ↓reduceIte, Nat.reduceEqDiff]; try rfl), by omega, (by simp only [zfk, ↓reduceIte, Nat.reduceEqDiff, k0]; try rfl)⟩
  | nil =>
    have hie : i = x.length := by have := congrArg List.length hdr; simp only [List.length_drop, List.length_nil] at this; omega
    subst hie
    rw [List.take_length] at e9
    have q1 : ¬ (x.length : Int) < (x.length : Int) := by omega
    obtain ⟨v, hv⟩ : ∃ v, ((beN x 0 : Nat) : Int) = v := ⟨_, rfl⟩
    rw [hv] at e9 ⊢
    obtain ⟨i, tm, e⟩ := r
    simp only [rC, RS.fail] at k0 cf ⊢
    by_cases he : e = 0
    · subst he
      have b1 : ((0 : Int) == 0) = true := rfl
      have b2 : ((0 : Int) != 0) = false := rfl
      have b3 : ((4 : Int) != 0) = true := rfl
      have n0 : ¬ ((0 : Int) ≠ 0) := fun h => h rfl
      rw [if_neg n0]
      simp only [↓reduceIte] at cf
      by_cases h1 : v < a
      · rw [if_pos (.inl h1)]
        simp only [simB, keep5, Nat.reduceBEq, own5, String.reduceAppend, String.reduceBEq, Bool.or_false, Bool.or_true, Bool.or_self, ↓reduceIte, Nat.reduceEqDiff, Nat.reduceAdd, simA, simL, simN, Nat.zero_add, y_lss, y_gtr, y_eql, y_neq, e0', e2', e3', e9, e14, e15, e16, q1, k0, opA_nck, nckA_p, fa59_3, ld59_3, b1, b2, b3, h1, cf]
        exact finish_iY _ _ _ _ _ _ _ (by simp only [zfk, ↓reduceIte, Nat.reduceEqDiff]; try rfl) (ho _ _ (by simp only [zfk, ↓reduceIte, Nat.reduceEqDiff]; try rfl))
      · by_cases h2 : v > b
        · rw [if_pos (.inr h2)]
          simp only [simB, keep5, Nat.reduceBEq, own5, String.reduceAppend, String.reduceBEq, Bool.or_false, Bool.or_true, Bool.or_self, ↓reduceIte, Nat.reduceEqDiff, Nat.reduceAdd, simA, simL, simN, Nat.zero_add, y_lss, y_gtr, y_eql, y_neq, e0', e2', e3', e9, e14, e15, e16, q1, k0, opA_nck, nckA_p, fa59_3, ld59_3, b1, b2, b3, h1, h2, cf]
          exact finish_iY _ _ _ _ _ _ _ (by simp only [zfk, ↓reduceIte, Nat.reduceEqDiff]; try rfl) (ho _ _ (by simp only [zfk, ↓reduceIte, Nat.reduceEqDiff]; try rfl))
        · rw [if_neg (fun h => h.elim h1 h2)]
          simp only [simB, keep5, Nat.reduceBEq, own5, String.reduceAppend, String.reduceBEq, Bool.or_false, Bool.or_true, Bool.or_self, ↓reduceIte, Nat.reduceEqDiff, Nat.reduceAdd, simA, simL, simN, Nat.zero_add, y_lss, y_gtr, y_eql, y_neq, e0', e2', e3', e9, e14, e15, e16, q1, k0, opA_nck, nckA_p, fa59_3, ld59_3, b1, b2, h1, h2]
          exact finish_iY _ _ _ _ _ _ _ (by simp only [zfk, ↓reduceIte, Nat.reduceEqDiff, e9]; try rfl) (ho _ _ k0)
    · have b1 : (e == 0) = false := beq_eq_false_iff_ne.mpr he
      have b2 : (e != 0) = true := by simpa using he
      rw [if_pos he]
      simp only [simB, keep5, Nat.reduceBEq, own5, String.reduceAppend, String.reduceBEq, Bool.or_false, Bool.or_true, Bool.or_self, ↓reduceIte, Nat.reduceEqDiff, Nat.reduceAdd, simA, simL, simN, Nat.zero_add, y_lss, y_gtr, y_eql, y_neq, e0', e2', e3', e9, e14, e15, e16, q1, k0, opA_nck, nckA_p, fa59_3, ld59_3, b1, b2]
      exact finish_iY _ _ _ _ _ _ _ (by simp only [zfk, ↓reduceIte, Nat.reduceEqDiff]; try rfl) (ho _ _ k0)
end Go.Ab

/- A term that is made of no others: what is told of it at the end (CFG5). Conditions: places in range. -/
namespace Go.Ab
open Go.Proofs
set_option maxRecDepth 100000
set_option linter.unusedSimpArgs false

theorem convBS (s : St) (b : List UInt8) (g : Grip) : convA Try.prog 22 9 s (.sl (cellsOfBytes b) b.length g) = some (.str b) := by
  simp only [convA, tkB, tk9, tkU8, cB_len, if_true, bytesOf_cB, Option.map_some]
theorem slLH (s : St) (bs : List UInt8) (g : Grip) (i j : Nat) (h1 : i ≤ j) (h2 : j ≤ bs.length) : ∃ g', sliceA Try.prog 22 s (.sl (cellsOfBytes bs) bs.length g) (some (.int .i64 (i : Int))) (some (.int .i64 (j : Int))) none = some (.sl (cellsOfBytes ((bs.drop i).take (j - i))) ((bs.drop i).take (j - i)).length g') := by
  have a1 : (0 : Int) ≤ (j : Int) ∧ (j : Int) ≤ (bs.length : Nat) := ⟨by omega, by omega⟩
  have a3 : (0 : Int) ≤ (i : Int) ∧ (i : Int) ≤ (j : Nat) := ⟨by omega, by omega⟩
  have a4 : ((bs.drop i).take (j - i)).length = j - i := by rw [List.length_take, List.length_drop]; omega
  have a5 : ((cellsOfBytes bs).take j).drop i = cellsOfBytes ((bs.drop i).take (j - i)) := by
    rw [cB_take, cB_drop, List.drop_take]
  simp only [sliceA, tkB, Option.isNone_none, Option.isSome_none, Bool.false_eq_true, false_and, if_false, boundA, a1, a3, and_self, if_true, Int.toNat_natCast, Option.bind_some, eszB, cB_len, Nat.mul_one, a4, a5]
  exact ⟨_, rfl⟩
structure Leaf (t : T) : Prop where
  kids : kidsT t = []
  kind : kindT t ≠ 4
  lim : Limbs (limT t)
theorem Leaf.wf {t : T} (h : Leaf t) : wfT t := by
  obtain ⟨k, b, lg, l, s, n, kg, ks⟩ := t
  have h1 : ks = [] := h.kids
  subst h1
  simp only [wfT, wfK, and_true]
  exact h.lim
theorem Leaf.nod {t : T} (h : Leaf t) : nodT t = 1 := by
  obtain ⟨k, b, lg, l, s, n, kg, ks⟩ := t
  have h1 : ks = [] := h.kids
  subst h1; rfl
theorem Leaf.chk {t : T} (h : Leaf t) : (chkT t 1 2000).1 = ownT t := by
  obtain ⟨k, b, lg, l, s, n, kg, ks⟩ := t
  have h1 : ks = [] := h.kids
  have h2 : k ≠ 4 := h.kind
  subst h1
  simp only [chkT, chkK, if_neg h2]
  cases ho : ownT (.mk k b lg l s n kg [])
  · rw [if_pos (.inr (.inr rfl))]
  · rw [if_neg (by simp)]
theorem numB_len (b : Bool) (l : List Nat) (hc : chkN b l = true) (hL : Limbs l) : (numB b l).length ≤ 60 := by
  have h1 := limbs_bits hL
  rw [← chkN_abs hc] at h1
  have h2 : l.length ≤ 12 := by
    simp only [chkN, Bool.and_eq_true, decide_eq_true_eq] at hc
    exact hc.1
  unfold numB
  split
  · show (2 : Nat) ≤ 60; decide
  · split
    · show _ + 1 ≤ 60; exact (by decide : 4 + 1 ≤ 60)
    · simp only [List.length_cons, limBs_len]; omega
theorem Leaf.len {t : T} (h : Leaf t) (ho : ownT t = true) : (putB t).length ≤ 500 := by
  obtain ⟨k, b, lg, l, s, n, kg, ks⟩ := t
  have h1 : ks = [] := h.kids
  have h2 : k ≠ 4 := h.kind
  have h3 := own_str ho
  subst h1
  rcases own_kind ho with rfl | rfl | rfl | rfl | rfl | rfl
  · have := numB_len b l (own_num ho) h.lim
    show (numB b l).length ≤ 500; omega
  · rw [putB_2]; simp only [List.length_cons]; omega
  · rw [putB_3]; decide
  · exact absurd rfl h2
  · rw [putB_5]; simp [putAll]
  · rw [putB_6]
    have : (be32 (s.length : Int)).length = 4 := rfl
    simp only [List.length_cons, List.length_append, this]; omega
noncomputable def plC : Code := (Try.f55.body).getD .skip
noncomputable def pl1 : Code := seqR plC
noncomputable def pl2 : Code := seqR pl1
noncomputable def pl3 : Code := seqR pl2
def endR (bs : List UInt8) (r : RS) (p : T) (fr : Nat) : RS := if r.e = 0 ∧ ¬ (putB p = (bs.drop fr).take (r.i - fr) ∧ ownT p = true) then r.fail 4 else r
theorem s_neqY (t : TypeId) (a b : List UInt8) : binA Try.prog .neq t (.str a) (.str b) = some (.bool (!(a == b))) := rfl
theorem finish_cY (k : Bool) (as1 : List Arg) (os : List (List AV)) (a p e : Nat) (u : T) (env : Env) (s : St) (ha : env a = .ptr p e 0) (hs : s p = ⟨e, .buf (cellsT u)⟩) (ho : outsA s 0 as1 = some os) :
    finishP Try.prog k as1 #[.cell a 28] env s = some (.tree (encT u), os) := by
  have hl : loadA Try.prog 28 s (env a) = some (.agg (cellsT u)) := by rw [ha, zeo, hs, ldT_u, if_pos rfl]
  simp [finishP, isTmpR, hl, settle, ho, encT]
set_option maxHeartbeats 16000000 in
theorem pl3_eq (n d : Nat) (hn : 2200 ≤ n) (hd : 6010 ≤ d) (bs : List UInt8) (g : Grip) (r : RS) (hr : okR bs r) (fr : Nat) (hf : fr < r.i ∨ r.e ≠ 0) (p : T) (hp : Leaf p) (as1 : List Arg) (os : List (List AV)) (ho : ∀ s ys, s 0 = ⟨0, .buf ys⟩ → outsA s 0 as1 = some (ys :: os)) (K : Kont)
    (hK : ∀ env s, K .ret env s = finishP Try.prog false as1 #[.cell 6 28] env s) (env : Env) (st : St) (e0 : env 0 = .ptr 0 0 0) (e2 : env 2 = .int .i64 (fr : Int)) (e6 : env 6 = .ptr 6 1 0) (e7 : env 7 = .ptr 7 1 0)
    (j0 : st 0 = ⟨0, .buf (rC bs g r)⟩) (j6 : st 6 = ⟨1, .buf [.int .i64 0, .bool false, .sl [] 0 .nil, .str [], .int .i64 0, .sl [] 0 .nil]⟩) (j7 : st 7 = ⟨1, .buf (cellsT p)⟩) :
    den Try.prog cfg5 (evalFn Try.prog cfg5 n (d+1)) n pl3 K env st = some (.tree (encT p), rC bs g (endR bs r p fr) :: os) := by
  have cf := fun D (st : St) (hp : st 0 = ⟨0, .buf (rC bs g r)⟩) => callA_ptr (call := evalFn Try.prog cfg5 n (d+1)) [.int .i64 4] rfl (efail_eq n d bs g r 4) D hp
  obtain ⟨i, tm, e⟩ := r
  obtain ⟨hi, hb, h3, h4⟩ := hr
  dsimp only at hi h3 h4 hf
  unfold endR
  dsimp only
  simp only [rC] at j0 cf
  by_cases he : e = 0
  · subst he
    have b1 : ((0 : Int) == 0) = true := rfl
    have hfi : fr < i := hf.resolve_right (fun h => h rfl)
    have fs : ∃ g', ∀ s, sliceA Try.prog 22 s (.sl (cellsOfBytes bs) bs.length g) (some (.int .i64 (fr : Int))) (some (.int .i64 (i : Int))) none = some (.sl (cellsOfBytes ((bs.drop fr).take (i - fr))) ((bs.drop fr).take (i - fr)).length g') := by
      obtain ⟨g', h⟩ := slLH dead bs g fr i (by omega) hi
      refine ⟨g', fun s => ?_⟩
      rw [← h]
      simp only [sliceA, tkB]
    obtain ⟨g', fs⟩ := fs
    have hsl : ((bs.drop fr).take (i - fr)).length = i - fr := by rw [List.length_take, List.length_drop]; omega
    obtain ⟨w, hw⟩ : ∃ w, (bs.drop fr).take (i - fr) = w := ⟨_, rfl⟩
    rw [hw] at fs hsl ⊢
    have hput : ∃ q : List UInt8, (∃ g2, callQ (evalFn Try.prog cfg5 n (d+1)) 10 [.sl [] 0 .nil, encT p] = some (.sl (cellsOfBytes q) q.length g2)) ∧ (q = w ↔ (putB p = w ∧ ownT p = true)) := by
      cases hown : ownT p with
      | true =>
        refine ⟨putB p, ⟨.loose, ?_⟩, by simp⟩
        have hl := hp.len hown
        exact callQ_trees (f := 10) (vs := [.sl [] 0 .nil, encT p]) rfl (ePut_ok n d [] .nil p (by rw [hp.chk]; exact hown) hp.wf hn (by omega) (by simp only [List.length_nil]; omega))
      | false =>
        refine ⟨[], ⟨.nil, ?_⟩, ?_⟩
        · obtain ⟨d', rfl⟩ : ∃ d', d = d' + 1 := ⟨d - 1, by omega⟩
          exact callQ_trees (f := 10) (vs := [.sl [] 0 .nil, encT p]) rfl (ePut_no n d' [] .nil rfl p (by rw [hp.chk]; exact hown) hp.wf (by rw [hp.nod]; decide))
        · constructor
          · intro h; rw [← h] at hsl; simp at hsl; omega
          · intro h; exact absurd h.2 (by decide)
    obtain ⟨q, ⟨g2, hq⟩, hqw⟩ := hput
    simp only [encT] at hq
    have cs := fun s => convBS s q g2
    have cw := fun s => convBS s w g'
    by_cases heq : putB p = w ∧ ownT p = true
    · have hqe : q = w := hqw.2 heq
      have b2 : (!(q == w)) = false := by rw [hqe]; simp
      rw [if_neg (fun h => h.2 heq)]
      simp only [pl3, pl2, pl1, plC, seqR, Try.f55, Option.getD_some, simB, keep5, Nat.reduceBEq, own5, String.reduceAppend, String.reduceBEq, Bool.or_false, Bool.or_true, Bool.or_self, ↓reduceIte, Nat.reduceEqDiff, Nat.reduceAdd, simA, simL, simN, Nat.zero_add, e0, e2, e6, e7, j0, j6, j7, opA_nck, nckA_p, fa59_0, fa59_1, fa59_3, ld59_0, ld59_1, ld59_3, y_eql, b1, ldT_u, hq, cs, zdp, fs, cw, s_neqY, b2, st_Tt, stT_6, hK]
      exact finish_cY _ _ _ _ _ _ p _ _ (by simp only [zfk, ↓reduceIte, Nat.reduceEqDiff, e6]; try rfl) (by simp only [zfk, ↓reduceIte, Nat.reduceEqDiff]; try rfl) (ho _ _ (by simp only [zfk, ↓reduceIte, Nat.reduceEqDiff, j0]; try rfl))
    · have hqe : ¬ q = w := fun h => heq (hqw.1 h)
      have b2 : (!(q == w)) = true := by simpa using hqe
      rw [if_pos ⟨rfl, heq⟩]
      simp only [pl3, pl2, pl1, plC, seqR, Try.f55, Option.getD_some, simB, keep5, Nat.reduceBEq, own5, String.reduceAppend, String.reduceBEq, Bool.or_false, Bool.or_true, Bool.or_self, ↓reduceIte, Nat.reduceEqDiff, Nat.reduceAdd, simA, simL, simN, Nat.zero_add, e0, e2, e6, e7, j0, j6, j7, opA_nck, nckA_p, fa59_0, fa59_1, fa59_3, ld59_0, ld59_1, ld59_3, y_eql, b1, ldT_u, hq, cs, zdp, fs, cw, s_neqY, b2, cf, st_Tt, stT_6, hK]
      exact finish_cY _ _ _ _ _ _ p _ _ (by simp only [zfk, ↓reduceIte, Nat.reduceEqDiff, e6]; try rfl) (by simp only [zfk, ↓reduceIte, Nat.reduceEqDiff]; try rfl) (ho _ _ (by simp only [zfk, ↓reduceIte, Nat.reduceEqDiff]; try rfl))
  · have b1 : (e == 0) = false := beq_eq_false_iff_ne.mpr he
    rw [if_neg (fun h => he h.1)]
    simp only [pl3, pl2, pl1, plC, seqR, Try.f55, Option.getD_some, simB, keep5, Nat.reduceBEq, own5, String.reduceAppend, String.reduceBEq, Bool.or_false, Bool.or_true, Bool.or_self, ↓reduceIte, Nat.reduceEqDiff, Nat.reduceAdd, simA, simL, simN, Nat.zero_add, e0, e2, e6, e7, j0, j6, j7, opA_nck, nckA_p, fa59_0, fa59_1, fa59_3, ld59_0, ld59_1, ld59_3, y_eql, b1, ldT_u, st_Tt, stT_6, hK]
    exact finish_cY _ _ _ _ _ _ p _ _ (by simp only [zfk, ↓reduceIte, Nat.reduceEqDiff, e6]; try rfl) (by simp only [zfk, ↓reduceIte, Nat.reduceEqDiff]; try rfl) (ho _ _ (by simp only [zfk, ↓reduceIte, Nat.reduceEqDiff, j0]; try rfl))
end Go.Ab

/- A term that is made of no others, read (CFG5). Conditions: places in range. -/
namespace Go.Ab
open Go.Proofs
set_option maxRecDepth 100000
set_option linter.unusedSimpArgs false

theorem takeR_some {bs : List UInt8} {s : RS} {k : Nat} {x : List UInt8} (h : (takeR bs s k).1 = some x) : x.length = k ∧ (takeR bs s k).2 = ⟨s.i + k, s.tm, s.e⟩ ∧ s.e = 0 ∧ s.i + k ≤ bs.length ∧ x = (bs.drop s.i).take k := by
  unfold takeR at h ⊢
  split at h
  · cases h
  · rename_i hc
    simp only [Option.some.injEq] at h
    rw [if_neg hc]
    refine ⟨?_, rfl, ?_, by omega, h.symm⟩
    · rw [← h, List.length_take, List.length_drop]; omega
    · rcases Classical.em (s.e = 0) with h | h
      · exact h
      · exact absurd (.inl h) hc
theorem takeR_mono {bs : List UInt8} {s : RS} {k : Nat} : s.i ≤ (takeR bs s k).2.i ∧ (takeR bs s k).2.tm = s.tm := by
  unfold takeR
  split
  · unfold RS.fail; split <;> exact ⟨Nat.le_refl _, rfl⟩
  · exact ⟨by dsimp only; omega, rfl⟩
theorem manyR_mono {bs : List UInt8} {s : RS} {k : Nat} {a b : Int} : s.i ≤ (manyR bs s k a b).2.i ∧ (manyR bs s k a b).2.tm = s.tm := by
  have h := takeR_mono (bs := bs) (s := s) (k := k)
  unfold manyR
  dsimp only
  split
  · exact h
  · split
    · unfold RS.fail; split <;> exact h
    · exact h
theorem manyR_range {bs : List UInt8} {s : RS} {k : Nat} {a b : Int} (ha : 0 ≤ a) (hb : 0 ≤ b) : 0 ≤ (manyR bs s k a b).1 ∧ (manyR bs s k a b).1 ≤ b := by
  unfold manyR
  dsimp only
  split
  · exact ⟨Int.le_refl 0, hb⟩
  · split
    · exact ⟨Int.le_refl 0, hb⟩
    · rename_i h1 h2
      exact ⟨by dsimp only; omega, by dsimp only; omega⟩
def BigOk (n D : Nat) : Prop := ∀ o : Option (List UInt8), (o.getD []).length ≤ 49 → evalFn Try.prog cfg5 n D 83 [.tree (takeV o)] = some (.tree (encA (bigR (o.getD [])).1 (bigR (o.getD [])).2.1 (bigR (o.getD [])).2.2), [[]])
def stN (e : Ent) (p k : Nat) (s : St) (x y : AV) : Option St := match e with
  | ⟨t', .buf xs⟩ => if t' = k then (if 1 + 2 ≤ xs.length then some (upd s p ⟨t', .buf (splice xs 1 [x, y])⟩) else none) else none
  | _ => none
theorem st_N1 (s : St) (p k : Nat) (x y : AV) : storeA Try.prog 25 s (.ptr p k 1) (.agg [x, y]) = stN (s p) p k s x y := by
  simp only [storeA, settle, Option.bind_some, stN]
  cases h : s p with
  | mk t c => cases c <;> simp [esz24]
theorem stN_6 (t p k : Nat) (s : St) (a b c d e f x y : AV) : stN ⟨t, .buf [a, b, c, d, e, f]⟩ p k s x y = if t = k then some (upd s p ⟨t, .buf [a, x, y, d, e, f]⟩) else none := by simp [stN, splice]
theorem stY_60 (t p k : Nat) (s : St) (a b c d e f v : AV) : stY ⟨t, .buf [a, b, c, d, e, f]⟩ p k 0 s v = if t = k then some (upd s p ⟨t, .buf [v, b, c, d, e, f]⟩) else none := by simp [stY]
theorem y_eql8 (t : TypeId) (x y : Int) : binA Try.prog .eql t (.int .u8 x) (.int .u8 y) = some (.bool (x == y)) := rfl
theorem limR_limbs (x : List UInt8) : ∀ (m j : Nat), Limbs (limR x m j)
  | 0, j => by intro y hy; cases hy
  | m + 1, j => by
    have h := fun i => (x.getD i 0).toNat_lt
    have ih := limR_limbs x m (j + 1)
    intro y hy
    simp only [limR, List.mem_cons] at hy
    rcases hy with rfl | hy
    · have h0 := h (4 * j); have h1 := h (4 * j + 1); have h2 := h (4 * j + 2); have h3 := h (4 * j + 3)
      omega
    · exact ih y hy
theorem bigR_limbs (x : List UInt8) : Limbs (bigR x).2.2 := by
  unfold bigR
  split
  · intro y hy; cases hy
  · exact limR_limbs _ _ _
section
variable (n d : Nat) (hn : 2200 ≤ n) (hd : 6011 ≤ d) (bs : List UInt8) (g : Grip) (s : RS) (hs : okR bs s) (he : s.e = 0) (fr : Nat) (hf : fr < s.i)
include hn hd hs he hf
theorem plain_nil (tag : Nat) (h1 : tag ≠ 97) (h2 : tag ≠ 98) (h3 : tag ≠ 110) (h4 : tag ≠ 119) (h5 : tag ≠ 109) : evalFn Try.prog cfg5 n (d+2) 55 [.ptr (rC bs g s) 0, .tree (.int .u8 (tag : Int)), .tree (.int .i64 (fr : Int))] = some (.tree (encT nilT'), [rC bs g (endR bs s nilT' fr), [], []]) := by
  have _hu := he
  rw [evalFn_go _ Try.func55 (by unfold Try.f55; rfl) (by unfold Try.f55; decide) (Nat.le_of_ble_eq_true (by unfold Try.f55; rfl)) (by kernel_rfl)]
  have e0 : env0 [.ptr (rC bs g s) 0, .tree (.int .u8 (tag : Int)), .tree (.int .i64 (fr : Int))] 0 = .ptr 0 0 0 := rfl
  have e1 : env0 [.ptr (rC bs g s) 0, .tree (.int .u8 (tag : Int)), .tree (.int .i64 (fr : Int))] 1 = .int .u8 (tag : Int) := rfl
  have e2 : env0 [.ptr (rC bs g s) 0, .tree (.int .u8 (tag : Int)), .tree (.int .i64 (fr : Int))] 2 = .int .i64 (fr : Int) := rfl
  have j0 : st0 [.ptr (rC bs g s) 0, .tree (.int .u8 (tag : Int)), .tree (.int .i64 (fr : Int))] 0 = ⟨0, .buf (rC bs g s)⟩ := rfl
  have j6 : (st0 [.ptr (rC bs g s) 0, .tree (.int .u8 (tag : Int)), .tree (.int .i64 (fr : Int))] 6).t = 0 := rfl
  have j7 : (st0 [.ptr (rC bs g s) 0, .tree (.int .u8 (tag : Int)), .tree (.int .i64 (fr : Int))] 7).t = 0 := rfl
  have ho : ∀ s' ys, s' 0 = ⟨0, .buf ys⟩ → outsA s' 0 [.ptr (rC bs g s) 0, .tree (.int .u8 (tag : Int)), .tree (.int .i64 (fr : Int))] = some (ys :: [[], []]) := fun s' ys h => outs_ptr s' (rC bs g s) ys h [.int .u8 (tag : Int), .int .i64 (fr : Int)]
  generalize [Arg.ptr (rC bs g s) 0, .tree (.int .u8 (tag : Int)), .tree (.int .i64 (fr : Int))] = as1 at e0 e1 e2 j0 j6 j7 ho
  generalize env0 as1 = env at e0 e1 e2
  generalize st0 as1 = st at j0 j6 j7
  have hc : plC = .seq (seqL plC) (.seq (seqL pl1) (.seq (seqL pl2) pl3)) := rfl
  show den _ _ _ _ plC _ _ _ = _
  rw [hc]
  have b1 : ((tag : Int) == 97) = false := beq_eq_false_iff_ne.mpr (by omega)
  have b2 : ((tag : Int) == 98) = false := beq_eq_false_iff_ne.mpr (by omega)
  have b3 : ((tag : Int) == 110) = false := beq_eq_false_iff_ne.mpr (by omega)
  have b4 : ((tag : Int) == 119) = false := beq_eq_false_iff_ne.mpr (by omega)
  have b5 : ((tag : Int) == 109) = false := beq_eq_false_iff_ne.mpr (by omega)
  have bd := bdT_0 1
  have stt := fun s p k => st_Tt s p k int0
  simp only [int0, cellsT, encC, encL, List.map_nil, cellsK, List.length_nil, gr] at stt
  have st6 := fun t k p st => stT_6 t k p st (.int .i64 0) (.bool false) (.sl [] 0 .nil) (.str []) (.int .i64 0) (.sl [] 0 .nil) int0
  simp only [int0, cellsT, encC, encL, List.map_nil, cellsK, List.length_nil, gr] at st6
  simp only [seqL, pl2, pl1, plC, seqR, Try.f55, Option.getD_some, simB, keep5, Nat.reduceBEq, own5, String.reduceAppend, String.reduceBEq, Bool.or_false, Bool.or_true, Bool.or_self, ↓reduceIte, Nat.reduceEqDiff, Nat.reduceAdd, simA, simL, simN, Nat.zero_add, e0, e1, e2, zeroT, j6, j7, bd, stt, st6, y_eql8, b1, b2, b3, b4, b5, faT_0, Nat.reduceAdd, st_iY, stY_60]
  exact pl3_eq n d (by omega) (by omega) bs g s hs fr (.inl hf) nilT' ⟨rfl, by decide, by intro y hy; cases hy⟩ as1 _ ho _ (fun _ _ => rfl) _ _ (by simp only [zfk, ↓reduceIte, Nat.reduceEqDiff, e0]; try rfl) (by simp only [zfk, ↓reduceIte, Nat.reduceEqDiff, e2]; try rfl) (by simp only [zfk, ↓reduceIte, Nat.reduceEqDiff]; try rfl) (by simp only [zfk, ↓reduceIte, Nat.reduceEqDiff]; try rfl) (by simp only [zfk, ↓reduceIte, Nat.reduceEqDiff, j0]; try rfl) (by simp only [zfk, ↓reduceIte, Nat.reduceEqDiff]; try rfl) (by simp only [zfk, ↓reduceIte, Nat.reduceEqDiff]; try rfl)
end
end Go.Ab

/- A term that is made of no others, read, by its tag (CFG5; printed by genplain.py). Conditions: places in range. -/
namespace Go.Ab
open Go.Proofs
set_option maxRecDepth 100000
set_option linter.unusedSimpArgs false

theorem y_add1 (k : Nat) (h : k ≤ 1000000) : binA Try.prog .add 3 (.int .i64 1) (.int .i64 (k : Int)) = some (.int .i64 ((1 + k : Nat) : Int)) := by
  rw [i_add Try.prog 3 1 (k : Int) (by omega) (by omega)]
  congr 2
theorem eqNil_n (t : TypeId) (ht : tkOf Try.prog t = .sl 5) : binA Try.prog .neq t (.sl [] 0 .nil) (.sl [] 0 .nil) = some (.bool false) := by
  simp only [binA, ht, nilA, eqA, Option.map_some, Bool.not_true]
theorem eqNil_x (t : TypeId) (ht : tkOf Try.prog t = .sl 5) (xs : List AV) (n : Nat) (h : 0 < n) : binA Try.prog .neq t (.sl xs n .tight) (.sl [] 0 .nil) = some (.bool true) := by
  simp only [binA, ht, nilA, h, if_true, eqA, Option.map_some, Bool.not_false]
theorem st_N1Z (s : St) (p k : Nat) (z : Int) : storeA Try.prog 25 s (.ptr p k 1) (encZ z) = stN (s p) p k s (.bool (decide (z < 0))) (encL (numG z) (digs z.natAbs)) := by
  rw [encZ_G]; exact st_N1 _ _ _ _ _
theorem y_shlU (a K : Nat) (z : Int) (hz : z = (K : Int)) (hK : K ≤ 32) (h : a * 2 ^ K < 4294967296) : binA Try.prog .shl 56 (.int .u32 (a : Int)) (.int .u64 z) = some (.int .u32 ((a * 2 ^ K : Nat) : Int)) := by
  subst hz
  have hm : min ((K : Int).toNat) 32 = K := by omega
  have e : (a : Int) * 2 ^ K = ((a * 2 ^ K : Nat) : Int) := by rw [Int.natCast_mul, Int.natCast_pow]; rfl
  simp only [binA, shA, IntKind.bits]
  rw [if_neg (by omega)]
  simp only [hm, e]
  have w : IntKind.u32.wrap ((a * 2 ^ K : Nat) : Int) = ((a * 2 ^ K : Nat) : Int) := by
    generalize a * 2 ^ K = q at *
    show (q : Int) % 4294967296 = q
    omega
  rw [w]
theorem conv5_31 (s : St) (x : Nat) (h : x < 256) : convA Try.prog 5 56 s (.int .u8 (x : Int)) = some (.int .u32 (x : Int)) := by
  have w : IntKind.u32.wrap (x : Int) = (x : Int) := by
    show (x : Int) % 4294967296 = x
    omega
  simp only [convA, tkU8, tk31, w]
theorem tkI32 : tkOf Try.prog 21 = .int .i32 := by kernel_rfl
theorem conv_i32 (s : St) (x : Nat) (h : x < 4294967296) : convA Try.prog 56 21 s (.int .u32 (x : Int)) = some (.int .i32 (i32 (x : Int))) := by
  have w : IntKind.i32.wrap (x : Int) = i32 (x : Int) := by
    unfold i32
    simp [IntKind.wrap, IntKind.bits, IntKind.signed]
    (repeat' split) <;> omega
  simp only [convA, tk31, tkI32, w]
theorem conv_i32i (s : St) (z : Int) (h : -2147483648 ≤ z ∧ z ≤ 2147483647) : convA Try.prog 21 3 s (.int .i32 z) = some (.int .i64 z) := by
  simp only [convA, tkI32, tk3]
  rw [i64_wrap _ (by omega) (by omega)]
theorem bdT_ks (k : Int) (s : List UInt8) : buildA Try.prog 28 [(0, .int .i64 k), (2, .str s)] = some (.agg (cellsT (.mk k false .n [] s 0 .n []))) := bdT_2 k s
end Go.Ab

/- A plain term read: texts (CFG5; printed by genplain.py). Conditions: places in range. -/
namespace Go.Ab
open Go.Proofs
set_option maxRecDepth 100000
set_option linter.unusedSimpArgs false

section
variable (n d : Nat) (hn : 2200 ≤ n) (hd : 6011 ≤ d) (bs : List UInt8) (g : Grip) (s : RS) (hs : okR bs s) (fr : Nat) (hf : fr < s.i)
include hn hd hs hf
set_option maxHeartbeats 1000000 in
theorem plain_119 (c : Nat) (r : RS) (hmq : manyR bs s 1 1 40 = ((c : Int), r)) : evalFn Try.prog cfg5 n (d+2) 55 [.ptr (rC bs g s) 0, .tree (.int .u8 119), .tree (.int .i64 (fr : Int))] = some (.tree (encT (.mk 2 false .n [] ((takeR bs r c).1.getD []) 0 .n [])), [rC bs g (endR bs (takeR bs r c).2 (.mk 2 false .n [] ((takeR bs r c).1.getD []) 0 .n []) fr), [], []]) := by
  rw [evalFn_go _ Try.func55 (by unfold Try.f55; rfl) (by unfold Try.f55; decide) (Nat.le_of_ble_eq_true (by unfold Try.f55; rfl)) (by kernel_rfl)]
  have e0 : env0 [.ptr (rC bs g s) 0, .tree (.int .u8 119), .tree (.int .i64 (fr : Int))] 0 = .ptr 0 0 0 := rfl
  have e1 : env0 [.ptr (rC bs g s) 0, .tree (.int .u8 119), .tree (.int .i64 (fr : Int))] 1 = .int .u8 119 := rfl
  have e2 : env0 [.ptr (rC bs g s) 0, .tree (.int .u8 119), .tree (.int .i64 (fr : Int))] 2 = .int .i64 (fr : Int) := rfl
  have j0 : st0 [.ptr (rC bs g s) 0, .tree (.int .u8 119), .tree (.int .i64 (fr : Int))] 0 = ⟨0, .buf (rC bs g s)⟩ := rfl
  have j6 : (st0 [.ptr (rC bs g s) 0, .tree (.int .u8 119), .tree (.int .i64 (fr : Int))] 6).t = 0 := rfl
  have j7 : (st0 [.ptr (rC bs g s) 0, .tree (.int .u8 119), .tree (.int .i64 (fr : Int))] 7).t = 0 := rfl
  have ho : ∀ s' ys, s' 0 = ⟨0, .buf ys⟩ → outsA s' 0 [.ptr (rC bs g s) 0, .tree (.int .u8 119), .tree (.int .i64 (fr : Int))] = some (ys :: [[], []]) := fun s' ys h => outs_ptr s' (rC bs g s) ys h [.int .u8 119, .int .i64 (fr : Int)]
  generalize [Arg.ptr (rC bs g s) 0, .tree (.int .u8 119), .tree (.int .i64 (fr : Int))] = as1 at e0 e1 e2 j0 j6 j7 ho
  generalize env0 as1 = env at e0 e1 e2
  generalize st0 as1 = st at j0 j6 j7
  have hc : plC = .seq (seqL plC) (.seq (seqL pl1) (.seq (seqL pl2) pl3)) := rfl
  show den _ _ _ _ plC _ _ _ = _
  rw [hc]
  have bd := bdT_0 1
  have stt := fun s p k => st_Tt s p k int0
  simp only [int0, cellsT, encC, encL, List.map_nil, cellsK, List.length_nil, gr] at stt
  have st6 := fun t k p st => stT_6 t k p st (.int .i64 0) (.bool false) (.sl [] 0 .nil) (.str []) (.int .i64 0) (.sl [] 0 .nil) int0
  simp only [int0, cellsT, encC, encL, List.map_nil, cellsK, List.length_nil, gr] at st6
  obtain ⟨dd, rfl⟩ : ∃ dd, d = dd + 2 := ⟨d - 2, by omega⟩
  have cm := fun D (st : St) (hp : st 0 = ⟨0, .buf (rC bs g s)⟩) => callA_ptr (call := evalFn Try.prog cfg5 n (dd+3)) [.int .i64 1, .int .i64 1, .int .i64 40] rfl (many_eq n dd (by omega) bs g s 1 1 40 hs (by decide)) D hp
  have hm := manyR_range (bs := bs) (s := s) (k := 1) (a := 1) (b := 40) (by decide) (by decide)
  have hmo := manyR_mono (bs := bs) (s := s) (k := 1) (a := 1) (b := 40)
  have hok := manyR_ok (k := 1) (a := 1) (b := 40) hs
  rw [hmq] at cm hm hmo hok
  dsimp only at cm hm hmo hok
  have ct := fun D (st : St) (hp : st 0 = ⟨0, .buf (rC bs g r)⟩) => callA_ptr (call := evalFn Try.prog cfg5 n (dd+3)) [.int .i64 (c : Int)] rfl (take_eq n (dd+1) bs g r c hok (by omega)) D hp
  have hto := takeR_ok (k := c) hok
  have htm := takeR_mono (bs := bs) (s := r) (k := c)
  obtain ⟨gv, hgv⟩ := takeV_row (takeR bs r c).1
  rw [hgv] at ct
  have cv := fun st => convBS st ((takeR bs r c).1.getD []) gv
  have bk := bdT_ks 2 ((takeR bs r c).1.getD [])
  have sk := fun s p k => st_Tt s p k (.mk 2 false .n [] ((takeR bs r c).1.getD []) 0 .n [])
  simp only [seqL, pl2, pl1, plC, seqR, Try.f55, Option.getD_some, simB, keep5, Nat.reduceBEq, own5, String.reduceAppend, String.reduceBEq, Bool.or_false, Bool.or_true, Bool.or_self, ↓reduceIte, Nat.reduceEqDiff, Nat.reduceAdd, simA, simL, simN, Nat.zero_add, e0, e1, e2, j0, zeroT, j6, j7, bd, stt, st6, y_eql8, Int.reduceBEq, faT_0, faT_1, Nat.reduceAdd, st_iY, stY_60, cm, ct, cv, bk, sk, stT_6]
  exact pl3_eq n (dd+2) (by omega) (by omega) bs g (takeR bs r c).2 hto fr (.inl (by omega)) (.mk 2 false .n [] ((takeR bs r c).1.getD []) 0 .n []) ⟨rfl, by show (2 : Int) ≠ 4; decide, by intro y hy; cases hy⟩ as1 _ ho _ (fun _ _ => rfl) _ _ (by simp only [zfk, ↓reduceIte, Nat.reduceEqDiff, e0]; try rfl) (by simp only [zfk, ↓reduceIte, Nat.reduceEqDiff, e2]; try rfl) (by simp only [zfk, ↓reduceIte, Nat.reduceEqDiff]; try rfl) (by simp only [zfk, ↓reduceIte, Nat.reduceEqDiff]; try rfl) (by simp only [zfk, ↓reduceIte, Nat.reduceEqDiff]; try rfl) (by simp only [zfk, ↓reduceIte, Nat.reduceEqDiff]; try rfl) (by simp only [zfk, ↓reduceIte, Nat.reduceEqDiff]; try rfl)
set_option maxHeartbeats 1000000 in
theorem plain_109 (c : Nat) (r : RS) (hmq : manyR bs s 4 0 400 = ((c : Int), r)) : evalFn Try.prog cfg5 n (d+2) 55 [.ptr (rC bs g s) 0, .tree (.int .u8 109), .tree (.int .i64 (fr : Int))] = some (.tree (encT (.mk 6 false .n [] ((takeR bs r c).1.getD []) 0 .n [])), [rC bs g (endR bs (takeR bs r c).2 (.mk 6 false .n [] ((takeR bs r c).1.getD []) 0 .n []) fr), [], []]) := by
  rw [evalFn_go _ Try.func55 (by unfold Try.f55; rfl) (by unfold Try.f55; decide) (Nat.le_of_ble_eq_true (by unfold Try.f55; rfl)) (by kernel_rfl)]
  have e0 : env0 [.ptr (rC bs g s) 0, .tree (.int .u8 109), .tree (.int .i64 (fr : Int))] 0 = .ptr 0 0 0 := rfl
  have e1 : env0 [.ptr (rC bs g s) 0, .tree (.int .u8 109), .tree (.int .i64 (fr : Int))] 1 = .int .u8 109 := rfl
  have e2 : env0 [.ptr (rC bs g s) 0, .tree (.int .u8 109), .tree (.int .i64 (fr : Int))] 2 = .int .i64 (fr : Int) := rfl
  have j0 : st0 [.ptr (rC bs g s) 0, .tree (.int .u8 109), .tree (.int .i64 (fr : Int))] 0 = ⟨0, .buf (rC bs g s)⟩ := rfl
  have j6 : (st0 [.ptr (rC bs g s) 0, .tree (.int .u8 109), .tree (.int .i64 (fr : Int))] 6).t = 0 := rfl
  have j7 : (st0 [.ptr (rC bs g s) 0, .tree (.int .u8 109), .tree (.int .i64 (fr : Int))] 7).t = 0 := rfl
  have ho : ∀ s' ys, s' 0 = ⟨0, .buf ys⟩ → outsA s' 0 [.ptr (rC bs g s) 0, .tree (.int .u8 109), .tree (.int .i64 (fr : Int))] = some (ys :: [[], []]) := fun s' ys h => outs_ptr s' (rC bs g s) ys h [.int .u8 109, .int .i64 (fr : Int)]
  generalize [Arg.ptr (rC bs g s) 0, .tree (.int .u8 109), .tree (.int .i64 (fr : Int))] = as1 at e0 e1 e2 j0 j6 j7 ho
  generalize env0 as1 = env at e0 e1 e2
  generalize st0 as1 = st at j0 j6 j7
  have hc : plC = .seq (seqL plC) (.seq (seqL pl1) (.seq (seqL pl2) pl3)) := rfl
  show den _ _ _ _ plC _ _ _ = _
  rw [hc]
  have bd := bdT_0 1
  have stt := fun s p k => st_Tt s p k int0
  simp only [int0, cellsT, encC, encL, List.map_nil, cellsK, List.length_nil, gr] at stt
  have st6 := fun t k p st => stT_6 t k p st (.int .i64 0) (.bool false) (.sl [] 0 .nil) (.str []) (.int .i64 0) (.sl [] 0 .nil) int0
  simp only [int0, cellsT, encC, encL, List.map_nil, cellsK, List.length_nil, gr] at st6
  obtain ⟨dd, rfl⟩ : ∃ dd, d = dd + 2 := ⟨d - 2, by omega⟩
  have cm := fun D (st : St) (hp : st 0 = ⟨0, .buf (rC bs g s)⟩) => callA_ptr (call := evalFn Try.prog cfg5 n (dd+3)) [.int .i64 4, .int .i64 0, .int .i64 400] rfl (many_eq n dd (by omega) bs g s 4 0 400 hs (by decide)) D hp
  have hm := manyR_range (bs := bs) (s := s) (k := 4) (a := 0) (b := 400) (by decide) (by decide)
  have hmo := manyR_mono (bs := bs) (s := s) (k := 4) (a := 0) (b := 400)
  have hok := manyR_ok (k := 4) (a := 0) (b := 400) hs
  rw [hmq] at cm hm hmo hok
  dsimp only at cm hm hmo hok
  have ct := fun D (st : St) (hp : st 0 = ⟨0, .buf (rC bs g r)⟩) => callA_ptr (call := evalFn Try.prog cfg5 n (dd+3)) [.int .i64 (c : Int)] rfl (take_eq n (dd+1) bs g r c hok (by omega)) D hp
  have hto := takeR_ok (k := c) hok
  have htm := takeR_mono (bs := bs) (s := r) (k := c)
  obtain ⟨gv, hgv⟩ := takeV_row (takeR bs r c).1
  rw [hgv] at ct
  have cv := fun st => convBS st ((takeR bs r c).1.getD []) gv
  have bk := bdT_ks 6 ((takeR bs r c).1.getD [])
  have sk := fun s p k => st_Tt s p k (.mk 6 false .n [] ((takeR bs r c).1.getD []) 0 .n [])
  simp only [seqL, pl2, pl1, plC, seqR, Try.f55, Option.getD_some, simB, keep5, Nat.reduceBEq, own5, String.reduceAppend, String.reduceBEq, Bool.or_false, Bool.or_true, Bool.or_self, ↓reduceIte, Nat.reduceEqDiff, Nat.reduceAdd, simA, simL, simN, Nat.zero_add, e0, e1, e2, j0, zeroT, j6, j7, bd, stt, st6, y_eql8, Int.reduceBEq, faT_0, faT_1, Nat.reduceAdd, st_iY, stY_60, cm, ct, cv, bk, sk, stT_6]
  exact pl3_eq n (dd+2) (by omega) (by omega) bs g (takeR bs r c).2 hto fr (.inl (by omega)) (.mk 6 false .n [] ((takeR bs r c).1.getD []) 0 .n []) ⟨rfl, by show (6 : Int) ≠ 4; decide, by intro y hy; cases hy⟩ as1 _ ho _ (fun _ _ => rfl) _ _ (by simp only [zfk, ↓reduceIte, Nat.reduceEqDiff, e0]; try rfl) (by simp only [zfk, ↓reduceIte, Nat.reduceEqDiff, e2]; try rfl) (by simp only [zfk, ↓reduceIte, Nat.reduceEqDiff]; try rfl) (by simp only [zfk, ↓reduceIte, Nat.reduceEqDiff]; try rfl) (by simp only [zfk, ↓reduceIte, Nat.reduceEqDiff]; try rfl) (by simp only [zfk, ↓reduceIte, Nat.reduceEqDiff]; try rfl) (by simp only [zfk, ↓reduceIte, Nat.reduceEqDiff]; try rfl)
end
end Go.Ab

/- A plain term read: great numbers (CFG5; printed by genplain.py). Conditions: places in range. -/
namespace Go.Ab
open Go.Proofs
set_option maxRecDepth 100000
set_option linter.unusedSimpArgs false

section
variable (n d : Nat) (hn : 2200 ≤ n) (hd : 6011 ≤ d) (bs : List UInt8) (g : Grip) (s : RS) (hs : okR bs s) (fr : Nat) (hf : fr < s.i)
include hn hd hs hf
set_option maxHeartbeats 1000000 in
theorem plain_110 (hbig : BigOk n (d+1)) (c : Nat) (r : RS) (hmq : manyR bs s 1 1 48 = ((c : Int), r)) (nb : Bool) (ng : Gk) (nl : List Nat) (hbg : bigR ((takeR bs r (1 + c)).1.getD []) = (nb, ng, nl)) : evalFn Try.prog cfg5 n (d+2) 55 [.ptr (rC bs g s) 0, .tree (.int .u8 110), .tree (.int .i64 (fr : Int))] = some (.tree (encT (.mk 1 nb ng nl [] 0 .n [])), [rC bs g (endR bs (takeR bs r (1 + c)).2 (.mk 1 nb ng nl [] 0 .n []) fr), [], []]) := by
  rw [evalFn_go _ Try.func55 (by unfold Try.f55; rfl) (by unfold Try.f55; decide) (Nat.le_of_ble_eq_true (by unfold Try.f55; rfl)) (by kernel_rfl)]
  have e0 : env0 [.ptr (rC bs g s) 0, .tree (.int .u8 110), .tree (.int .i64 (fr : Int))] 0 = .ptr 0 0 0 := rfl
  have e1 : env0 [.ptr (rC bs g s) 0, .tree (.int .u8 110), .tree (.int .i64 (fr : Int))] 1 = .int .u8 110 := rfl
  have e2 : env0 [.ptr (rC bs g s) 0, .tree (.int .u8 110), .tree (.int .i64 (fr : Int))] 2 = .int .i64 (fr : Int) := rfl
  have j0 : st0 [.ptr (rC bs g s) 0, .tree (.int .u8 110), .tree (.int .i64 (fr : Int))] 0 = ⟨0, .buf (rC bs g s)⟩ := rfl
  have j6 : (st0 [.ptr (rC bs g s) 0, .tree (.int .u8 110), .tree (.int .i64 (fr : Int))] 6).t = 0 := rfl
  have j7 : (st0 [.ptr (rC bs g s) 0, .tree (.int .u8 110), .tree (.int .i64 (fr : Int))] 7).t = 0 := rfl
  have ho : ∀ s' ys, s' 0 = ⟨0, .buf ys⟩ → outsA s' 0 [.ptr (rC bs g s) 0, .tree (.int .u8 110), .tree (.int .i64 (fr : Int))] = some (ys :: [[], []]) := fun s' ys h => outs_ptr s' (rC bs g s) ys h [.int .u8 110, .int .i64 (fr : Int)]
  generalize [Arg.ptr (rC bs g s) 0, .tree (.int .u8 110), .tree (.int .i64 (fr : Int))] = as1 at e0 e1 e2 j0 j6 j7 ho
  generalize env0 as1 = env at e0 e1 e2
  generalize st0 as1 = st at j0 j6 j7
  have hc : plC = .seq (seqL plC) (.seq (seqL pl1) (.seq (seqL pl2) pl3)) := rfl
  show den _ _ _ _ plC _ _ _ = _
  rw [hc]
  have bd := bdT_0 1
  have stt := fun s p k => st_Tt s p k int0
  simp only [int0, cellsT, encC, encL, List.map_nil, cellsK, List.length_nil, gr] at stt
  have st6 := fun t k p st => stT_6 t k p st (.int .i64 0) (.bool false) (.sl [] 0 .nil) (.str []) (.int .i64 0) (.sl [] 0 .nil) int0
  simp only [int0, cellsT, encC, encL, List.map_nil, cellsK, List.length_nil, gr] at st6
  obtain ⟨dd, rfl⟩ : ∃ dd, d = dd + 2 := ⟨d - 2, by omega⟩
  have cm := fun D (st : St) (hp : st 0 = ⟨0, .buf (rC bs g s)⟩) => callA_ptr (call := evalFn Try.prog cfg5 n (dd+3)) [.int .i64 1, .int .i64 1, .int .i64 48] rfl (many_eq n dd (by omega) bs g s 1 1 48 hs (by decide)) D hp
  have hm := manyR_range (bs := bs) (s := s) (k := 1) (a := 1) (b := 48) (by decide) (by decide)
  have hmo := manyR_mono (bs := bs) (s := s) (k := 1) (a := 1) (b := 48)
  have hok := manyR_ok (k := 1) (a := 1) (b := 48) hs
  rw [hmq] at cm hm hmo hok
  dsimp only at cm hm hmo hok
  have ct := fun D (st : St) (hp : st 0 = ⟨0, .buf (rC bs g r)⟩) => callA_ptr (call := evalFn Try.prog cfg5 n (dd+3)) [.int .i64 ((1 + c : Nat) : Int)] rfl (take_eq n (dd+1) bs g r (1 + c) hok (by omega)) D hp
  have hto := takeR_ok (k := 1 + c) hok
  have htm := takeR_mono (bs := bs) (s := r) (k := 1 + c)
  have hlen := takeR_len (bs := bs) (s := r) (k := 1 + c)
  have fa := y_add1 c (by omega)
  have hL := bigR_limbs ((takeR bs r (1 + c)).1.getD [])
  have htr : isTree (takeV (takeR bs r (1 + c)).1) = true := by cases (takeR bs r (1 + c)).1 <;> rfl
  have cb := fun D st => callA_trees (cfg := cfg5) (d := D) (s := st) (f := 83) (vs := [takeV (takeR bs r (1 + c)).1]) (by simp only [List.all_cons, htr, List.all_nil, Bool.and_self]) (hbig (takeR bs r (1 + c)).1 (by omega))
  rw [hbg] at cb hL
  dsimp only at cb hL
  simp only [encA] at cb
  simp only [seqL, pl2, pl1, plC, seqR, Try.f55, Option.getD_some, simB, keep5, Nat.reduceBEq, own5, String.reduceAppend, String.reduceBEq, Bool.or_false, Bool.or_true, Bool.or_self, ↓reduceIte, Nat.reduceEqDiff, Nat.reduceAdd, simA, simL, simN, Nat.zero_add, e0, e1, e2, j0, zeroT, j6, j7, bd, stt, st6, y_eql8, Int.reduceBEq, faT_0, faT_1, Nat.reduceAdd, st_iY, stY_60, cm, fa, ct, cb, st_N1, stN_6]
  exact pl3_eq n (dd+2) (by omega) (by omega) bs g (takeR bs r (1 + c)).2 hto fr (.inl (by omega)) (.mk 1 nb ng nl [] 0 .n []) ⟨rfl, by show (1 : Int) ≠ 4; decide, hL⟩ as1 _ ho _ (fun _ _ => rfl) _ _ (by simp only [zfk, ↓reduceIte, Nat.reduceEqDiff, e0]; try rfl) (by simp only [zfk, ↓reduceIte, Nat.reduceEqDiff, e2]; try rfl) (by simp only [zfk, ↓reduceIte, Nat.reduceEqDiff]; try rfl) (by simp only [zfk, ↓reduceIte, Nat.reduceEqDiff]; try rfl) (by simp only [zfk, ↓reduceIte, Nat.reduceEqDiff]; try rfl) (by simp only [zfk, ↓reduceIte, Nat.reduceEqDiff]; try rfl) (by simp only [zfk, ↓reduceIte, Nat.reduceEqDiff]; try rfl)
end
end Go.Ab

/- A plain term read: words (CFG5; printed by genplain.py). Conditions: places in range. -/
namespace Go.Ab
open Go.Proofs
set_option maxRecDepth 100000
set_option linter.unusedSimpArgs false

theorem four_of : ∀ (x : List UInt8), x.length = 4 → ∃ c0 c1 c2 c3, x = [c0, c1, c2, c3]
  | [], h => by cases h
  | [_], h => by cases h
  | [_, _], h => by cases h
  | [_, _, _], h => by cases h
  | [a, b, c, d], _ => ⟨a, b, c, d, rfl⟩
  | _ :: _ :: _ :: _ :: _ :: _, h => by simp only [List.length_cons] at h; omega
theorem i32_b (N : Nat) (h : N < 4294967296) : (-2147483648 ≤ i32 (N : Int) ∧ i32 (N : Int) ≤ 2147483647) ∧ -9223372036854775808 ≤ i32 (N : Int) ∧ i32 (N : Int) ≤ 9223372036854775807 := by
  unfold i32; split <;> omega
section
variable (n d : Nat) (hn : 2200 ≤ n) (hd : 6011 ≤ d) (bs : List UInt8) (g : Grip) (s : RS) (hs : okR bs s) (fr : Nat) (hf : fr < s.i)
include hn hd hs hf
set_option maxHeartbeats 1000000 in
theorem plain_98 (T : T) (hT : T = (match (takeR bs s 4).1 with | some x => smallT (i32 (beV x 0)) | none => int0)) : evalFn Try.prog cfg5 n (d+2) 55 [.ptr (rC bs g s) 0, .tree (.int .u8 98), .tree (.int .i64 (fr : Int))] = some (.tree (encT T), [rC bs g (endR bs (takeR bs s 4).2 T fr), [], []]) := by
  rw [evalFn_go _ Try.func55 (by unfold Try.f55; rfl) (by unfold Try.f55; decide) (Nat.le_of_ble_eq_true (by unfold Try.f55; rfl)) (by kernel_rfl)]
  have e0 : env0 [.ptr (rC bs g s) 0, .tree (.int .u8 98), .tree (.int .i64 (fr : Int))] 0 = .ptr 0 0 0 := rfl
  have e1 : env0 [.ptr (rC bs g s) 0, .tree (.int .u8 98), .tree (.int .i64 (fr : Int))] 1 = .int .u8 98 := rfl
  have e2 : env0 [.ptr (rC bs g s) 0, .tree (.int .u8 98), .tree (.int .i64 (fr : Int))] 2 = .int .i64 (fr : Int) := rfl
  have j0 : st0 [.ptr (rC bs g s) 0, .tree (.int .u8 98), .tree (.int .i64 (fr : Int))] 0 = ⟨0, .buf (rC bs g s)⟩ := rfl
  have j6 : (st0 [.ptr (rC bs g s) 0, .tree (.int .u8 98), .tree (.int .i64 (fr : Int))] 6).t = 0 := rfl
  have j7 : (st0 [.ptr (rC bs g s) 0, .tree (.int .u8 98), .tree (.int .i64 (fr : Int))] 7).t = 0 := rfl
  have ho : ∀ s' ys, s' 0 = ⟨0, .buf ys⟩ → outsA s' 0 [.ptr (rC bs g s) 0, .tree (.int .u8 98), .tree (.int .i64 (fr : Int))] = some (ys :: [[], []]) := fun s' ys h => outs_ptr s' (rC bs g s) ys h [.int .u8 98, .int .i64 (fr : Int)]
  generalize [Arg.ptr (rC bs g s) 0, .tree (.int .u8 98), .tree (.int .i64 (fr : Int))] = as1 at e0 e1 e2 j0 j6 j7 ho
  generalize env0 as1 = env at e0 e1 e2
  generalize st0 as1 = st at j0 j6 j7
  have hc : plC = .seq (seqL plC) (.seq (seqL pl1) (.seq (seqL pl2) pl3)) := rfl
  show den _ _ _ _ plC _ _ _ = _
  rw [hc]
  have bd := bdT_0 1
  have stt := fun s p k => st_Tt s p k int0
  simp only [int0, cellsT, encC, encL, List.map_nil, cellsK, List.length_nil, gr] at stt
  have st6 := fun t k p st => stT_6 t k p st (.int .i64 0) (.bool false) (.sl [] 0 .nil) (.str []) (.int .i64 0) (.sl [] 0 .nil) int0
  simp only [int0, cellsT, encC, encL, List.map_nil, cellsK, List.length_nil, gr] at st6
  obtain ⟨dd, rfl⟩ : ∃ dd, d = dd + 2 := ⟨d - 2, by omega⟩
  have ct := fun D (st : St) (hp : st 0 = ⟨0, .buf (rC bs g s)⟩) => callA_ptr (call := evalFn Try.prog cfg5 n (dd+3)) [.int .i64 4] rfl (take_eq n (dd+1) bs g s 4 hs (by decide)) D hp
  have hto := takeR_ok (k := 4) hs
  have htm := takeR_mono (bs := bs) (s := s) (k := 4)
  have hfr : fr < (takeR bs s 4).2.i := Nat.lt_of_lt_of_le hf htm.1
  have hd1 : 6010 ≤ dd + 2 := by omega
  have hts := fun x => takeR_some (bs := bs) (s := s) (k := 4) (x := x)
  obtain ⟨o, hoq⟩ : ∃ o, (takeR bs s 4).1 = o := ⟨_, rfl⟩
  rw [hoq] at ct hts hT
  cases o with
  | none =>
    simp only [takeV] at ct hT
    subst hT
    have n0 := eqNil_n 22 tkB
    simp only [seqL, pl2, pl1, plC, seqR, Try.f55, Option.getD_some, simB, keep5, Nat.reduceBEq, own5, String.reduceAppend, String.reduceBEq, Bool.or_false, Bool.or_true, Bool.or_self, ↓reduceIte, Nat.reduceEqDiff, Nat.reduceAdd, simA, simL, simN, Nat.zero_add, e0, e1, e2, j0, zeroT, j6, j7, bd, stt, st6, y_eql8, Int.reduceBEq, faT_0, faT_1, Nat.reduceAdd, st_iY, stY_60, ct, n0]
    exact pl3_eq n (dd+2) hn hd1 bs g (takeR bs s 4).2 hto fr (.inl hfr) int0 ⟨rfl, by decide, by intro y hy; cases hy⟩ as1 _ ho _ (fun _ _ => rfl) _ _ (by simp only [zfk, ↓reduceIte, Nat.reduceEqDiff, e0]; try rfl) (by simp only [zfk, ↓reduceIte, Nat.reduceEqDiff, e2]; try rfl) (by simp only [zfk, ↓reduceIte, Nat.reduceEqDiff]; try rfl) (by simp only [zfk, ↓reduceIte, Nat.reduceEqDiff]; try rfl) (by simp only [zfk, ↓reduceIte, Nat.reduceEqDiff]; try rfl) (by simp only [zfk, ↓reduceIte, Nat.reduceEqDiff]; try rfl) (by simp only [zfk, ↓reduceIte, Nat.reduceEqDiff]; try rfl)
  | some x =>
    obtain ⟨h4, hr, _⟩ := hts x rfl
    simp only [takeV] at ct hT
    obtain ⟨c0, c1, c2, c3, rfl⟩ := four_of x h4
    have n0 := eqNil_x 22 tkB (cellsOfBytes [c0, c1, c2, c3]) [c0, c1, c2, c3].length (by simp)
    have i0 : ∀ st, indexAddrA Try.prog 22 st (.sl (cellsOfBytes [c0, c1, c2, c3]) [c0, c1, c2, c3].length .tight) (.int .i64 0) = some (.rptr (cellsOfBytes [c0, c1, c2, c3])) := fun st => iaB st [c0, c1, c2, c3] .tight 0 (by simp)
    have i1 : ∀ st, indexAddrA Try.prog 22 st (.sl (cellsOfBytes [c0, c1, c2, c3]) [c0, c1, c2, c3].length .tight) (.int .i64 1) = some (.rptr (cellsOfBytes [c1, c2, c3])) := fun st => iaB st [c0, c1, c2, c3] .tight 1 (by simp)
    have i2 : ∀ st, indexAddrA Try.prog 22 st (.sl (cellsOfBytes [c0, c1, c2, c3]) [c0, c1, c2, c3].length .tight) (.int .i64 2) = some (.rptr (cellsOfBytes [c2, c3])) := fun st => iaB st [c0, c1, c2, c3] .tight 2 (by simp)
    have i3 : ∀ st, indexAddrA Try.prog 22 st (.sl (cellsOfBytes [c0, c1, c2, c3]) [c0, c1, c2, c3].length .tight) (.int .i64 3) = some (.rptr (cellsOfBytes [c3])) := fun st => iaB st [c0, c1, c2, c3] .tight 3 (by simp)
    have l0 := fun st => ldB st c0 [c1, c2, c3]
    have l1 := fun st => ldB st c1 [c2, c3]
    have l2 := fun st => ldB st c2 [c3]
    have l3 := fun st => ldB st c3 []
    have h0 : c0.toNat < 256 := c0.toNat_lt
    have h1 : c1.toNat < 256 := c1.toNat_lt
    have h2 : c2.toNat < 256 := c2.toNat_lt
    have h3 : c3.toNat < 256 := c3.toNat_lt
    have v0 := fun s => conv5_31 s c0.toNat h0
    have v1 := fun s => conv5_31 s c1.toNat h1
    have v2 := fun s => conv5_31 s c2.toNat h2
    have v3 := fun s => conv5_31 s c3.toNat h3
    have w0 := y_shlU c0.toNat 24 24 rfl (by decide) (by omega)
    have w1 := y_shlU c1.toNat 16 16 rfl (by decide) (by omega)
    have w2 := y_shlU c2.toNat 8 8 rfl (by decide) (by omega)
    have o1 := s_or Try.prog 56 (c0.toNat * 2 ^ 24) (c1.toNat * 2 ^ 16) (by omega) (by omega)
    rw [show c0.toNat * 2 ^ 24 ||| c1.toNat * 2 ^ 16 = c0.toNat * 2 ^ 24 + c1.toNat * 2 ^ 16 by rw [Nat.or_comm, shl_or _ _ _ (by omega), Nat.add_comm]] at o1
    have o2 := s_or Try.prog 56 (c0.toNat * 2 ^ 24 + c1.toNat * 2 ^ 16) (c2.toNat * 2 ^ 8) (by omega) (by omega)
    rw [show (c0.toNat * 2 ^ 24 + c1.toNat * 2 ^ 16) ||| c2.toNat * 2 ^ 8 = c0.toNat * 2 ^ 24 + c1.toNat * 2 ^ 16 + c2.toNat * 2 ^ 8 by
      rw [show c0.toNat * 2 ^ 24 + c1.toNat * 2 ^ 16 = (c0.toNat * 2 ^ 8 + c1.toNat) * 2 ^ 16 by omega, Nat.or_comm, shl_or _ _ _ (by omega), Nat.add_comm]] at o2
    have o3 := s_or Try.prog 56 (c0.toNat * 2 ^ 24 + c1.toNat * 2 ^ 16 + c2.toNat * 2 ^ 8) c3.toNat (by omega) (by omega)
    rw [show (c0.toNat * 2 ^ 24 + c1.toNat * 2 ^ 16 + c2.toNat * 2 ^ 8) ||| c3.toNat = beN [c0, c1, c2, c3] 0 by
      rw [show c0.toNat * 2 ^ 24 + c1.toNat * 2 ^ 16 + c2.toNat * 2 ^ 8 = (c0.toNat * 2 ^ 16 + c1.toNat * 2 ^ 8 + c2.toNat) * 2 ^ 8 by omega, Nat.or_comm, shl_or _ _ _ (by omega)]
      simp only [beN]; omega] at o3
    have hbe : beV [c0, c1, c2, c3] 0 = ((beN [c0, c1, c2, c3] 0 : Nat) : Int) := beV_N _ 0
    rw [hbe] at hT
    have hN : beN [c0, c1, c2, c3] 0 < 4294967296 := by simp only [beN]; omega
    obtain ⟨N, hNq⟩ : ∃ N, beN [c0, c1, c2, c3] 0 = N := ⟨_, rfl⟩
    rw [hNq] at o3 hN hT
    have cI := fun s => conv_i32 s N hN
    obtain ⟨hz, hz1, hz2⟩ := i32_b N hN
    obtain ⟨z, hzq⟩ : ∃ z, i32 (N : Int) = z := ⟨_, rfl⟩
    rw [hzq] at cI hz hz1 hz2 hT
    subst hT
    have cJ := fun s => conv_i32i s z hz
    have hO := of64_eq 9223372036854775808 6187 (by decide) z hz1 hz2
    have hO5 : evalFn Try.prog cfg5 n (dd+2+1) 21 [.tree (.int .i64 z)] = some (.tree (encZ z), [[]]) := ev5 rfl hO
    have cO : callQ (evalFn Try.prog cfg5 n (dd+2+1)) 21 [.int .i64 z] = some (encZ z) := callQ_trees (vs := [.int .i64 z]) rfl hO5
    simp only [seqL, pl2, pl1, plC, seqR, Try.f55, Option.getD_some, simB, keep5, Nat.reduceBEq, own5, String.reduceAppend, String.reduceBEq, Bool.or_false, Bool.or_true, Bool.or_self, ↓reduceIte, Nat.reduceEqDiff, Nat.reduceAdd, simA, simL, simN, Nat.zero_add, e0, e1, e2, j0, zeroT, j6, j7, bd, stt, st6, y_eql8, Int.reduceBEq, faT_0, faT_1, Nat.reduceAdd, st_iY, stY_60, ct, n0, i0, i1, i2, i3, l0, l1, l2, l3, v0, v1, v2, v3, w0, w1, w2, o1, o2, o3, cI, cJ, cO, st_N1Z, stN_6]
    exact pl3_eq n (dd+2) hn hd1 bs g (takeR bs s 4).2 hto fr (.inl hfr) (smallT z) ⟨rfl, by show (1 : Int) ≠ 4; decide, limbs_digs _⟩ as1 _ ho _ (fun _ _ => rfl) _ _ (by simp only [zfk, ↓reduceIte, Nat.reduceEqDiff, e0]; try rfl) (by simp only [zfk, ↓reduceIte, Nat.reduceEqDiff, e2]; try rfl) (by simp only [zfk, ↓reduceIte, Nat.reduceEqDiff]; try rfl) (by simp only [zfk, ↓reduceIte, Nat.reduceEqDiff]; try rfl) (by simp only [zfk, ↓reduceIte, Nat.reduceEqDiff]; try rfl) (by simp only [zfk, ↓reduceIte, Nat.reduceEqDiff]; try rfl) (by simp only [zfk, ↓reduceIte, Nat.reduceEqDiff]; try rfl)
end
end Go.Ab
