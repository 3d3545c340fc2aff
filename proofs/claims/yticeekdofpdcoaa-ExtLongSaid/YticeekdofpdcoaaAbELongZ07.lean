/- Several texts put together: AbeY31, AbeLawELong. Conditions: as each part says. -/
import Derived.Test.YticeekdofpdcoaaAbELongZ06
import Derived.Test.YticeekdofpdcoaaAbELongZ05
/- ExtLong gives true (CFG5). No conditions. -/
namespace Go.Ab
open Go.Proofs
set_option maxRecDepth 100000
set_option linter.unusedSimpArgs false

def lit5 (x y z w v : AV) : Option AV := (fillA (fun i => some (i * 1, 1)) (rep 5 [.int .u8 0]) [(0, x), (1, y), (2, z), (3, w), (4, v)]).map (.sl · 5 .tight)
theorem opA_lit5 (call : FuncId → List Arg → Option Out) (q : Bool) (d : Option Tmp) (ty : TypeId) (pos : String) (af : Array Edge) (g : Option (Nat × Bool)) (t : Nat) (env : Env) (s : St) (x y z w v : Operand) : opA Try.prog cfg5 call q ⟨d, .buildSlice 22 5 #[(0, x), (1, y), (2, z), (3, w), (4, v)], ty, pos, af, g⟩ t env s = (lit5 (ev env x) (ev env y) (ev env z) (ev env w) (ev env v)).map (·, s) := by
  simp only [opA, tkB, eszB, zeroB8, Option.bind_some, List.map_cons, List.map_nil]
  rfl
theorem lit5_b (a b c d e : Int) : lit5 (.int .u8 a) (.int .u8 b) (.int .u8 c) (.int .u8 d) (.int .u8 e) = some (.sl [.int .u8 a, .int .u8 b, .int .u8 c, .int .u8 d, .int .u8 e] 5 .tight) := rfl
theorem preD_len : ∀ d, (preD d).length = 2 * d
  | 0 => rfl
  | d + 1 => by
    show (preD d ++ [104, 1]).length = _
    rw [List.length_append, preD_len d]
    simp only [List.length_cons, List.length_nil]
    omega
theorem y_eqb (x y : Bool) : binA Try.prog .eql 4 (.bool x) (.bool y) = some (.bool (x == y)) := bool_eql 4 (by kernel_rfl) x y
def hdB (k : Nat) : List UInt8 := [108, 0, 0, UInt8.ofNat (k / 256), UInt8.ofNat k]
theorem u8_nat (m : Nat) : u8 (m : Int) = UInt8.ofNat m := by
  apply UInt8.toNat_inj.1
  simp only [u8, UInt8.toNat_ofNat']
  omega
theorem callA_tok1 {call : FuncId → List Arg → Option Out} {f : FuncId} {st : St} {xs : List AV} {len p t : Nat} {r : AV} (z : Int) (hl : cfg5.lin f 0 = false) (hc : call f [.tree (.sl xs len .loose), .tree (.int .i64 z)] = some (.tree r, [[], []])) (D : Nat) :
    callA cfg5 call D st f [.sl xs len (.tok p t), .int .i64 z] = some (r, st) := by
  have ha : argsA cfg5 f st 0 [.sl xs len (.tok p t), .int .i64 z] = some [.tree (.sl xs len .loose), .tree (.int .i64 z)] := by
    simp only [argsA, argA, hl]
    rfl
  have h1 : givesL [.sl xs len (.tok p t), .int .i64 z] [.tree (.sl xs len .loose), .tree (.int .i64 z)] = [] := rfl
  have h2 : lendsL [.sl xs len (.tok p t), .int .i64 z] [.tree (.sl xs len .loose), .tree (.int .i64 z)] = [] := rfl
  have h3 : backA st [.sl xs len (.tok p t), .int .i64 z] [.tree (.sl xs len .loose), .tree (.int .i64 z)] [[], []] = some st := rfl
  simp only [callA, ha, Option.bind_some, h1, h2, List.nodup_nil, List.not_mem_nil, false_implies, implies_true, and_self, if_true, hc, List.foldl_nil, ite_self, h3, resA]
set_option maxHeartbeats 8000000 in
theorem extLong_eq (n D : Nat) (hn : 2200 ≤ n) (hD : 20000 ≤ D) (a0 a1 : Int) :
    evalFn Try.prog cfg5 n (D+2) 6 [.tree (.int .i64 a0), .tree (.int .i64 a1)] = some (.tree (.bool true), [[], []]) := by
  rw [evalFn_go _ Try.func6 (by unfold Try.f6; rfl) (by unfold Try.f6; decide) (Nat.le_of_ble_eq_true (by unfold Try.f6; rfl)) (by kernel_rfl)]
  have e0 : env0 [.tree (.int .i64 a0), .tree (.int .i64 a1)] 0 = .int .i64 a0 := rfl
  have e1 : env0 [.tree (.int .i64 a0), .tree (.int .i64 a1)] 1 = .int .i64 a1 := rfl
  have ho : ∀ s, outsA s 0 [.tree (.int .i64 a0), .tree (.int .i64 a1)] = some [[], []] := fun s => rfl
  generalize [Arg.tree (.int .i64 a0), .tree (.int .i64 a1)] = as1 at e0 e1 ho
  generalize env0 as1 = env at e0 e1
  generalize st0 as1 = st
  have p0 := fun D' st => callA_trees (cfg := cfg5) (d := D') (s := st) (f := 18) (vs := [.int .i64 a0, .int .i64 1100]) rfl (ev5 (n := n) (d := D) rfl (place_eq 9223372036854775808 6189 a0 1100 (by decide) (by decide)))
  have p1 := fun D' st => callA_trees (cfg := cfg5) (d := D') (s := st) (f := 18) (vs := [.int .i64 a1, .int .i64 70]) rfl (ev5 (n := n) (d := D) rfl (place_eq 9223372036854775808 6189 a1 70 (by decide) (by decide)))
  have r0 := place_range a0 1100 (by decide)
  have r1 := place_range a1 70 (by decide)
  obtain ⟨k, hk⟩ : ∃ k : Nat, placeN a0 1100 = k := ⟨(placeN a0 1100).toNat, by omega⟩
  obtain ⟨d, hd⟩ : ∃ d : Nat, placeN a1 70 = d := ⟨(placeN a1 70).toNat, by omega⟩
  rw [hk] at p0 r0
  rw [hd] at p1 r1
  have wa := fun D' st => callA_trees (cfg := cfg5) (d := D') (s := st) (f := 9) (vs := []) rfl (evalFn_mono hn 20 (D+1) (by omega) _ _ _ awake5_eq)
  have hsh : binA Try.prog .shr 3 (.int .i64 (k : Int)) (.int .u64 8) = some (.int .i64 ((k / 256 : Nat) : Int)) := by
    have := i_shrY Try.prog 3 (k : Int) .u64 8 (by decide)
    rw [be_shr] at this
    exact this
  have hB0 : ∀ s, Bs s 35 (.sl [.int .u8 108, .int .u8 0, .int .u8 0, .int .u8 ((u8 ((k / 256 : Nat) : Int)).toNat : Int), .int .u8 ((u8 (k : Int)).toNat : Int)] 5 .tight) (hdB k ++ List.replicate 0 106) := fun s => by
    rw [u8_nat, u8_nat]
    exact .inl ⟨.tight, .inl rfl, rfl⟩
  have gl := get_long n D hn k (by omega) .loose (.inr (.inl rfl)) hD
  have gd := get_deep n D hn d (by omega) .loose (.inr (.inl rfl)) hD
  have rl := long_e k (by omega)
  have rd := deep_e d (by omega)
  obtain ⟨w1, hw1⟩ : ∃ w, getR (longB k) 0 = w := ⟨_, rfl⟩
  obtain ⟨w2, hw2⟩ : ∃ w, getR (deepB d) 0 = w := ⟨_, rfl⟩
  rw [hw1] at gl rl
  rw [hw2] at gd rd
  obtain ⟨u1, i1, f1⟩ := w1
  obtain ⟨u2, i2, f2⟩ := w2
  dsimp only at rl rd
  have st1 := fun s p k' => st_Tt s p k' u1
  have s61 := fun t k' p st => stT_6 t k' p st (.int .i64 0) (.bool false) (.sl [] 0 .nil) (.str []) (.int .i64 0) (.sl [] 0 .nil) u1
  have st2 := fun s p k' => st_Tt s p k' u2
  have s62 := fun t k' p st => stT_6 t k' p st (.int .i64 0) (.bool false) (.sl [] 0 .nil) (.str []) (.int .i64 0) (.sl [] 0 .nil) u2
  have hlB : (longB k).length = k + 6 := longB_len k
  have cg1 := fun (st : St) (t : Nat) D' => callA_tok1 (st := st) (p := 38) (t := t) 0 rfl gl D'
  have cg2 := fun (st : St) (t : Nat) D' => callA_tok1 (st := st) (p := 64) (t := t) 0 rfl gd D'
  simp only [outG, encT] at cg1 cg2
  simp only [simB, keep5, Nat.reduceBEq, own5, String.reduceAppend, String.reduceBEq, Bool.or_false, Bool.or_true, Bool.or_self, ↓reduceIte, Nat.reduceEqDiff, Nat.reduceAdd, simA, simL, simN, Nat.zero_add, e0, e1, p0, p1, hsh, conv3_5b, opA_lit5, lit5_b, den_loop]
  refine loop_ends (X := Nat) (fun i env s => env 5 = .int .i64 (k : Int) ∧ env 6 = .int .i64 (d : Int) ∧ env 8 = .int .i64 (i : Int) ∧ i ≤ k ∧ Bs s 35 (env 7) (hdB k ++ List.replicate i 106)) (fun i => k - i) (fun _ => (.tree (.bool true), [[], []])) ?_ n 0 _ _ (by omega) ⟨(by simp only [zfk, ↓reduceIte, Nat.reduceEqDiff]; try rfl), (by simp only [zfk, ↓reduceIte, Nat.reduceEqDiff]; try rfl), (by simp only [zfk, ↓reduceIte, Nat.reduceEqDiff]; try rfl), Nat.zero_le _, ?_⟩
  · rintro rd' i hrd ih env1 s1 ⟨e5, e6, e8, hi, hB⟩
    obtain ⟨x, e7⟩ : ∃ x, env1 7 = x := ⟨_, rfl⟩
    rw [e7] at hB
    have hll : (hdB k ++ List.replicate i (106 : UInt8)).length = i + 5 := by simp [hdB]
    by_cases hlt : i < k
    · have q1 : (i : Int) < (k : Int) := by omega
      have g8 := i_add Try.prog 3 (i : Int) 1 (by omega) (by omega)
      obtain ⟨s2, t2, c1, c2, c3⟩ := appendB hB [106] .tight rfl (by rw [hll]; simp; omega) 35
      have hr : hdB k ++ List.replicate i 106 ++ [106] = hdB k ++ List.replicate (i + 1) 106 := by rw [List.replicate_succ', List.append_assoc]
      rw [hr] at c1
      have c1 : appendA Try.prog #[22, 22] 35 s1 x (.sl [.int .u8 106] 1 .tight) = some (.sl (cellsOfBytes (hdB k ++ List.replicate (i + 1) 106)) (hdB k ++ List.replicate (i + 1) 106).length (.tok 35 t2), s2) := c1
      simp only [simB, keep5, Nat.reduceBEq, own5, String.reduceAppend, String.reduceBEq, Bool.or_false, Bool.or_true, Bool.or_self, ↓reduceIte, Nat.reduceEqDiff, Nat.reduceAdd, simA, simL, simN, Nat.zero_add, y_lss, e5, e6, e7, e8, q1, opA_lit1, lit1_b, c1, g8]
      exact ih (i + 1) _ _ (by omega) rfl ⟨(by simp only [zfk, ↓reduceIte, Nat.reduceEqDiff, e5]; try rfl), (by simp only [zfk, ↓reduceIte, Nat.reduceEqDiff, e6]; try rfl), (by simp only [zfk, ↓reduceIte, Nat.reduceEqDiff]; try rfl), by omega, .inr ⟨t2, (by simp only [zfk, ↓reduceIte, Nat.reduceEqDiff]; try rfl), c2⟩⟩
    · have hie : i = k := by omega
      subst hie
      have q1 : ¬ (i : Int) < (i : Int) := by omega
      obtain ⟨s2, t2, c1, c2, c3⟩ := appendB hB [106] .tight rfl (by rw [hll]; simp; omega) 38
      have hr : hdB i ++ List.replicate i 106 ++ [106] = longB i := by
        show _ = hdB i ++ List.replicate (i + 1) 106
        rw [List.replicate_succ', List.append_assoc]
      rw [hr] at c1
      have c1 : appendA Try.prog #[22, 22] 38 s1 x (.sl [.int .u8 106] 1 .tight) = some (.sl (cellsOfBytes (longB i)) (longB i).length (.tok 38 t2), s2) := c1
      have g9 := i_mul Try.prog 3 2 (i : Int) (by omega) (by omega)
      have g10 := i_add Try.prog 3 (2 * (i : Int)) 1 (by omega) (by omega)
      clear hr hB ih
      have hc : ∃ b : Bool, ((i : Int) == 0) = b ∧ ((b = true ∧ f1 = 4) ∨ (b = false ∧ (2 * (i : Int) + 1 > 2000) ∧ f1 = 4) ∨ (b = false ∧ ¬ (2 * (i : Int) + 1 > 2000) ∧ f1 = 0)) := by
        by_cases h0 : i = 0
        · rw [if_pos (.inl h0)] at rl
          exact ⟨true, by rw [h0]; rfl, .inl ⟨rfl, rl⟩⟩
        · by_cases h1 : 2 * i + 1 > 2000
          · rw [if_pos (.inr h1)] at rl
            exact ⟨false, beq_eq_false_iff_ne.mpr (by omega), .inr (.inl ⟨rfl, by omega, rl⟩)⟩
          · rw [if_neg (fun hh => by rcases hh with hh | hh <;> omega)] at rl
            exact ⟨false, beq_eq_false_iff_ne.mpr (by omega), .inr (.inr ⟨rfl, by omega, rl⟩)⟩
      obtain ⟨b, q2, hb⟩ := hc
      clear rl
      rcases hb with ⟨rfl, rfl⟩ | ⟨rfl, q3, rfl⟩ | ⟨rfl, q3, rfl⟩
      · simp only [simB, keep5, Nat.reduceBEq, own5, String.reduceAppend, String.reduceBEq, Bool.or_false, Bool.or_true, Bool.or_self, ↓reduceIte, Nat.reduceEqDiff, Nat.reduceAdd, simA, simL, simN, Nat.zero_add, y_lss, y_eql, e5, e6, e7, e8, q1, opA_lit1, lit1_b, c1, cg1, zdu, zeroT, st1, s61, q2, den_loop]
        refine loop_ends (X := Nat) (fun j env s => env 6 = .int .i64 (d : Int) ∧ env 11 = .int .i64 4 ∧ env 12 = .int .i64 4 ∧ env 14 = .int .i64 (j : Int) ∧ j ≤ d ∧ Bs s 60 (env 13) (preD j)) (fun j => d - j) (fun _ => (.tree (.bool true), [[], []])) ?_ n 0 _ _ (by omega) ⟨(by simp only [zfk, ↓reduceIte, Nat.reduceEqDiff, e6]; try rfl), (by simp only [zfk, ↓reduceIte, Nat.reduceEqDiff]; try rfl), (by simp only [zfk, ↓reduceIte, Nat.reduceEqDiff]; try rfl), (by simp only [zfk, ↓reduceIte, Nat.reduceEqDiff]; try rfl), Nat.zero_le _, .inl ⟨.nil, .inr rfl, (by simp only [zfk, ↓reduceIte, Nat.reduceEqDiff]; try rfl)⟩⟩
        rintro rd2 j hrd2 ih2 env2 s4 ⟨e6', e11, e12, e14, hj, hB2⟩
        obtain ⟨x2, e13⟩ : ∃ x, env2 13 = x := ⟨_, rfl⟩
        rw [e13] at hB2
        have hlp : (preD j).length = 2 * j := preD_len j
        by_cases hlt2 : j < d
        · have q4 : (j : Int) < (d : Int) := by omega
          have g14 := i_add Try.prog 3 (j : Int) 1 (by omega) (by omega)
          obtain ⟨s5, t5, d1, d2, d3⟩ := appendB hB2 [104, 1] .tight rfl (by rw [hlp]; simp; omega) 60
          have d1 : appendA Try.prog #[22, 22] 60 s4 x2 (.sl [.int .u8 104, .int .u8 1] 2 .tight) = some (.sl (cellsOfBytes (preD (j + 1))) (preD (j + 1)).length (.tok 60 t5), s5) := d1
          simp only [simB, keep5, Nat.reduceBEq, own5, String.reduceAppend, String.reduceBEq, Bool.or_false, Bool.or_true, Bool.or_self, ↓reduceIte, Nat.reduceEqDiff, Nat.reduceAdd, simA, simL, simN, Nat.zero_add, y_lss, e6', e13, e14, q4, opA_lit2, lit2_b, d1, g14]
          exact ih2 (j + 1) _ _ (by omega) rfl ⟨(by simp only [zfk, ↓reduceIte, Nat.reduceEqDiff, e6']; try rfl), (by simp only [zfk, ↓reduceIte, Nat.reduceEqDiff, e11]; try rfl), (by simp only [zfk, ↓reduceIte, Nat.reduceEqDiff, e12]; try rfl), (by simp only [zfk, ↓reduceIte, Nat.reduceEqDiff]; try rfl), by omega, .inr ⟨t5, (by simp only [zfk, ↓reduceIte, Nat.reduceEqDiff]; try rfl), d2⟩⟩
        · have hje : j = d := by omega
          subst hje
          have q4 : ¬ (j : Int) < (j : Int) := by omega
          obtain ⟨s5, t5, d1, d2, d3⟩ := appendB hB2 [106] .tight rfl (by rw [hlp]; simp; omega) 64
          rw [← deepB_pre] at d1
          have d1 : appendA Try.prog #[22, 22] 64 s4 x2 (.sl [.int .u8 106] 1 .tight) = some (.sl (cellsOfBytes (deepB j)) (deepB j).length (.tok 64 t5), s5) := d1
          have g16 := i_add Try.prog 3 (j : Int) 1 (by omega) (by omega)
          by_cases hdd : j + 1 ≤ 60
          · rw [if_pos hdd] at rd
            subst rd
            have q5 : (j : Int) + 1 ≤ 60 := by omega
            simp only [simB, keep5, Nat.reduceBEq, own5, String.reduceAppend, String.reduceBEq, Bool.or_false, Bool.or_true, Bool.or_self, ↓reduceIte, Nat.reduceEqDiff, Nat.reduceAdd, simA, simL, simN, Nat.zero_add, y_lss, y_eql, y_leq, e6', e11, e12, e13, e14, q4, q5, opA_lit1, lit1_b, d1, cg2, zdu, zeroT, st2, s62, g16, beq_self_eq_true, y_eqb, wa]
            exact finish_b _ _ _ _ _ _ _ (by simp only [zfk, ↓reduceIte, Nat.reduceEqDiff]; try rfl) (ho _)
          · rw [if_neg hdd] at rd
            subst rd
            have q5 : ¬ (j : Int) + 1 ≤ 60 := by omega
            have q6 : ((4 : Int) == 0) = false := rfl
            simp only [simB, keep5, Nat.reduceBEq, own5, String.reduceAppend, String.reduceBEq, Bool.or_false, Bool.or_true, Bool.or_self, ↓reduceIte, Nat.reduceEqDiff, Nat.reduceAdd, simA, simL, simN, Nat.zero_add, y_lss, y_eql, y_leq, e6', e11, e12, e13, e14, q4, q5, q6, opA_lit1, lit1_b, d1, cg2, zdu, zeroT, st2, s62, g16, beq_self_eq_true, y_eqb, wa]
            exact finish_b _ _ _ _ _ _ _ (by simp only [zfk, ↓reduceIte, Nat.reduceEqDiff]; try rfl) (ho _)
      · simp only [simB, keep5, Nat.reduceBEq, own5, String.reduceAppend, String.reduceBEq, Bool.or_false, Bool.or_true, Bool.or_self, ↓reduceIte, Nat.reduceEqDiff, Nat.reduceAdd, simA, simL, simN, Nat.zero_add, y_lss, y_eql, y_gtr, e5, e6, e7, e8, q1, opA_lit1, lit1_b, c1, cg1, zdu, zeroT, st1, s61, q2, q3, g9, g10, den_loop]
        refine loop_ends (X := Nat) (fun j env s => env 6 = .int .i64 (d : Int) ∧ env 11 = .int .i64 4 ∧ env 12 = .int .i64 4 ∧ env 14 = .int .i64 (j : Int) ∧ j ≤ d ∧ Bs s 60 (env 13) (preD j)) (fun j => d - j) (fun _ => (.tree (.bool true), [[], []])) ?_ n 0 _ _ (by omega) ⟨(by simp only [zfk, ↓reduceIte, Nat.reduceEqDiff, e6]; try rfl), (by simp only [zfk, ↓reduceIte, Nat.reduceEqDiff]; try rfl), (by simp only [zfk, ↓reduceIte, Nat.reduceEqDiff]; try rfl), (by simp only [zfk, ↓reduceIte, Nat.reduceEqDiff]; try rfl), Nat.zero_le _, .inl ⟨.nil, .inr rfl, (by simp only [zfk, ↓reduceIte, Nat.reduceEqDiff]; try rfl)⟩⟩
        rintro rd2 j hrd2 ih2 env2 s4 ⟨e6', e11, e12, e14, hj, hB2⟩
        obtain ⟨x2, e13⟩ : ∃ x, env2 13 = x := ⟨_, rfl⟩
        rw [e13] at hB2
        have hlp : (preD j).length = 2 * j := preD_len j
        by_cases hlt2 : j < d
        · have q4 : (j : Int) < (d : Int) := by omega
          have g14 := i_add Try.prog 3 (j : Int) 1 (by omega) (by omega)
          obtain ⟨s5, t5, d1, d2, d3⟩ := appendB hB2 [104, 1] .tight rfl (by rw [hlp]; simp; omega) 60
          have d1 : appendA Try.prog #[22, 22] 60 s4 x2 (.sl [.int .u8 104, .int .u8 1] 2 .tight) = some (.sl (cellsOfBytes (preD (j + 1))) (preD (j + 1)).length (.tok 60 t5), s5) := d1
          simp only [simB, keep5, Nat.reduceBEq, own5, String.reduceAppend, String.reduceBEq, Bool.or_false, Bool.or_true, Bool.or_self, ↓reduceIte, Nat.reduceEqDiff, Nat.reduceAdd, simA, simL, simN, Nat.zero_add, y_lss, e6', e13, e14, q4, opA_lit2, lit2_b, d1, g14]
          exact ih2 (j + 1) _ _ (by omega) rfl ⟨(by simp only [zfk, ↓reduceIte, Nat.reduceEqDiff, e6']; try rfl), (by simp only [zfk, ↓reduceIte, Nat.reduceEqDiff, e11]; try rfl), (by simp only [zfk, ↓reduceIte, Nat.reduceEqDiff, e12]; try rfl), (by simp only [zfk, ↓reduceIte, Nat.reduceEqDiff]; try rfl), by omega, .inr ⟨t5, (by simp only [zfk, ↓reduceIte, Nat.reduceEqDiff]; try rfl), d2⟩⟩
        · have hje : j = d := by omega
          subst hje
          have q4 : ¬ (j : Int) < (j : Int) := by omega
          obtain ⟨s5, t5, d1, d2, d3⟩ := appendB hB2 [106] .tight rfl (by rw [hlp]; simp; omega) 64
          rw [← deepB_pre] at d1
          have d1 : appendA Try.prog #[22, 22] 64 s4 x2 (.sl [.int .u8 106] 1 .tight) = some (.sl (cellsOfBytes (deepB j)) (deepB j).length (.tok 64 t5), s5) := d1
          have g16 := i_add Try.prog 3 (j : Int) 1 (by omega) (by omega)
          by_cases hdd : j + 1 ≤ 60
          · rw [if_pos hdd] at rd
            subst rd
            have q5 : (j : Int) + 1 ≤ 60 := by omega
            simp only [simB, keep5, Nat.reduceBEq, own5, String.reduceAppend, String.reduceBEq, Bool.or_false, Bool.or_true, Bool.or_self, ↓reduceIte, Nat.reduceEqDiff, Nat.reduceAdd, simA, simL, simN, Nat.zero_add, y_lss, y_eql, y_leq, e6', e11, e12, e13, e14, q4, q5, opA_lit1, lit1_b, d1, cg2, zdu, zeroT, st2, s62, g16, beq_self_eq_true, y_eqb, wa]
            exact finish_b _ _ _ _ _ _ _ (by simp only [zfk, ↓reduceIte, Nat.reduceEqDiff]; try rfl) (ho _)
          · rw [if_neg hdd] at rd
            subst rd
            have q5 : ¬ (j : Int) + 1 ≤ 60 := by omega
            have q6 : ((4 : Int) == 0) = false := rfl
            simp only [simB, keep5, Nat.reduceBEq, own5, String.reduceAppend, String.reduceBEq, Bool.or_false, Bool.or_true, Bool.or_self, ↓reduceIte, Nat.reduceEqDiff, Nat.reduceAdd, simA, simL, simN, Nat.zero_add, y_lss, y_eql, y_leq, e6', e11, e12, e13, e14, q4, q5, q6, opA_lit1, lit1_b, d1, cg2, zdu, zeroT, st2, s62, g16, beq_self_eq_true, y_eqb, wa]
            exact finish_b _ _ _ _ _ _ _ (by simp only [zfk, ↓reduceIte, Nat.reduceEqDiff]; try rfl) (ho _)
      · simp only [simB, keep5, Nat.reduceBEq, own5, String.reduceAppend, String.reduceBEq, Bool.or_false, Bool.or_true, Bool.or_self, ↓reduceIte, Nat.reduceEqDiff, Nat.reduceAdd, simA, simL, simN, Nat.zero_add, y_lss, y_eql, y_gtr, e5, e6, e7, e8, q1, opA_lit1, lit1_b, c1, cg1, zdu, zeroT, st1, s61, q2, q3, g9, g10, den_loop]
        refine loop_ends (X := Nat) (fun j env s => env 6 = .int .i64 (d : Int) ∧ env 11 = .int .i64 0 ∧ env 12 = .int .i64 0 ∧ env 14 = .int .i64 (j : Int) ∧ j ≤ d ∧ Bs s 60 (env 13) (preD j)) (fun j => d - j) (fun _ => (.tree (.bool true), [[], []])) ?_ n 0 _ _ (by omega) ⟨(by simp only [zfk, ↓reduceIte, Nat.reduceEqDiff, e6]; try rfl), (by simp only [zfk, ↓reduceIte, Nat.reduceEqDiff]; try rfl), (by simp only [zfk, ↓reduceIte, Nat.reduceEqDiff]; try rfl), (by simp only [zfk, ↓reduceIte, Nat.reduceEqDiff]; try rfl), Nat.zero_le _, .inl ⟨.nil, .inr rfl, (by simp only [zfk, ↓reduceIte, Nat.reduceEqDiff]; try rfl)⟩⟩
        rintro rd2 j hrd2 ih2 env2 s4 ⟨e6', e11, e12, e14, hj, hB2⟩
        obtain ⟨x2, e13⟩ : ∃ x, env2 13 = x := ⟨_, rfl⟩
        rw [e13] at hB2
        have hlp : (preD j).length = 2 * j := preD_len j
        by_cases hlt2 : j < d
        · have q4 : (j : Int) < (d : Int) := by omega
          have g14 := i_add Try.prog 3 (j : Int) 1 (by omega) (by omega)
          obtain ⟨s5, t5, d1, d2, d3⟩ := appendB hB2 [104, 1] .tight rfl (by rw [hlp]; simp; omega) 60
          have d1 : appendA Try.prog #[22, 22] 60 s4 x2 (.sl [.int .u8 104, .int .u8 1] 2 .tight) = some (.sl (cellsOfBytes (preD (j + 1))) (preD (j + 1)).length (.tok 60 t5), s5) := d1
          simp only [simB, keep5, Nat.reduceBEq, own5, String.reduceAppend, String.reduceBEq, Bool.or_false, Bool.or_true, Bool.or_self, ↓reduceIte, Nat.reduceEqDiff, Nat.reduceAdd, simA, simL, simN, Nat.zero_add, y_lss, e6', e13, e14, q4, opA_lit2, lit2_b, d1, g14]
          exact ih2 (j + 1) _ _ (by omega) rfl ⟨(by simp only [zfk, ↓reduceIte, Nat.reduceEqDiff, e6']; try rfl), (by simp only [zfk, ↓reduceIte, Nat.reduceEqDiff, e11]; try rfl), (by simp only [zfk, ↓reduceIte, Nat.reduceEqDiff, e12]; try rfl), (by simp only [zfk, ↓reduceIte, Nat.reduceEqDiff]; try rfl), by omega, .inr ⟨t5, (by simp only [zfk, ↓reduceIte, Nat.reduceEqDiff]; try rfl), d2⟩⟩
        · have hje : j = d := by omega
          subst hje
          have q4 : ¬ (j : Int) < (j : Int) := by omega
          obtain ⟨s5, t5, d1, d2, d3⟩ := appendB hB2 [106] .tight rfl (by rw [hlp]; simp; omega) 64
          rw [← deepB_pre] at d1
          have d1 : appendA Try.prog #[22, 22] 64 s4 x2 (.sl [.int .u8 106] 1 .tight) = some (.sl (cellsOfBytes (deepB j)) (deepB j).length (.tok 64 t5), s5) := d1
          have g16 := i_add Try.prog 3 (j : Int) 1 (by omega) (by omega)
          by_cases hdd : j + 1 ≤ 60
          · rw [if_pos hdd] at rd
            subst rd
            have q5 : (j : Int) + 1 ≤ 60 := by omega
            simp only [simB, keep5, Nat.reduceBEq, own5, String.reduceAppend, String.reduceBEq, Bool.or_false, Bool.or_true, Bool.or_self, ↓reduceIte, Nat.reduceEqDiff, Nat.reduceAdd, simA, simL, simN, Nat.zero_add, y_lss, y_eql, y_leq, e6', e11, e12, e13, e14, q4, q5, opA_lit1, lit1_b, d1, cg2, zdu, zeroT, st2, s62, g16, beq_self_eq_true, y_eqb, wa]
            exact finish_b _ _ _ _ _ _ _ (by simp only [zfk, ↓reduceIte, Nat.reduceEqDiff]; try rfl) (ho _)
          · rw [if_neg hdd] at rd
            subst rd
            have q5 : ¬ (j : Int) + 1 ≤ 60 := by omega
            have q6 : ((4 : Int) == 0) = false := rfl
            simp only [simB, keep5, Nat.reduceBEq, own5, String.reduceAppend, String.reduceBEq, Bool.or_false, Bool.or_true, Bool.or_self, ↓reduceIte, Nat.reduceEqDiff, Nat.reduceAdd, simA, simL, simN, Nat.zero_add, y_lss, y_eql, y_leq, e6', e11, e12, e13, e14, q4, q5, q6, opA_lit1, lit1_b, d1, cg2, zdu, zeroT, st2, s62, g16, beq_self_eq_true, y_eqb, wa]
            exact finish_b _ _ _ _ _ _ _ (by simp only [zfk, ↓reduceIte, Nat.reduceEqDiff]; try rfl) (ho _)
  · exact hB0 _
end Go.Ab

/- The walk of ExtLong (CFG5): it gives true, and leaves memory below as it was. No conditions. -/
namespace Go.Ab
open Go.Proofs Go.RowKit
theorem prim5_ok : FnOk Try.prog prim5 := fun f xs r os h => by
  unfold prim5 at h
  split at h
  · cases h
  · exact evalFn_ok mixed prim0_ok 9223372036854775808 6190 f xs r os h
theorem walkELong (a0 a1 : Int) (w : World) (_h0 : (Lit.int .i64 a0).wf = true) (_h1 : (Lit.int .i64 a1).wf = true) :
    Calls Try.prog 6 #[.int .i64 a0, .int .i64 a1] w fun e w' => e = .returned (.bool true) ∧ Below w.heap.size w w' := by
  refine lawCallsP (cfg := cfg5) mixed prim5_ok (vs := [.int .i64 a0, .int .i64 a1]) (extLong_eq 2200 20000 (Nat.le_refl _) (Nat.le_refl _) a0 a1) rfl (st0_2 _ _) (fun j v hj => ?_) true rfl
  match j, hj with
  | 0, hj => cases hj; exact ⟨by simp only [env0, List.getElem?_cons_zero, V0], rfl⟩
  | 1, hj => cases hj; exact ⟨by simp only [env0, List.getElem?_cons_succ, List.getElem?_cons_zero, V0], rfl⟩
end Go.Ab
