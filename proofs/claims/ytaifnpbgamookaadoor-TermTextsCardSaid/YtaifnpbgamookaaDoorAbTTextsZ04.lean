/- Several texts put together: AbtL5, AbtL6, AbM4, AbtL7, AbM5, AbtL8, AbM6, AbtL9, AbM7, AbtL10, AbM8, AbtLg, AbMn1, AbtA1, AbFe. Conditions: as each part says. -/
import Derived.Test.YtaifnpbgamookaaDoorAbTTextsZ03
import Derived.LoopNIn
import Derived.TacticsIn
import Derived.OwnWalkIn
import Derived.RangeFuncFrom
import Derived.RangeFuncLeaves
/- What the program's Add, Sub compute. Conditions: limbs in range, not too many. -/
namespace Go.Ab
open Go.Proofs
set_option maxRecDepth 100000
set_option linter.unusedSimpArgs false

def one22 (v : AV) : Option AV := (fillA (fun i => some (i * 1, 1)) (rep 1 [AV.int .u32 0]) [(0, v)]).map (AV.sl · 1 .tight)
theorem one22_int (z : Int) : one22 (.int .u32 z) = some (.sl [.int .u32 z] 1 .tight) := rfl
theorem opA_one (call : FuncId → List Arg → Option Out) (q : Bool) (d : Option Tmp) (ty : TypeId) (pos : String) (af : Array Edge) (g : Option (Nat × Bool)) (t : Nat) (env : Env) (s : St) (x : Operand) :
    opA Tryd.prog cfg0 call q ⟨d, .buildSlice 23 1 #[(0, x)], ty, pos, af, g⟩ t env s = (one22 (ev env x)).map (·, s) := by
  rw [opA_bs]
  simp only [tk22, esz31, zero31, Option.bind_some, List.map_cons, List.map_nil]
  rfl
def Hold (s : St) (v : AV) (o : List Nat) : Prop := (o = [] ∧ v = .sl [] 0 .nil) ∨ (∃ p t, v = .sl (encC o) o.length (.tok p t) ∧ s p = ⟨t, .tok 1⟩) ∨ ∃ p t, v = .own p t 0 o.length 1 ∧ s p = ⟨t, .buf (encC o)⟩
theorem hold_nil (s : St) : Hold s (.sl [] 0 .nil) [] := .inl ⟨rfl, rfl⟩
theorem append22t (d : Nat) (s : St) (v : AV) (o m : List Nat) (b : Gk) (h : Hold s v o) (hl : o.length + m.length ≤ 10000000) :
    ∃ s' p t, appendA Tryd.prog #[23, 23] d s v (encL b m) = some (.sl (encC (o ++ m)) (o ++ m).length (.tok p t), s') ∧ s' p = ⟨t, .tok 1⟩ := by
  have e1 : (#[23, 23] : Array TypeId)[0]? = some 23 := rfl
  have e2 : (#[23, 23] : Array TypeId)[1]? = some 23 := rfl
  have hc : (o.length + m.length) * 4 ≤ 140737488355328 ∧ o.length + m.length ≤ 9223372036854775807 ∧ (zeroOf Tryd.prog 50).map List.length = some 1 := ⟨by omega, by omega, by rw [zero31]; rfl⟩
  rcases h with ⟨rfl, rfl⟩ | ⟨p, t, rfl, hp⟩ | ⟨p, t, rfl, hp⟩
  · refine ⟨upd s d ⟨(s d).t + 1, .tok 1⟩, d, (s d).t + 1, ?_, by simp [upd]⟩
    simp only [appendA, e1, e2, Option.map_some, tk22, esz31, Option.bind_some, moreA, encL, encC_len, Nat.mul_one, if_true, baseA, by31, List.length_nil, Nat.zero_mul, List.nil_append, Nat.zero_add]
    rw [if_pos (by simpa using hc)]
  · refine ⟨upd (upd s p ⟨t, .dead⟩) d ⟨((upd s p ⟨t, .dead⟩) d).t + 1, .tok 1⟩, d, ((upd s p ⟨t, .dead⟩) d).t + 1, ?_, by simp [upd]⟩
    simp only [appendA, e1, e2, Option.map_some, tk22, esz31, Option.bind_some, moreA, encL, encC_len, Nat.mul_one, if_true, baseA, by31, hp, and_self]
    rw [if_pos hc, encC_app, List.length_append]
  · refine ⟨upd (upd s p ⟨t, .frz (encC o)⟩) d ⟨((upd s p ⟨t, .frz (encC o)⟩) d).t + 1, .tok 1⟩, d, ((upd s p ⟨t, .frz (encC o)⟩) d).t + 1, ?_, by simp [upd]⟩
    simp only [appendA, e1, e2, Option.map_some, tk22, esz31, Option.bind_some, moreA, encL, encC_len, Nat.mul_one, if_true, baseA, by31, hp, and_self, Nat.zero_add, List.drop_zero]
    rw [if_pos hc, encC_app, List.length_append]
theorem append22 (d : Nat) (s : St) (v : AV) (o m : List Nat) (b : Gk) (h : Hold s v o) (hl : o.length + m.length ≤ 10000000) :
    ∃ v' s', appendA Tryd.prog #[23, 23] d s v (encL b m) = some (v', s') ∧ Hold s' v' (o ++ m) := by
  obtain ⟨s', p, t, e, hp⟩ := append22t d s v o m b h hl
  exact ⟨_, s', e, .inr (.inl ⟨p, t, rfl, hp⟩)⟩
theorem norm_hold (n d : Nat) (s : St) (v : AV) (o : List Nat) (h : Hold s v o) (ho : Limbs o) (hn : o.length < n) (hl : o.length ≤ 1000000) (D : Nat) : ∃ s', callA cfg0 (evalFn Tryd.prog cfg0 n (d + 1)) D s 80 [v] = some (encR (val o), s') := by
  rcases h with ⟨rfl, rfl⟩ | ⟨p, t, rfl, hp⟩ | ⟨p, t, rfl, hp⟩
  · exact ⟨s, callA_L1 _ D s 80 .n [] _ (norm_eq n d .n [] ho hn hl)⟩
  · have := norm_eq n d .l o ho hn hl
    rw [show encL .l o = .sl (encC o) o.length .loose from rfl] at this
    refine ⟨s, ?_⟩
    simp [callA, argsA, argA, givesL, lendsL, givesOf, lendsOf, this, backA, resA, lin0]
  · have := norm_eq n d .l o ho hn hl
    rw [show encL .l o = .sl (encC o) o.length .loose from rfl] at this
    have hf : flatR (.tree (encR (val o))) = false := rfl
    refine ⟨frzAt s p, ?_⟩
    have ht : (encC o).take o.length = encC o := List.take_of_length_le (by rw [encC_len]; exact Nat.le_refl _)
    have hle : 0 + o.length * 1 ≤ (encC o).length := by rw [encC_len]; omega
    simp [callA, argsA, argA, cellsAt, hp, ht, encC_len, givesL, lendsL, givesOf, lendsOf, this, hf, backA, resA, lin0]
theorem norm_call (n d : Nat) (b : Gk) (o : List Nat) (ho : Limbs o) (hn : o.length < n) (hl : o.length ≤ 1000000) (D : Nat) (s : St) : callA cfg0 (evalFn Tryd.prog cfg0 n (d + 1)) D s 80 [encL b o] = some (encR (val o), s) :=
  callA_L1 _ D s 80 b o _ (norm_eq n d b o ho hn hl)
theorem settle_L (s : St) (b : Gk) (l : List Nat) : settle s (encL b l) = some (encL b l, s) := by cases b <;> rfl
theorem fin_L (k : Bool) (np : Nat) (s : St) (b : Gk) (l : List Nat) : finish1 k np s (encL b l) = some (.tree (encL b l), s) := by cases b <;> rfl
theorem finish_L (k : Bool) (xs : List Arg) (t : Nat) (env : Env) (s : St) (b : Gk) (l : List Nat) (os : List (List AV)) (hv : env t = encL b l) (ho : outsA s 0 xs = some os) :
    finishP Tryd.prog k xs #[.tmp t] env s = some (.tree (encL b l), os) := finish_tree _ _ _ _ _ _ _ _ _ hv (fin_L k _ s b l) ho
theorem finish_R (k : Bool) (xs : List Arg) (t : Nat) (env : Env) (s : St) (v : Nat) (os : List (List AV)) (hv : env t = encR v) (ho : outsA s 0 xs = some os) :
    finishP Tryd.prog k xs #[.tmp t] env s = some (.tree (encR v), os) := finish_L _ _ _ _ _ _ _ _ hv ho

theorem fnAdd_eq (n d : Nat) (b b' : Gk) (l m : List Nat) (hl : Limbs l) (hm : Limbs m) (hn : l.length + 2 < n) (hn' : m.length + 2 < n) (hll : l.length ≤ 100000) (hml : m.length ≤ 100000) :
    evalFn Tryd.prog cfg0 n (d+2) 83 [.tree (encL b l), .tree (encL b' m)] = some (.tree (encR (val l + val m)), [[], []]) := by
  rw [evalFn_go _ Tryd.func83 (by unfold Tryd.f83; rfl) (by unfold Tryd.f83; decide) (Nat.le_of_ble_eq_true (by unfold Tryd.f83; rfl)) (by kernel_rfl)]
  have e0 := i_add Tryd.prog 3 ((max l.length m.length : Nat) : Int) 1 (by omega) (by omega)
  rw [show ((max l.length m.length : Nat) : Int) + 1 = ((max l.length m.length + 1 : Nat) : Int) by omega] at e0
  simp only [simB, zbo, Nat.reduceBEq, own0, ↓reduceIte, Nat.reduceEqDiff, Nat.reduceAdd, simA, simL, st0_2, max_eq, e0, den_loop]
  generalize hN : max l.length m.length + 1 = N
  refine loop_ends (X := Nat × Nat × List Nat) (fun x env s => env 0 = encL b l ∧ env 1 = encL b' m ∧ env 13 = .int .i64 (N : Int) ∧ env 14 = .int .i64 (x.1 : Int) ∧ env 6 = .int .u64 (x.2.1 : Int) ∧ Hold s (env 5) x.2.2 ∧ x.1 ≤ N ∧ x.2.1 ≤ 1 ∧ x.2.2.length = x.1 ∧ Limbs x.2.2 ∧ val x.2.2 + B ^ x.1 * x.2.1 = val (l.take x.1) + val (m.take x.1)) (fun x => N - x.1) (fun _ => (.tree (encR (val l + val m)), [[], []])) ?_ n (0, 0, []) _ _ (by simp only; omega) ⟨rfl, rfl, rfl, rfl, rfl, hold_nil _, by simp, by simp, rfl, limbs_nil, by simp [val]⟩
  intro k ⟨i, c, o⟩ hx ih env s ⟨h0, h1, h13, h14, h6, h5, hi, hc, hol, hoL, hv⟩
  simp only at h0 h1 h13 h14 h6 h5 hi hc hol hoL hv hx
  by_cases hp : i = N
  · subst hp
    have q1 : ¬ ((i : Int) < (i : Int)) := by omega
    obtain ⟨s9, e9⟩ := norm_hold n d s (env 5) o h5 hoL (by omega) (by omega) 35
    simp only [simB, zbo, Nat.reduceBEq, own0, ↓reduceIte, Nat.reduceEqDiff, Nat.reduceAdd, simL, h0, h1, h13, h14, q1, e9]
    rw [add_end l m o i c hl hm (by omega) (by omega) hv]
    exact finish_R _ _ _ _ _ _ _ (by simp only [zfk, ↓reduceIte]) rfl
  · have q1 : (i : Int) < (N : Int) := by omega
    have c1 := at_call n d b l hl i
    have c2 := at_call n d b' m hm i
    have hx1 := getD_lt l hl i
    have hx2 := getD_lt m hm i
    have e1 := u_add Tryd.prog 111 (l.getD i 0) (m.getD i 0)
    rw [Nat.mod_eq_of_lt (by omega)] at e1
    have e2 := u_add Tryd.prog 111 c (l.getD i 0 + m.getD i 0)
    rw [Nat.mod_eq_of_lt (by omega)] at e2
    have e3 := u_shr Tryd.prog 111 (c + (l.getD i 0 + m.getD i 0)) .u64 32 (by decide) (by decide)
    rw [show (2 : Nat) ^ (32 : Int).toNat = 4294967296 from rfl] at e3
    have e4 := i_add Tryd.prog 3 (i : Int) 1 (by omega) (by omega)
    have hlim : (c + (l.getD i 0 + m.getD i 0)) % 4294967296 < B := Nat.mod_lt _ (by decide)
    obtain ⟨v', s', ea, hh⟩ := append22 30 s (env 5) o [(c + (l.getD i 0 + m.getD i 0)) % 4294967296] .t h5 (by simp only [List.length_cons, List.length_nil]; omega)
    rw [show encL .t [(c + (l.getD i 0 + m.getD i 0)) % 4294967296] = .sl [.int .u32 (((c + (l.getD i 0 + m.getD i 0)) % 4294967296 : Nat) : Int)] 1 .tight from rfl] at ea
    simp only [simB, zbo, Nat.reduceBEq, own0, ↓reduceIte, Nat.reduceEqDiff, Nat.reduceAdd, simL, h0, h1, h13, h14, h6, q1, c1, c2, e1, e2, e3, e4, opA_one, one22_int, ea]
    refine ih (i + 1, (c + (l.getD i 0 + m.getD i 0)) / 4294967296, o ++ [(c + (l.getD i 0 + m.getD i 0)) % 4294967296]) _ _ (by simp only; omega) rfl ⟨?_, ?_, ?_, ?_, ?_, ?_, ?_, ?_, ?_, ?_, ?_⟩
    · simp only [zfk, ↓reduceIte, Nat.reduceEqDiff, h0]
    · simp only [zfk, ↓reduceIte, Nat.reduceEqDiff, h1]
    · simp only [zfk, ↓reduceIte, Nat.reduceEqDiff, h13]
    · simp only [zfk, ↓reduceIte, Nat.reduceEqDiff]; rfl
    · simp only [zfk, ↓reduceIte, Nat.reduceEqDiff]
    · simp only [zfk, ↓reduceIte, Nat.reduceEqDiff]; exact hh
    · simp only; omega
    · simp only; omega
    · simp only [List.length_append, List.length_cons, List.length_nil]; omega
    · exact hoL.app (limbs_one hlim)
    · exact add_step l m o i c hol hv
end Go.Ab

/- What the program's Sub computes. Conditions: limbs in range, not too many. -/
namespace Go.Ab
open Go.Proofs
set_option maxRecDepth 100000
set_option linter.unusedSimpArgs false

theorem cmp_call (n d : Nat) (b b' : Gk) (l m : List Nat) (hl : Limbs l) (hm : Limbs m) (hn : l.length < n) (hn' : m.length < n) (hll : l.length ≤ 1000000) (hml : m.length ≤ 1000000) (D : Nat) (s : St) :
    callA cfg0 (evalFn Tryd.prog cfg0 n (d+3)) D s 64 [encL b l, encL b' m] = some (.int .i64 (cmpZ (val l) (val m)), s) :=
  callA_L2 _ _ _ _ _ _ _ _ _ (cmp_eq n d b b' l m hl hm hn hn' hll hml)
theorem encR_0 : encR 0 = .sl [] 0 .nil := by rw [encR, digs_0]; rfl
theorem cmpZ_lt (x y : Nat) : cmpZ x y < 0 ↔ x < y := by
  unfold cmpZ
  split
  · simp_all
  · split <;> simp_all

theorem borrow (x y c u : Nat) (hx : x < 4294967296) (hy : y < 4294967296) (hc : c ≤ 1) (hu : ((x + (18446744073709551616 - y)) % 18446744073709551616 + (18446744073709551616 - c)) % 18446744073709551616 = u) :
    u % 4294967296 + y + c = x + 4294967296 * (u / 9223372036854775808) := by
  have e1 : 18446744073709551616 - y + y = 18446744073709551616 := by omega
  have e2 : 18446744073709551616 - c + c = 18446744073709551616 := by omega
  generalize 18446744073709551616 - y = y' at *
  generalize 18446744073709551616 - c = c' at *
  by_cases h : y + c ≤ x
  · have : u = x - y - c := by omega
    subst this
    have h2 : (x - y - c) / 9223372036854775808 = 0 := by omega
    rw [h2]; omega
  · have : u = 18446744073709551616 + x - y - c := by omega
    subst this
    have h2 : (18446744073709551616 + x - y - c) / 9223372036854775808 = 1 := by omega
    rw [h2]; omega
theorem fnSub_eq (n d : Nat) (b b' : Gk) (l m : List Nat) (hl : Limbs l) (hm : Limbs m) (hn : l.length + 2 < n) (hn' : m.length + 2 < n) (hll : l.length ≤ 100000) (hml : m.length ≤ 100000) :
    evalFn Tryd.prog cfg0 n (d+4) 84 [.tree (encL b l), .tree (encL b' m)] = some (.tree (encR (val l - val m)), [[], []]) := by
  rw [evalFn_go _ Tryd.func84 (by unfold Tryd.f84; rfl) (by unfold Tryd.f84; decide) (Nat.le_of_ble_eq_true (by unfold Tryd.f84; rfl)) (by kernel_rfl)]
  have c0 := cmp_call n d b b' l m hl hm (by omega) (by omega) (by omega) (by omega)
  by_cases hlt : val l < val m
  · have z1 : cmpZ (val l) (val m) < 0 := (cmpZ_lt _ _).mpr hlt
    simp only [simB, zbo, Nat.reduceBEq, own0, ↓reduceIte, Nat.reduceEqDiff, Nat.reduceAdd, simA, simL, c0, z1]
    rw [Nat.sub_eq_zero_of_le (by omega), encR_0]
    exact finish_tree _ _ _ _ _ _ (.sl [] 0 .nil) _ _ (by simp only [zfk, ↓reduceIte]) rfl rfl
  have z1 : ¬ cmpZ (val l) (val m) < 0 := fun h => hlt ((cmpZ_lt _ _).mp h)
  simp only [simB, zbo, Nat.reduceBEq, own0, ↓reduceIte, Nat.reduceEqDiff, Nat.reduceAdd, simA, simL, st0_2, max_eq, c0, z1, den_loop]
  generalize hN : max l.length m.length = N
  refine loop_ends (X := Nat × Nat × List Nat) (fun x env s => env 0 = encL b l ∧ env 1 = encL b' m ∧ env 17 = .int .i64 (N : Int) ∧ env 18 = .int .i64 (x.1 : Int) ∧ env 6 = .int .u64 (x.2.1 : Int) ∧ Hold s (env 5) x.2.2 ∧ x.1 ≤ N ∧ x.2.1 ≤ 1 ∧ x.2.2.length = x.1 ∧ Limbs x.2.2 ∧ val x.2.2 + val (m.take x.1) = val (l.take x.1) + B ^ x.1 * x.2.1) (fun x => N - x.1) (fun _ => (.tree (encR (val l - val m)), [[], []])) ?_ n (0, 0, []) _ _ (by simp only; omega) ⟨rfl, rfl, rfl, rfl, rfl, hold_nil _, by simp, by simp, rfl, limbs_nil, by simp [val]⟩
  intro k ⟨i, c, o⟩ hx ih env s ⟨h0, h1, h17, h18, h6, h5, hi, hc, hol, hoL, hv⟩
  simp only at h0 h1 h17 h18 h6 h5 hi hc hol hoL hv hx
  by_cases hp : i = N
  · subst hp
    have q1 : ¬ ((i : Int) < (i : Int)) := by omega
    obtain ⟨s9, e9⟩ := norm_hold n (d + 2) s (env 5) o h5 hoL (by omega) (by omega) 39
    simp only [simB, zbo, Nat.reduceBEq, own0, ↓reduceIte, Nat.reduceEqDiff, Nat.reduceAdd, simL, h0, h1, h17, h18, q1, e9]
    rw [sub_end l m o i c (by omega) (by omega) hoL hol (by omega) hv]
    exact finish_R _ _ _ _ _ _ _ (by simp only [zfk, ↓reduceIte]) rfl
  · have q1 : (i : Int) < (N : Int) := by omega
    have c1 := at_call n (d + 2) b l hl i
    have c2 := at_call n (d + 2) b' m hm i
    have hx1 := getD_lt l hl i
    have hx2 := getD_lt m hm i
    have hst := sub_step l m o i c
    generalize l.getD i 0 = x at *
    generalize m.getD i 0 = y at *
    have e1 := u_sub Tryd.prog 111 x y (by omega)
    have e2 := u_sub Tryd.prog 111 ((x + (18446744073709551616 - y)) % 18446744073709551616) c (by omega)
    obtain ⟨u, hu⟩ : ∃ u, ((x + (18446744073709551616 - y)) % 18446744073709551616 + (18446744073709551616 - c)) % 18446744073709551616 = u := ⟨_, rfl⟩
    rw [hu] at e2
    have e3 := u_shr Tryd.prog 111 u .u64 63 (by decide) (by decide)
    rw [show (2 : Nat) ^ (63 : Int).toNat = 9223372036854775808 from rfl] at e3
    have e4 := i_add Tryd.prog 3 (i : Int) 1 (by omega) (by omega)
    have hlim : u % 4294967296 < B := Nat.mod_lt _ (by decide)
    obtain ⟨v', s', ea, hh⟩ := append22 34 s (env 5) o [u % 4294967296] .t h5 (by simp only [List.length_cons, List.length_nil]; omega)
    rw [show encL .t [u % 4294967296] = .sl [.int .u32 ((u % 4294967296 : Nat) : Int)] 1 .tight from rfl] at ea
    simp only [simB, zbo, Nat.reduceBEq, own0, ↓reduceIte, Nat.reduceEqDiff, Nat.reduceAdd, simL, h0, h1, h17, h18, h6, q1, c1, c2, e1, e2, e3, e4, opA_one, one22_int, ea]
    refine ih (i + 1, u / 9223372036854775808, o ++ [u % 4294967296]) _ _ (by simp only; omega) rfl ⟨?_, ?_, ?_, ?_, ?_, ?_, ?_, ?_, ?_, ?_, ?_⟩
    · simp only [zfk, ↓reduceIte, Nat.reduceEqDiff, h0]
    · simp only [zfk, ↓reduceIte, Nat.reduceEqDiff, h1]
    · simp only [zfk, ↓reduceIte, Nat.reduceEqDiff, h17]
    · simp only [zfk, ↓reduceIte, Nat.reduceEqDiff]; rfl
    · simp only [zfk, ↓reduceIte, Nat.reduceEqDiff]
    · simp only [zfk, ↓reduceIte, Nat.reduceEqDiff]; exact hh
    · simp only; omega
    · simp only; omega
    · simp only [List.length_append, List.length_cons, List.length_nil]; omega
    · exact hoL.app (limbs_one hlim)
    · exact hst _ _ hol hv (borrow x y c u hx1 hx2 hc hu)
end Go.Ab

/- How many bits a number has: plain arithmetic. -/
namespace Go.Ab
theorem blen_0 : blen 0 = 0 := rfl
theorem blen_of (v k : Nat) (h : 2 ^ k ≤ v) (h' : v < 2 ^ (k + 1)) : blen v = k + 1 := by
  have h0 : v ≠ 0 := by have := Nat.two_pow_pos k; omega
  rw [blen, if_neg h0, (Nat.log2_eq_iff h0).mpr ⟨h, h'⟩]
theorem blen_is (v : Nat) (h : v ≠ 0) : ∃ k, blen v = k + 1 ∧ 2 ^ k ≤ v ∧ v < 2 ^ (k + 1) := by
  have := (Nat.log2_eq_iff (k := Nat.log2 v) h).mp rfl
  exact ⟨Nat.log2 v, by rw [blen, if_neg h], this.1, this.2⟩
theorem lt_blen (v : Nat) : v < 2 ^ blen v := by
  by_cases h : v = 0
  · subst h; decide
  · obtain ⟨k, h1, _, h3⟩ := blen_is v h; rw [h1]; exact h3
theorem blen_le (v k : Nat) (h : v < 2 ^ k) : blen v ≤ k := by
  by_cases h0 : v = 0
  · subst h0; exact Nat.zero_le _
  · obtain ⟨j, h1, h2, _⟩ := blen_is v h0
    rw [h1]
    exact (Nat.pow_lt_pow_iff_right (by decide)).mp (Nat.lt_of_le_of_lt h2 h)
theorem blen_up (v r k : Nat) (h : v ≠ 0) (hr : r < 2 ^ k) : blen (r + 2 ^ k * v) = blen v + k := by
  obtain ⟨j, h1, h2, h3⟩ := blen_is v h
  rw [h1, show j + 1 + k = (k + j) + 1 by omega]
  apply blen_of
  · rw [Nat.pow_add]
    have := Nat.mul_le_mul_left (2 ^ k) h2
    omega
  · rw [show k + j + 1 = k + (j + 1) by omega, Nat.pow_add]
    have := Nat.mul_le_mul_left (2 ^ k) (show v + 1 ≤ 2 ^ (j + 1) by omega)
    rw [Nat.mul_add, Nat.mul_one] at this
    omega
theorem blen_down (v k : Nat) (h : 2 ^ k ≤ v) : blen v = blen (v / 2 ^ k) + k := by
  have h0 : v / 2 ^ k ≠ 0 := by
    have := Nat.div_pos h (Nat.two_pow_pos k); omega
  have := blen_up (v / 2 ^ k) (v % 2 ^ k) k h0 (Nat.mod_lt _ (Nat.two_pow_pos k))
  rw [Nat.mod_add_div] at this
  exact this
theorem B_pow (k : Nat) : B ^ k = 2 ^ (32 * k) := by
  rw [Nat.pow_mul]
theorem blen_val (l : List Nat) (hl : Limbs l) (y : Nat) (hz : l.getD y 0 ≠ 0) (hv : val (l.take (y + 1)) = val l) : blen (val l) = 32 * y + blen (l.getD y 0) := by
  rw [← hv, val_take_succ', B_pow, blen_up _ _ _ hz (by rw [← B_pow]; exact val_take_lt l hl y)]
  omega
end Go.Ab

/- What the program's Len computes. Conditions: limbs in range, not too many. -/
namespace Go.Ab
open Go.Proofs
set_option maxRecDepth 100000
set_option linter.unusedSimpArgs false

theorem tk5 : tkOf Tryd.prog 5 = .int .u8 := by kernel_rfl
theorem tk9 : tkOf Tryd.prog 9 = .str := by kernel_rfl
theorem s_shr (P : Program) (t : TypeId) (a : Nat) (k : IntKind) (z : Int) (h : 0 ≤ z) (h' : z ≤ 32) : binA P .shr t (.int .u32 (a : Int)) (.int k z) = some (.int .u32 ((a / 2 ^ z.toNat : Nat) : Int)) := by
  simp only [binA, shA, if_neg (Int.not_lt.mpr h), IntKind.bits]
  rw [Nat.min_eq_left (by omega)]
  congr 2
  rw [Int.fdiv_eq_ediv_of_nonneg _ (by exact Int.le_of_lt (Int.pow_pos (by decide)))]
  simp
theorem conv31_5 (s : St) (x : Nat) (h : x < 256) : convA Tryd.prog 50 5 s (.int .u32 (x : Int)) = some (.int .u8 (x : Int)) := by
  simp only [convA, tk31, tk5, IntKind.wrap, IntKind.bits, IntKind.signed]
  congr 2
  simp; omega
theorem conv5_3 (s : St) (x : Nat) (h : x < 256) : convA Tryd.prog 5 3 s (.int .u8 (x : Int)) = some (.int .i64 (x : Int)) := by
  simp only [convA, tk5, tk3]
  rw [i64_wrap _ (by omega) (by omega)]
def isTab (l : List UInt8) : Bool := decide (l.length = 256) && (List.range 256).all fun i => if i = 0 then decide ((l.getD i 0).toNat = 0) else decide ((l.getD i 0).toNat ≠ 0 ∧ 2 ^ ((l.getD i 0).toNat - 1) ≤ i ∧ i < 2 ^ ((l.getD i 0).toNat))
theorem tab9 (l : List UInt8) (h : isTab l = true) (k : IntKind) (x : Nat) (hx : x < 256) : indexA Tryd.prog 9 (.str l) (.int k (x : Int)) = some (.int .u8 ((blen x : Nat) : Int)) := by
  simp only [isTab, Bool.and_eq_true, decide_eq_true_eq, List.all_eq_true, List.mem_range] at h
  obtain ⟨hl, hb⟩ := h
  have := hb x hx
  simp only [indexA, tk9, hl, Int.toNat_natCast]
  rw [if_pos (by omega)]
  congr 3
  by_cases h0 : x = 0
  · subst h0
    simpa [blen_0] using this
  · rw [if_neg h0, decide_eq_true_eq] at this
    obtain ⟨h1, h2, h3⟩ := this
    obtain ⟨j, hj⟩ : ∃ j, (l.getD x 0).toNat = j + 1 := ⟨(l.getD x 0).toNat - 1, by omega⟩
    rw [hj] at h2 h3 ⊢
    rw [blen_of x j (by simpa using h2) h3]
theorem zex (env : Env) (b : ByteArray) : ev env (.const (.string b)) = .str b.data.toList := rfl

theorem len32_eq (n d : Nat) (x : Nat) (hx : x < 4294967296) : evalFn Tryd.prog cfg0 n (d+1) 107 [.tree (.int .u32 (x : Int))] = some (.tree (.int .i64 ((blen x : Nat) : Int)), [[]]) := by
  rw [evalFn_go _ Tryd.func107 (by unfold Tryd.f107; rfl) (by unfold Tryd.f107; decide) (Nat.le_of_ble_eq_true (by unfold Tryd.f107; rfl)) (by kernel_rfl)]
  have hb : ∀ y, y < 256 → blen y < 256 := fun y hy => by have := blen_le y 8 (by omega); omega
  by_cases h1 : x ≥ 65536
  · have p1 : (x : Int) ≥ 65536 := by omega
    have e1 := s_shr Tryd.prog 50 x .u64 16 (by decide) (by decide)
    rw [show (2 : Nat) ^ (16 : Int).toNat = 65536 from rfl] at e1
    have hb1 := blen_down x 16 (by omega)
    rw [show (2 : Nat) ^ 16 = 65536 from rfl] at hb1
    have hy : x / 65536 < 65536 := by omega
    generalize x / 65536 = y at *
    by_cases h2 : y ≥ 256
    · have p2 : (y : Int) ≥ 256 := by omega
      have e2 := s_shr Tryd.prog 50 y .u64 8 (by decide) (by decide)
      rw [show (2 : Nat) ^ (8 : Int).toNat = 256 from rfl] at e2
      have hb2 := blen_down y 8 (by omega)
      rw [show (2 : Nat) ^ 8 = 256 from rfl] at hb2
      have hz : y / 256 < 256 := by omega
      generalize y / 256 = z at *
      have e3 := i_add Tryd.prog 3 (16 : Int) 8 (by decide) (by decide)
      have hbz := hb z hz
      have e4 := i_add Tryd.prog 3 (16 + 8 : Int) (blen z : Int) (by omega) (by omega)
      simp only [simB, zbo, Nat.reduceBEq, own0, ↓reduceIte, Nat.reduceEqDiff, Nat.reduceAdd, simA, simL, p1, e1, p2, e2, e3, conv31_5, hz, zfc, zex]
      rw [tab9 _ ?tt _ z hz]
      case tt => kernel_rfl
      simp only [simB, zbo, Nat.reduceBEq, own0, ↓reduceIte, Nat.reduceEqDiff, Nat.reduceAdd, simA, simL, conv5_3 _ _ (hb z hz), e4]
      exact finish_tree _ _ _ _ _ _ (.int .i64 (blen x : Int)) _ _ (by simp only [zfk, ↓reduceIte, Nat.reduceEqDiff]; congr 1; omega) rfl rfl
    · have p2 : ¬ (y : Int) ≥ 256 := by omega
      have hz : y < 256 := by omega
      have hbz := hb y hz
      have e4 := i_add Tryd.prog 3 (16 : Int) (blen y : Int) (by omega) (by omega)
      simp only [simB, zbo, Nat.reduceBEq, own0, ↓reduceIte, Nat.reduceEqDiff, Nat.reduceAdd, simA, simL, p1, e1, p2, conv31_5, hz, zfc, zex]
      rw [tab9 _ ?tt _ y hz]
      case tt => kernel_rfl
      simp only [simB, zbo, Nat.reduceBEq, own0, ↓reduceIte, Nat.reduceEqDiff, Nat.reduceAdd, simA, simL, conv5_3 _ _ (hb y hz), e4]
      exact finish_tree _ _ _ _ _ _ (.int .i64 (blen x : Int)) _ _ (by simp only [zfk, ↓reduceIte, Nat.reduceEqDiff]; congr 1; omega) rfl rfl
  · have p1 : ¬ (x : Int) ≥ 65536 := by omega
    by_cases h2 : x ≥ 256
    · have p2 : (x : Int) ≥ 256 := by omega
      have e2 := s_shr Tryd.prog 50 x .u64 8 (by decide) (by decide)
      rw [show (2 : Nat) ^ (8 : Int).toNat = 256 from rfl] at e2
      have hb2 := blen_down x 8 (by omega)
      rw [show (2 : Nat) ^ 8 = 256 from rfl] at hb2
      have hz : x / 256 < 256 := by omega
      generalize x / 256 = z at *
      have e3 := i_add Tryd.prog 3 (0 : Int) 8 (by decide) (by decide)
      have hbz := hb z hz
      have e4 := i_add Tryd.prog 3 (0 + 8 : Int) (blen z : Int) (by omega) (by omega)
      simp only [simB, zbo, Nat.reduceBEq, own0, ↓reduceIte, Nat.reduceEqDiff, Nat.reduceAdd, simA, simL, p1, p2, e2, e3, conv31_5, hz, zfc, zex]
      rw [tab9 _ ?tt _ z hz]
      case tt => kernel_rfl
      simp only [simB, zbo, Nat.reduceBEq, own0, ↓reduceIte, Nat.reduceEqDiff, Nat.reduceAdd, simA, simL, conv5_3 _ _ (hb z hz), e4]
      exact finish_tree _ _ _ _ _ _ (.int .i64 (blen x : Int)) _ _ (by simp only [zfk, ↓reduceIte, Nat.reduceEqDiff]; congr 1; omega) rfl rfl
    · have p2 : ¬ (x : Int) ≥ 256 := by omega
      have hz : x < 256 := by omega
      have hbz := hb x hz
      have e4 := i_add Tryd.prog 3 (0 : Int) (blen x : Int) (by omega) (by omega)
      simp only [simB, zbo, Nat.reduceBEq, own0, ↓reduceIte, Nat.reduceEqDiff, Nat.reduceAdd, simA, simL, p1, p2, conv31_5, hz, zfc, zex]
      rw [tab9 _ ?tt _ x hz]
      case tt => kernel_rfl
      simp only [simB, zbo, Nat.reduceBEq, own0, ↓reduceIte, Nat.reduceEqDiff, Nat.reduceAdd, simA, simL, conv5_3 _ _ (hb x hz), e4]
      exact finish_tree _ _ _ _ _ _ (.int .i64 (blen x : Int)) _ _ (by simp only [zfk, ↓reduceIte, Nat.reduceEqDiff]; congr 1; omega) rfl rfl

theorem len32_call (n d : Nat) (x : Nat) (hx : x < 4294967296) (D : Nat) (s : St) : callA cfg0 (evalFn Tryd.prog cfg0 n (d+1)) D s 107 [.int .u32 (x : Int)] = some (.int .i64 ((blen x : Nat) : Int), s) :=
  callA_int1 _ _ _ _ _ _ _ (len32_eq n d x hx)

theorem len_eq (n d : Nat) (b : Gk) (l : List Nat) (hl : Limbs l) (hn : l.length < n) (hlen : l.length ≤ 1000000) : evalFn Tryd.prog cfg0 n (d+2) 81 [.tree (encL b l)] = some (.tree (.int .i64 ((blen (val l) : Nat) : Int)), [[]]) := by
  rw [evalFn_go _ Tryd.func81 (by unfold Tryd.f81; rfl) (by unfold Tryd.f81; decide) (Nat.le_of_ble_eq_true (by unfold Tryd.f81; rfl)) (by kernel_rfl)]
  have e0 := i_sub Tryd.prog 3 (l.length : Int) 1 (by omega) (by omega)
  simp only [simB, zbo, Nat.reduceBEq, own0, ↓reduceIte, Nat.reduceEqDiff, Nat.reduceAdd, simA, simL, st0_1, e0, den_loop]
  refine loop_ends (X := Nat) (fun k env s => env 0 = encL b l ∧ env 3 = .int .i64 ((k : Int) - 1) ∧ s = dead ∧ k ≤ l.length ∧ val (l.take k) = val l) id (fun _ => (.tree (.int .i64 ((blen (val l) : Nat) : Int)), [[]])) ?_ n l.length _ _ hn ⟨rfl, rfl, rfl, Nat.le_refl _, by simp⟩
  intro k x hx ih env s ⟨h0, h3, hs, hk, hv⟩
  subst hs
  by_cases hp : x = 0
  · subst hp
    have q1 : ¬ (((0 : Nat) : Int) - 1 ≥ 0) := by omega
    have q2 : ((0 : Nat) : Int) - 1 < 0 := by omega
    have hv0 : val l = 0 := by rw [← hv]; rfl
    simp only [simB, zbo, Nat.reduceBEq, own0, ↓reduceIte, Nat.reduceEqDiff, Nat.reduceAdd, simL, h0, h3, q1, q2]
    rw [hv0]
    exact finish_tree _ _ _ _ _ _ (.int .i64 0) _ _ (by simp only [zfk, ↓reduceIte]) rfl rfl
  · obtain ⟨y, rfl⟩ : ∃ y, x = y + 1 := ⟨x - 1, by omega⟩
    have p2 : ((y + 1 : Nat) : Int) - 1 = (y : Int) := by omega
    rw [p2] at h3
    have p6 : (y : Int) ≥ 0 := by omega
    have p7 : (0 : Int) ≤ (y : Int) := by omega
    have p3 : (y : Int) < l.length := by omega
    have p4 : y < l.length := by omega
    have e1 := i_sub Tryd.prog 3 (y : Int) 1 (by omega) (by omega)
    by_cases hz : l.getD y 0 = 0
    · have p5 : (((l.getD y 0 : Nat) : Int) == 0) = true := by rw [hz]; rfl
      simp only [simB, zbo, Nat.reduceBEq, own0, ↓reduceIte, Nat.reduceEqDiff, Nat.reduceAdd, simL, h0, h3, p6, p7, p3, e1, Int.toNat_natCast, p4, p5]
      refine ih y _ _ (Nat.lt_succ_self _) rfl ⟨?_, ?_, rfl, by omega, ?_⟩
      · simp only [zfk, ↓reduceIte, Nat.reduceEqDiff, h0]
      · simp only [zfk, ↓reduceIte, Nat.reduceEqDiff]
      · rw [← hv, val_take_succ _ _ p4, hz, Nat.mul_zero, Nat.add_zero]
    · have p5 : (((l.getD y 0 : Nat) : Int) == 0) = false := by
        rw [beq_eq_false_iff_ne]; omega
      have q2 : ¬ ((y : Int) < 0) := by omega
      have c1 := len32_call n d (l.getD y 0) (getD_lt l hl y)
      have hb := blen_le (l.getD y 0) 32 (getD_lt l hl y)
      have e2 := i_mul Tryd.prog 3 32 (y : Int) (by omega) (by omega)
      have e3 := i_add Tryd.prog 3 (32 * (y : Int)) (blen (l.getD y 0) : Int) (by omega) (by omega)
      simp only [simB, zbo, Nat.reduceBEq, own0, ↓reduceIte, Nat.reduceEqDiff, Nat.reduceAdd, simL, h0, h3, p6, p7, p3, e1, e2, e3, Int.toNat_natCast, p4, p5, q2, c1]
      rw [blen_val l hl y hz hv]
      exact finish_tree _ _ _ _ _ _ (.int .i64 ((32 * y + blen (l.getD y 0) : Nat) : Int)) _ _ (by simp only [zfk, ↓reduceIte, Nat.reduceEqDiff]; congr 1) rfl rfl
end Go.Ab

/- Shifts by limbs: plain arithmetic. -/
namespace Go.Ab
theorem shl_or (x c r : Nat) (hc : c < 2 ^ r) : c ||| (x * 2 ^ r) = c + x * 2 ^ r := by
  rw [Nat.or_comm, Nat.mul_comm, ← Nat.two_pow_add_eq_or_of_lt hc, Nat.add_comm]
theorem shl_lt (x c r : Nat) (hx : x < 4294967296) (hr : r < 32) (hc : c < 2 ^ r) : c + x * 2 ^ r < 18446744073709551616 ∧ (c + x * 2 ^ r) / 4294967296 < 2 ^ r := by
  have h1 : 2 ^ r ≤ 2 ^ 31 := Nat.pow_le_pow_right (by decide) (by omega)
  have h2 : (x + 1) * 2 ^ r ≤ 4294967296 * 2 ^ r := Nat.mul_le_mul_right _ hx
  rw [Nat.add_mul, Nat.one_mul] at h2
  have h3 : c + x * 2 ^ r < 4294967296 * 2 ^ r := by omega
  constructor
  · have : (2 : Nat) ^ 31 = 2147483648 := rfl
    omega
  · rw [Nat.div_lt_iff_lt_mul (by decide)]; omega
theorem shl_step (a o : List Nat) (w r i c : Nat) (ho : o.length = w + i) (h : val o + B ^ (w + i) * c = B ^ w * (2 ^ r * val (a.take i))) :
    val (o ++ [(c + a.getD i 0 * 2 ^ r) % 4294967296]) + B ^ (w + (i + 1)) * ((c + a.getD i 0 * 2 ^ r) / 4294967296) = B ^ w * (2 ^ r * val (a.take (i + 1))) := by
  rw [val_snoc, ho, val_take_succ']
  generalize a.getD i 0 = x
  have e : B ^ (w + i) * ((c + x * 2 ^ r) % 4294967296) + B ^ (w + (i + 1)) * ((c + x * 2 ^ r) / 4294967296) = B ^ (w + i) * c + B ^ (w + i) * (x * 2 ^ r) := by
    rw [show w + (i + 1) = (w + i) + 1 by omega, Nat.pow_succ, Nat.mul_assoc, ← Nat.mul_add, ← Nat.mul_add]
    have : (c + x * 2 ^ r) % 4294967296 + B * ((c + x * 2 ^ r) / 4294967296) = c + x * 2 ^ r := Nat.mod_add_div _ _
    rw [this]
  have e2 : B ^ w * (2 ^ r * (val (a.take i) + B ^ i * x)) = B ^ w * (2 ^ r * val (a.take i)) + B ^ (w + i) * (x * 2 ^ r) := by
    rw [Nat.mul_add, Nat.mul_add, Nat.pow_add]
    congr 1
    rw [Nat.mul_assoc]
    congr 1
    rw [Nat.mul_comm (2 ^ r), Nat.mul_assoc]
  omega
theorem shl_end (a o : List Nat) (k r w c : Nat) (hk : k = 32 * w + r) (ho : o.length = w + a.length) (hc : c < 4294967296) (h : val o + B ^ (w + a.length) * c = B ^ w * (2 ^ r * val (a.take a.length))) : val (o ++ [c % 4294967296]) = val a * 2 ^ k := by
  rw [Nat.mod_eq_of_lt hc, val_snoc, ho, h, List.take_length, hk, Nat.pow_add, ← B_pow]
  rw [Nat.mul_comm (val a), Nat.mul_assoc]

def shrL (r : Nat) : List Nat → List Nat
  | [] => []
  | x :: l => ((x + B * l.getD 0 0) / 2 ^ r % B) :: shrL r l
theorem shrL_len (r : Nat) (l : List Nat) : (shrL r l).length = l.length := by
  induction l with
  | nil => rfl
  | cons x l ih => simp [shrL, ih]
theorem shrL_get (r : Nat) (l : List Nat) (i : Nat) (h : i < l.length) : (shrL r l).getD i 0 = (l.getD i 0 + B * l.getD (i + 1) 0) / 2 ^ r % B := by
  induction l generalizing i with
  | nil => cases h
  | cons x l ih =>
    cases i with
    | zero => rfl
    | succ i =>
      have := ih i (by simpa using h)
      simpa [shrL] using this
theorem shrL_limbs (r : Nat) (l : List Nat) : Limbs (shrL r l) := by
  induction l with
  | nil => exact limbs_nil
  | cons x l ih => exact limbs_cons (Nat.mod_lt _ (by decide)) ih
theorem shr_one (x V p q : Nat) (hpq : p * q = B) (hx : x < B) (hp : 0 < p) : (x + B * V) / p = (x + B * (V % B)) / p % B + B * (V / p) := by
  have hq : 0 < q := Nat.pos_of_ne_zero (fun h => by subst h; simp at hpq)
  have e1 : ∀ W, (x + B * W) / p = x / p + q * W := by
    intro W
    rw [← hpq, Nat.mul_assoc, Nat.add_mul_div_left _ _ hp]
  rw [e1, e1]
  have hxq : x / p < q := by
    rw [Nat.div_lt_iff_lt_mul hp, Nat.mul_comm]; rw [hpq]; exact hx
  have e2 : ∀ W, q * W = B * (W / p) + q * (W % p) := by
    intro W
    rw [← hpq, Nat.mul_comm p q, Nat.mul_assoc, ← Nat.mul_add, Nat.div_add_mod]
  have hmod : V % B % p = V % p := Nat.mod_mod_of_dvd V ⟨q, hpq.symm⟩
  rw [e2 V, e2 (V % B), hmod]
  have hlt : x / p + q * (V % p) < B := by
    have : V % p + 1 ≤ p := Nat.mod_lt _ hp
    have h2 : q * (V % p + 1) ≤ q * p := Nat.mul_le_mul_left _ this
    rw [Nat.mul_add, Nat.mul_one, Nat.mul_comm q p, hpq] at h2
    omega
  have e3 : (x / p + (B * (V % B / p) + q * (V % p))) % B = x / p + q * (V % p) := by
    rw [show x / p + (B * (V % B / p) + q * (V % p)) = (x / p + q * (V % p)) + B * (V % B / p) by omega, Nat.add_mul_mod_self_left, Nat.mod_eq_of_lt hlt]
  rw [e3]; omega
theorem val_mod (l : List Nat) (h : Limbs l) : val l % B = l.getD 0 0 := by
  cases l with
  | nil => rfl
  | cons x l =>
    show (x + B * val l) % B = x
    rw [Nat.add_mul_mod_self_left, Nat.mod_eq_of_lt h.head]
theorem shrL_val (r : Nat) (hr : r < 32) (l : List Nat) (h : Limbs l) : val (shrL r l) = val l / 2 ^ r := by
  have hpq : 2 ^ r * 2 ^ (32 - r) = B := by rw [← Nat.pow_add, show r + (32 - r) = 32 by omega]
  induction l with
  | nil => simp [shrL, val]
  | cons x l ih =>
    have := shr_one x (val l) (2 ^ r) (2 ^ (32 - r)) hpq h.head (Nat.two_pow_pos r)
    rw [val_mod l h.tail] at this
    simp only [shrL, val, ih h.tail]
    exact this.symm
theorem val_drop (l : List Nat) (h : Limbs l) (w : Nat) : val (l.drop w) = val l / B ^ w := by
  have h1 : val l = val (l.take w) + B ^ (l.take w).length * val (l.drop w) := by
    rw [← val_app, List.take_append_drop]
  by_cases hw : w ≤ l.length
  · rw [show (l.take w).length = w by rw [List.length_take]; omega] at h1
    rw [h1, Nat.add_mul_div_left _ _ (Nat.pow_pos (by decide)), Nat.div_eq_of_lt (val_take_lt l h w), Nat.zero_add]
  · rw [List.drop_of_length_le (by omega)]
    have h2 := val_lt l h
    have h3 : B ^ l.length ≤ B ^ w := Nat.pow_le_pow_right (by decide) (by omega)
    rw [Nat.div_eq_of_lt (by omega)]; rfl
theorem shr_end (l : List Nat) (h : Limbs l) (k : Nat) : val (shrL (k % 32) (l.drop (k / 32))) = val l / 2 ^ k := by
  rw [shrL_val _ (Nat.mod_lt _ (by decide)) _ (h.drop _), val_drop l h, Nat.div_div_eq_div_mul, B_pow, ← Nat.pow_add, Nat.div_add_mod]
end Go.Ab

/- What the program's Shl, Shr compute. Conditions: limbs in range, not too many. -/
namespace Go.Ab
open Go.Proofs
set_option maxRecDepth 100000
set_option linter.unusedSimpArgs false

theorem i_quo (P : Program) (t : TypeId) (a b : Nat) (hb : 0 < b) (ha : a ≤ 9223372036854775807) : binA P .quo t (.int .i64 (a : Int)) (.int .i64 (b : Int)) = some (.int .i64 ((a / b : Nat) : Int)) := by
  have h1 : (a : Int).tdiv (b : Int) = ((a / b : Nat) : Int) := by rw [Int.tdiv_eq_ediv_of_nonneg (by omega)]; exact (Int.natCast_ediv a b).symm
  have h2 : a / b ≤ a := Nat.div_le_self _ _
  simp only [binA, intA, if_true]
  rw [if_neg (by omega), h1]
  generalize a / b = q at *
  rw [i64_wrap _ (by omega) (by omega)]
theorem i_rem (P : Program) (t : TypeId) (a b : Nat) (hb : 0 < b) : binA P .rem t (.int .i64 (a : Int)) (.int .i64 (b : Int)) = some (.int .i64 ((a % b : Nat) : Int)) := by
  simp only [binA, intA, if_true]
  rw [if_neg (by omega), Int.tmod_eq_emod_of_nonneg (by omega)]
  rfl
theorem make22c (d : Nat) (s : St) (z c : Int) (h : 0 ≤ z) (hc : z ≤ c) (h' : c ≤ 2147483648) : makeA Tryd.prog 23 d s (.int .i64 z) (.int .i64 c) = some (.own d ((s d).t + 1) 0 z.toNat 1, upd s d ⟨(s d).t + 1, .buf (encC (List.replicate z.toNat 0))⟩) := by
  simp only [makeA, tk22, esz31, zero31, by31, Option.bind_some, rep_zero]
  rw [if_pos ⟨h, hc, h', by decide, rfl⟩]
theorem st31 (s : St) (p t : Nat) (o : List Nat) (i x : Nat) (h : s p = ⟨t, .buf (encC o)⟩) (hi : i < o.length) : storeA Tryd.prog 50 s (.ptr p t i) (.int .u32 (x : Int)) = some (upd s p ⟨t, .buf (encC (o.set i x))⟩) := by
  simp [storeA, settle, h, cellOk, esz31, encC_len, hi, encC_set]
theorem ia_own (s : St) (p t : Nat) (o : List Nat) (len : Nat) (k : IntKind) (z : Int) (h : s p = ⟨t, .buf (encC o)⟩) (h0 : 0 ≤ z) (h1 : z < len) : indexAddrA Tryd.prog 23 s (.own p t 0 len 1) (.int k z) = some (.ptr p t z.toNat) := by
  have : live s p t = true := by simp [live, cellsAt, h]
  simp only [indexAddrA, tk22, esz31, Option.bind_some, this, h0, h1, and_self, if_true, Nat.mul_one, Nat.zero_add]
theorem ld_own (s : St) (p t : Nat) (o : List Nat) (i : Nat) (h : s p = ⟨t, .buf (encC o)⟩) (hi : i < o.length) : loadA Tryd.prog 50 s (.ptr p t i) = some (.int .u32 ((o.getD i 0 : Nat) : Int)) := by
  simp only [loadA, ldC, h, if_true, Option.bind_some, partA, sh31]
  exact encC_get o i hi
theorem upd_self {α : Type} (f : Nat → α) (i : Nat) (v : α) : upd f i v i = v := by simp [upd]
def shn (z : Int) : Nat := (if 4096 < z then 4096 else z).toNat

theorem fnShl_eq (n d : Nat) (b : Gk) (l : List Nat) (z : Int) (hl : Limbs l) (hn : l.length + 200 < n) (hll : l.length ≤ 100000) :
    evalFn Tryd.prog cfg0 n (d+2) 82 [.tree (encL b l), .tree (.int .i64 z)] = some (.tree (encR (val l * 2 ^ shn z)), [[], []]) := by
  rw [evalFn_go _ Tryd.func82 (by unfold Tryd.f82; rfl) (by unfold Tryd.f82; decide) (Nat.le_of_ble_eq_true (by unfold Tryd.f82; rfl)) (by kernel_rfl)]
  have a1 : foldA min2A (.int .i64 z) [.int .i64 4096] = some (.int .i64 (if 4096 < z then 4096 else z)) := by
    simp only [foldA, min2A, Option.bind_some]
  have a2 : foldA max2A (.int .i64 0) [.int .i64 (if 4096 < z then 4096 else z)] = some (.int .i64 ((shn z : Nat) : Int)) := by
    simp only [foldA, max2A, Option.bind_some, shn]
    congr 2
    split <;> omega
  have hk : shn z ≤ 4096 := by simp only [shn]; split <;> omega
  generalize shn z = k at *
  have e1 := i_quo Tryd.prog 3 k 32 (by decide) (by omega)
  have e2 := i_rem Tryd.prog 3 k 32 (by decide)
  rw [show ((32 : Nat) : Int) = 32 from rfl] at e1 e2
  have hkw : k = 32 * (k / 32) + k % 32 := by omega
  have hw : k / 32 ≤ 128 := by omega
  have hr : k % 32 < 32 := by omega
  generalize k / 32 = w at *
  generalize k % 32 = r at *
  have e3 := i_add Tryd.prog 3 (w : Int) (l.length : Int) (by omega) (by omega)
  have e4 := i_add Tryd.prog 3 ((w : Int) + (l.length : Int)) 1 (by omega) (by omega)
  have e5 := make22c 20 dead (w : Int) ((w : Int) + (l.length : Int) + 1) (by omega) (by omega) (by omega)
  rw [Int.toNat_natCast] at e5
  simp only [simB, zbo, Nat.reduceBEq, own0, ↓reduceIte, Nat.reduceEqDiff, Nat.reduceAdd, simA, simL, st0_2, a1, a2, e1, e3, e4, e5, den_loop]
  refine loop_ends (X := Nat × Nat × List Nat) (fun x env s => env 1 = .int .i64 (k : Int) ∧ env 21 = encL b l ∧ env 22 = .int .i64 (l.length : Int) ∧ env 23 = .int .i64 (x.1 : Int) ∧ env 6 = .int .u64 (x.2.1 : Int) ∧ Hold s (env 5) x.2.2 ∧ x.1 ≤ l.length ∧ x.2.1 < 2 ^ r ∧ x.2.2.length = w + x.1 ∧ Limbs x.2.2 ∧ val x.2.2 + B ^ (w + x.1) * x.2.1 = B ^ w * (2 ^ r * val (l.take x.1))) (fun x => l.length - x.1) (fun _ => (.tree (encR (val l * 2 ^ k)), [[], []])) ?_ n (0, 0, List.replicate w 0) _ _ (by simp only; omega) ⟨rfl, rfl, rfl, rfl, rfl, ?_, by simp, Nat.two_pow_pos r, by simp, ?_, by simp [val, val_rep]⟩
  rotate_left
  · refine .inr (.inr ⟨20, 1, ?_, ?_⟩)
    · simp only [zfk, ↓reduceIte, Nat.reduceEqDiff, List.length_replicate]; rfl
    · simp only [zfk, ↓reduceIte]; rfl
  · intro x hx; rw [List.eq_of_mem_replicate hx]; decide
  intro k' ⟨i, c, o⟩ hx ih env s ⟨h1, h21, h22, h23, h6, h5, hi, hc, hol, hoL, hv⟩
  simp only at h1 h21 h22 h23 h6 h5 hi hc hol hoL hv hx
  have h31 : 2 ^ r ≤ 2 ^ 31 := Nat.pow_le_pow_right (by decide) (by omega)
  rw [show (2 : Nat) ^ 31 = 2147483648 from rfl] at h31
  by_cases hp : i = l.length
  · subst hp
    have q1 : ¬ ((l.length : Int) < (l.length : Int)) := by omega
    obtain ⟨v', s', ea, hh⟩ := append22 46 s (env 5) o [c % 4294967296] .t h5 (by simp only [List.length_cons, List.length_nil]; omega)
    rw [show encL .t [c % 4294967296] = .sl [.int .u32 ((c % 4294967296 : Nat) : Int)] 1 .tight from rfl] at ea
    have hlim : Limbs (o ++ [c % 4294967296]) := hoL.app (limbs_one (Nat.mod_lt _ (by decide)))
    obtain ⟨s9, e9⟩ := norm_hold n d s' v' (o ++ [c % 4294967296]) hh hlim (by simp; omega) (by simp; omega) 47
    simp only [simB, zbo, Nat.reduceBEq, own0, ↓reduceIte, Nat.reduceEqDiff, Nat.reduceAdd, simL, h1, h21, h22, h23, h6, q1, opA_one, one22_int, ea, e9]
    rw [shl_end l o k r w c hkw hol (by omega) hv]
    exact finish_R _ _ _ _ _ _ _ (by simp only [zfk, ↓reduceIte]) rfl
  · have q1 : (i : Int) < (l.length : Int) := by omega
    have q2 : (0 : Int) ≤ (i : Int) := by omega
    have q3 : i < l.length := by omega
    have hx1 := getD_lt l hl i
    have hst := shl_step l o w r i c hol hv
    obtain ⟨hS, hC⟩ := shl_lt (l.getD i 0) c r hx1 hr hc
    have hor := shl_or (l.getD i 0) c r hc
    have f1 := u_shl Tryd.prog 111 (l.getD i 0) .i64 (r : Int) (by omega) (by omega)
    rw [Int.toNat_natCast, Nat.mod_eq_of_lt (by omega)] at f1
    have f2 := u_or Tryd.prog 111 c (l.getD i 0 * 2 ^ r) (by omega) (by omega)
    rw [hor] at f2
    generalize hgS : c + l.getD i 0 * 2 ^ r = S at *
    have f3 := u_shr Tryd.prog 111 S .u64 32 (by decide) (by decide)
    rw [show (2 : Nat) ^ (32 : Int).toNat = 4294967296 from rfl] at f3
    have f4 := i_add Tryd.prog 3 (i : Int) 1 (by omega) (by omega)
    obtain ⟨v', s', ea, hh⟩ := append22 38 s (env 5) o [S % 4294967296] .t h5 (by simp only [List.length_cons, List.length_nil]; omega)
    rw [show encL .t [S % 4294967296] = .sl [.int .u32 ((S % 4294967296 : Nat) : Int)] 1 .tight from rfl] at ea
    simp only [simB, zbo, Nat.reduceBEq, own0, ↓reduceIte, Nat.reduceEqDiff, Nat.reduceAdd, simL, h1, h21, h22, h23, h6, q1, q2, q3, Int.toNat_natCast, hx1, e2, f1, f2, f3, f4, opA_one, one22_int, ea]
    refine ih (i + 1, S / 4294967296, o ++ [S % 4294967296]) _ _ (by simp only; omega) rfl ⟨?_, ?_, ?_, ?_, ?_, ?_, ?_, ?_, ?_, ?_, ?_⟩
    · simp only [zfk, ↓reduceIte, Nat.reduceEqDiff, h1]
    · simp only [zfk, ↓reduceIte, Nat.reduceEqDiff, h21]
    · simp only [zfk, ↓reduceIte, Nat.reduceEqDiff, h22]
    · simp only [zfk, ↓reduceIte, Nat.reduceEqDiff]; rfl
    · simp only [zfk, ↓reduceIte, Nat.reduceEqDiff]
    · simp only [zfk, ↓reduceIte, Nat.reduceEqDiff]; exact hh
    · simp only; omega
    · exact hC
    · simp only [List.length_append, List.length_cons, List.length_nil]; omega
    · exact hoL.app (limbs_one (Nat.mod_lt _ (by decide)))
    · exact hst
end Go.Ab

/- Products limb by limb: plain arithmetic. -/
namespace Go.Ab
theorem val_set (o : List Nat) (j v : Nat) (h : j < o.length) : val (o.set j v) + B ^ j * o.getD j 0 = val o + B ^ j * v := by
  induction o generalizing j with
  | nil => cases h
  | cons x o ih =>
    cases j with
    | zero => simp [val]; omega
    | succ j =>
      have := ih j (by simpa using h)
      have e : ∀ w, B ^ (j + 1) * w = B * (B ^ j * w) := fun w => by rw [Nat.pow_succ, Nat.mul_comm (B ^ j) B, Nat.mul_assoc]
      simp only [List.set_cons_succ, val, List.getD_cons_succ, e]
      rw [Nat.add_assoc, ← Nat.mul_add, this, Nat.mul_add, ← Nat.add_assoc]
theorem limbs_set (o : List Nat) (h : Limbs o) (j v : Nat) (hv : v < B) : Limbs (o.set j v) := by
  intro x hx
  rcases List.mem_or_eq_of_mem_set hx with h' | rfl
  · exact h x h'
  · exact hv
theorem digit (o : List Nat) (h : Limbs o) (j : Nat) : val o / B ^ j % B = o.getD j 0 := by
  rw [← val_drop o h, val_mod _ (h.drop j), List.getD_eq_getElem?_getD, List.getD_eq_getElem?_getD, List.getElem?_drop, Nat.add_zero]
theorem digit_0 (o : List Nat) (h : Limbs o) (j : Nat) (hv : val o < B ^ j) : o.getD j 0 = 0 := by
  rw [← digit o h j, Nat.div_eq_of_lt hv, Nat.zero_mod]
theorem getD_set_ne (o : List Nat) (i j v : Nat) (h : i ≠ j) : (o.set i v).getD j 0 = o.getD j 0 := by
  rw [List.getD_eq_getElem?_getD, List.getD_eq_getElem?_getD, List.getElem?_set_ne h]
end Go.Ab

/- What the program's Mul computes. Conditions: limbs in range, not too many. -/
namespace Go.Ab
open Go.Proofs
set_option maxRecDepth 100000
set_option linter.unusedSimpArgs false

end Go.Ab

/- Quotients bit by bit: plain arithmetic. -/
namespace Go.Ab
theorem pow1 (k : Nat) : 2 ^ (k + 1) = 2 * 2 ^ k := by rw [Nat.pow_succ, Nat.mul_comm]
theorem div_pow1 (A k : Nat) : A / 2 ^ k = 2 * (A / 2 ^ (k + 1)) + A / 2 ^ k % 2 := by
  rw [pow1, Nat.mul_comm 2 (2 ^ k), ← Nat.div_div_eq_div_mul]
  omega
theorem bit_limb (l : List Nat) (h : Limbs l) (i : Nat) : l.getD (i / 32) 0 / 2 ^ (i % 32) % 2 = val l / 2 ^ i % 2 := by
  rw [← digit l h, B_pow]
  have e : val l / 2 ^ i = val l / 2 ^ (32 * (i / 32)) / 2 ^ (i % 32) := by
    rw [Nat.div_div_eq_div_mul, ← Nat.pow_add, Nat.div_add_mod]
  rw [e]
  generalize val l / 2 ^ (32 * (i / 32)) = V
  have hr : i % 32 < 32 := Nat.mod_lt _ (by decide)
  generalize i % 32 = r at *
  have hB : B = 2 ^ r * (2 * 2 ^ (31 - r)) := by
    rw [← pow1, ← Nat.pow_add, show r + (31 - r + 1) = 32 by omega]
  have h1 : V % B / 2 ^ r = V / 2 ^ r % (2 * 2 ^ (31 - r)) := by
    rw [hB, Nat.mod_mul_right_div_self]
  rw [h1, Nat.mod_mul_right_mod]
theorem getD_lt' (l : List Nat) (hl : Limbs l) (i : Nat) : l.getD i 0 < 4294967296 := by
  by_cases h : i < l.length
  · rw [List.getD_eq_getElem?_getD, List.getElem?_eq_getElem h]
    exact hl _ (List.getElem_mem h)
  · rw [List.getD_eq_getElem?_getD, List.getElem?_eq_none (by omega)]; decide
theorem or_bit (o : List Nat) (h : Limbs o) (i Q : Nat) (hv : val o = Q * 2 ^ (i + 1)) : (o.getD (i / 32) 0 ||| 2 ^ (i % 32)) = o.getD (i / 32) 0 + 2 ^ (i % 32) ∧ (o.getD (i / 32) 0 ||| 2 ^ (i % 32)) < 4294967296 := by
  have hr : i % 32 < 32 := Nat.mod_lt _ (by decide)
  constructor
  · have hd := digit o h (i / 32)
    have hi : i + 1 = 32 * (i / 32) + (i % 32 + 1) := by omega
    rw [hv, hi, Nat.pow_add, ← B_pow, Nat.mul_comm (B ^ (i / 32)), ← Nat.mul_assoc, Nat.mul_div_cancel _ (Nat.pow_pos (by decide))] at hd
    have hB : B = 2 ^ (i % 32 + 1) * 2 ^ (31 - i % 32) := by rw [← Nat.pow_add, show i % 32 + 1 + (31 - i % 32) = 32 by omega]
    rw [hB, Nat.mul_comm Q, Nat.mul_mod_mul_left] at hd
    rw [← hd, ← Nat.two_pow_add_eq_or_of_lt (Nat.pow_lt_pow_right (by decide) (Nat.lt_succ_self _))]
  · refine Nat.or_lt_two_pow (n := 32) ?_ (Nat.pow_lt_pow_right (by decide) hr)
    have := getD_lt' o h (i / 32)
    exact this
theorem div_set (o : List Nat) (h : Limbs o) (i Q : Nat) (hi : i / 32 < o.length) (hv : val o = Q * 2 ^ (i + 1)) : val (o.set (i / 32) (o.getD (i / 32) 0 ||| 2 ^ (i % 32))) = (2 * Q + 1) * 2 ^ i := by
  have h1 := val_set o (i / 32) (o.getD (i / 32) 0 ||| 2 ^ (i % 32)) hi
  rw [(or_bit o h i Q hv).1, Nat.mul_add, hv, B_pow, ← Nat.pow_add, Nat.div_add_mod] at h1
  rw [(or_bit o h i Q hv).1, Nat.add_mul, Nat.one_mul]
  have h2 : Q * 2 ^ (i + 1) = 2 * Q * 2 ^ i := by rw [pow1, Nat.mul_comm 2 Q, Nat.mul_assoc]
  omega
end Go.Ab

/- The calls of the program's number functions, upon any value that shows a number. Conditions: at most 1000 limbs. -/
namespace Go.Ab
open Go.Proofs
set_option maxRecDepth 100000
set_option linter.unusedSimpArgs false

def Sh (w : AV) (l : List Nat) : Prop := ∃ g, w = .sl (encC l) l.length g
theorem sh_L (b : Gk) (l : List Nat) : Sh (encL b l) l := ⟨_, rfl⟩
theorem Sh.arg {w : AV} {l : List Nat} (h : Sh w l) (f : FuncId) (s : St) (j : Nat) : ∃ b, argA cfg0 f s j w = some (.tree (encL b l)) := by
  obtain ⟨g, rfl⟩ := h
  cases g with
  | tight => exact ⟨.t, rfl⟩
  | loose => exact ⟨.l, rfl⟩
  | nil => exact ⟨.n, rfl⟩
  | tok p t => exact ⟨.l, rfl⟩
theorem Sh.gives {w : AV} {l : List Nat} (h : Sh w l) (v : AV) : givesOf w (.tree v) = none := by
  obtain ⟨g, rfl⟩ := h
  cases g <;> rfl
theorem Sh.lends {w : AV} {l : List Nat} (h : Sh w l) (v : AV) : lendsOf w (.tree v) = none := by
  obtain ⟨g, rfl⟩ := h
  cases g <;> rfl
theorem callA_S1 (call : FuncId → List Arg → Option Out) (d : Nat) (s : St) (f : FuncId) {w : AV} {l : List Nat} (h : Sh w l) (v : AV) (hc : ∀ b, call f [.tree (encL b l)] = some (.tree v, [[]])) : callA cfg0 call d s f [w] = some (v, s) := by
  obtain ⟨b, e⟩ := h.arg f s 0
  simp [callA, argsA, e, givesL, lendsL, h.gives, h.lends, hc, backA, resA]
theorem callA_S2 (call : FuncId → List Arg → Option Out) (d : Nat) (s : St) (f : FuncId) {w w' : AV} {l l' : List Nat} (h : Sh w l) (h' : Sh w' l') (v : AV) (hc : ∀ b b', call f [.tree (encL b l), .tree (encL b' l')] = some (.tree v, [[], []])) : callA cfg0 call d s f [w, w'] = some (v, s) := by
  obtain ⟨b, e⟩ := h.arg f s 0
  obtain ⟨b', e'⟩ := h'.arg f s 1
  simp [callA, argsA, e, e', givesL, lendsL, h.gives, h.lends, h'.gives, h'.lends, hc, backA, resA]
theorem callA_Si (call : FuncId → List Arg → Option Out) (d : Nat) (s : St) (f : FuncId) {w : AV} {l : List Nat} (h : Sh w l) (k : IntKind) (z : Int) (v : AV) (hc : ∀ b, call f [.tree (encL b l), .tree (.int k z)] = some (.tree v, [[], []])) : callA cfg0 call d s f [w, .int k z] = some (v, s) := by
  obtain ⟨b, e⟩ := h.arg f s 0
  simp [callA, argsA, e, argA_int, givesL, lendsL, h.gives, h.lends, gives_int, lends_int, hc, backA, resA]
def Num (w : AV) (v : Nat) : Prop := ∃ l, Sh w l ∧ Limbs l ∧ l.length ≤ 1000 ∧ val l = v
theorem num_L (b : Gk) (l : List Nat) (h : Limbs l) (hl : l.length ≤ 1000) : Num (encL b l) (val l) := ⟨l, sh_L b l, h, hl, rfl⟩
theorem num_R (v k : Nat) (hk : k ≤ 1000) (h : v < B ^ k) : Num (encR v) v := ⟨_, sh_L _ _, limbs_digs v, Nat.le_trans (digs_len v k h) hk, val_digs v⟩
theorem Num.lt {w : AV} {v : Nat} (h : Num w v) : ∃ k, k ≤ 1000 ∧ v < B ^ k := by
  obtain ⟨l, hs, hl, hn, rfl⟩ := h
  exact ⟨l.length, hn, val_lt l hl⟩
section
variable (n d : Nat) (hn : 100000 ≤ n) (D : Nat) (s : St)
include hn
theorem cCmp {w w' : AV} {v v' : Nat} (h : Num w v) (h' : Num w' v') : callA cfg0 (evalFn Tryd.prog cfg0 n (d+3)) D s 64 [w, w'] = some (.int .i64 (cmpZ v v'), s) := by
  obtain ⟨l, hs, hl, hk, rfl⟩ := h
  obtain ⟨l', hs', hl', hk', rfl⟩ := h'
  exact callA_S2 _ D s 64 hs hs' _ fun b b' => cmp_eq n d b b' l l' hl hl' (by omega) (by omega) (by omega) (by omega)
theorem cAdd {w w' : AV} {v v' : Nat} (h : Num w v) (h' : Num w' v') : callA cfg0 (evalFn Tryd.prog cfg0 n (d+2)) D s 83 [w, w'] = some (encR (v + v'), s) := by
  obtain ⟨l, hs, hl, hk, rfl⟩ := h
  obtain ⟨l', hs', hl', hk', rfl⟩ := h'
  exact callA_S2 _ _ _ _ hs hs' _ fun b b' => (fnAdd_eq n d b b' l l' hl hl' (by omega) (by omega) (by omega) (by omega))
theorem cSub {w w' : AV} {v v' : Nat} (h : Num w v) (h' : Num w' v') : callA cfg0 (evalFn Tryd.prog cfg0 n (d+4)) D s 84 [w, w'] = some (encR (v - v'), s) := by
  obtain ⟨l, hs, hl, hk, rfl⟩ := h
  obtain ⟨l', hs', hl', hk', rfl⟩ := h'
  exact callA_S2 _ _ _ _ hs hs' _ fun b b' => (fnSub_eq n d b b' l l' hl hl' (by omega) (by omega) (by omega) (by omega))
theorem cShl {w : AV} {v : Nat} (h : Num w v) (z : Int) : callA cfg0 (evalFn Tryd.prog cfg0 n (d+2)) D s 82 [w, .int .i64 z] = some (encR (v * 2 ^ shn z), s) := by
  obtain ⟨l, hs, hl, hk, rfl⟩ := h
  exact callA_Si _ _ _ _ hs _ _ _ fun b => (fnShl_eq n d b l z hl (by omega) (by omega))
theorem cLen {w : AV} {v : Nat} (h : Num w v) : callA cfg0 (evalFn Tryd.prog cfg0 n (d+2)) D s 81 [w] = some (.int .i64 ((blen v : Nat) : Int), s) := by
  obtain ⟨l, hs, hl, hk, rfl⟩ := h
  exact callA_S1 _ D s 81 hs _ fun b => len_eq n d b l hl (by omega) (by omega)
end
theorem lenR (s : St) (v : Nat) : lenA Tryd.prog 23 s (encR v) = some (.int .i64 ((digs v).length : Int)) := zdx s _ _
theorem digs_len0 (v : Nat) : (digs v).length = 0 ↔ v = 0 := by
  constructor
  · intro h
    have := val_digs v
    rw [List.length_eq_zero_iff.mp h] at this
    exact this.symm
  · intro h; subst h; rw [digs_0]; rfl
theorem shn_1 : shn 1 = 1 := by decide
theorem s_and1 (P : Program) (t : TypeId) (a : Nat) (h : a < 4294967296) : binA P .and t (.int .u32 (a : Int)) (.int .u32 1) = some (.int .u32 ((a % 2 : Nat) : Int)) := by
  have h1 : (BitVec.ofInt 32 (a : Int) &&& BitVec.ofInt 32 1).toNat = a % 2 := by
    rw [BitVec.toNat_and, BitVec.ofInt_natCast, BitVec.toNat_ofNat, Nat.mod_eq_of_lt h, show (BitVec.ofInt 32 1).toNat = 1 from rfl, Nat.and_one_is_mod]
  show some (AV.int .u32 (IntKind.u32.wrap ((BitVec.ofInt 32 (a : Int) &&& BitVec.ofInt 32 1).toNat : Int))) = _
  rw [h1]
  simp only [IntKind.wrap, IntKind.bits, IntKind.signed]
  congr 2
  simp; omega
theorem s_or (P : Program) (t : TypeId) (a b : Nat) (h : a < 4294967296) (h' : b < 4294967296) : binA P .or t (.int .u32 (a : Int)) (.int .u32 (b : Int)) = some (.int .u32 (((a ||| b) : Nat) : Int)) := by
  have h1 : (BitVec.ofInt 32 (a : Int) ||| BitVec.ofInt 32 (b : Int)).toNat = a ||| b := by
    rw [BitVec.toNat_or, BitVec.ofInt_natCast, BitVec.ofInt_natCast, BitVec.toNat_ofNat, BitVec.toNat_ofNat, Nat.mod_eq_of_lt h, Nat.mod_eq_of_lt h']
  have h2 := Nat.or_lt_two_pow (n := 32) h h'
  show some (AV.int .u32 (IntKind.u32.wrap ((BitVec.ofInt 32 (a : Int) ||| BitVec.ofInt 32 (b : Int)).toNat : Int))) = _
  rw [h1]
  simp only [IntKind.wrap, IntKind.bits, IntKind.signed]
  congr 2
  generalize a ||| b = c at *
  simp; omega
theorem s_shl1 (P : Program) (t : TypeId) (k : IntKind) (r : Nat) (h : r < 32) : binA P .shl t (.int .u32 1) (.int k (r : Int)) = some (.int .u32 ((2 ^ r : Nat) : Int)) := by
  have h1 : 2 ^ r < 2 ^ 32 := Nat.pow_lt_pow_right (by decide) h
  simp only [binA, shA]
  rw [if_neg (by omega)]
  have e : (1 : Int) * 2 ^ (min ((r : Int).toNat) IntKind.u32.bits) = ((2 ^ r : Nat) : Int) := by
    rw [Int.toNat_natCast, show min r IntKind.u32.bits = r from Nat.min_eq_left (by simp only [IntKind.bits]; omega), Int.one_mul]
    simp
  rw [e]
  simp only [IntKind.wrap, IntKind.bits, IntKind.signed]
  congr 2
  simp only [Bool.false_and, Bool.false_eq_true, if_false]
  rw [show (2 : Int) ^ 32 = ((2 ^ 32 : Nat) : Int) from rfl, ← Int.natCast_emod, Nat.mod_eq_of_lt h1]
theorem finish_2 (k : Bool) (xs : List Arg) (t t' : Nat) (env : Env) (s : St) (v v' : Nat) (os : List (List AV)) (hv : env t = encR v) (hv' : env t' = encR v') (ho : outsA s 0 xs = some os) :
    finishP Tryd.prog k xs #[.tmp t, .tmp t'] env s = some (.tree (.tup [encR v, encR v']), os) := by
  have e : ∀ u, settle s (encR u) = some (encR u, s) := fun u => settle_L s _ _
  simp only [finishP_t1, finishP_t2, finish, List.mapM_cons, List.mapM_nil, hv, hv', Option.pure_def, Option.bind_eq_bind, Option.bind_some, settleL, e, Option.map_some, ho]

theorem fnDiv_eq (n d : Nat) (b b' : Gk) (l m : List Nat) (hl : Limbs l) (hm : Limbs m) (hn : 100000 ≤ n) (hll : l.length ≤ 900) (hml : m.length ≤ 900) :
    evalFn Tryd.prog cfg0 n (d+5) 51 [.tree (encL b l), .tree (encL b' m)] = some (.tree (.tup [encR (if val m = 0 then 0 else val l / val m), encR (if val m = 0 then 0 else val l % val m)]), [[], []]) := by
  rw [evalFn_go _ Tryd.func51 (by unfold Tryd.f51; rfl) (by unfold Tryd.f51; decide) (Nat.le_of_ble_eq_true (by unfold Tryd.f51; rfl)) (by kernel_rfl)]
  have c1 := fun D s => norm_call n (d + 3) b' m hm (by omega) (by omega) D s
  by_cases hz : val m = 0
  · have p1 : (((digs (val m)).length : Int) == 0) = true := by rw [hz, digs_0]; rfl
    simp only [simB, zbo, Nat.reduceBEq, own0, ↓reduceIte, Nat.reduceEqDiff, Nat.reduceAdd, simA, simL, c1, lenR, p1]
    simp only [hz, ↓reduceIte]
    exact finish_2 _ _ _ _ _ _ 0 0 _ (by simp only [zfk, ↓reduceIte, Nat.reduceEqDiff, encR_0]) (by simp only [zfk, ↓reduceIte, Nat.reduceEqDiff, encR_0]) rfl
  have p1 : (((digs (val m)).length : Int) == 0) = false := by
    rw [beq_eq_false_iff_ne]
    intro h
    exact hz ((digs_len0 _).mp (by omega))
  have e2 := make22 15 dead (l.length : Int) (by omega) (by omega)
  rw [Int.toNat_natCast] at e2
  have e3 : (dead 15).t + 1 = 1 := rfl
  have c2 := fun D s => cLen n (d + 2) hn D s (num_L b l hl (by omega))
  have hbl : blen (val l) ≤ 32 * l.length := blen_le _ _ (by rw [← B_pow]; exact val_lt l hl)
  have e4 := i_sub Tryd.prog 3 (blen (val l) : Int) 1 (by omega) (by omega)
  have hmB : val m < B ^ m.length := val_lt m hm
  simp only [hz, if_false]
  simp only [simB, zbo, Nat.reduceBEq, own0, ↓reduceIte, Nat.reduceEqDiff, Nat.reduceAdd, simA, simL, st0_2, c1, c2, lenR, p1, e2, e3, e4, den_loop]
  refine loop_ends (X := Nat × Nat × List Nat × Nat) (fun x env s => env 0 = encL b l ∧ env 1 = encR (val m) ∧ env 7 = .int .i64 ((x.1 : Int) - 1) ∧ env 5 = encR x.2.1 ∧ env 6 = .own 15 1 0 l.length 1 ∧ s 15 = ⟨1, .buf (encC x.2.2.1)⟩ ∧ x.1 ≤ 32 * l.length ∧ x.2.1 < val m ∧ x.2.2.1.length = l.length ∧ Limbs x.2.2.1 ∧ val x.2.2.1 = x.2.2.2 * 2 ^ x.1 ∧ val l / 2 ^ x.1 = x.2.2.2 * val m + x.2.1) (fun x => x.1) (fun _ => (.tree (.tup [encR (val l / val m), encR (val l % val m)]), [[], []])) ?_ n (blen (val l), 0, List.replicate l.length 0, 0) _ _ (by simp only; omega) ⟨rfl, rfl, rfl, by rw [encR_0]; rfl, rfl, rfl, by simp only; omega, by simp only; omega, by simp, ?_, by simp [val_rep], ?_⟩
  rotate_left
  · intro x hx; rw [List.eq_of_mem_replicate hx]; decide
  · simp only [Nat.zero_mul, Nat.zero_add]; exact Nat.div_eq_of_lt (lt_blen _)
  intro k' ⟨x, r, o, Q⟩ hx ih env s ⟨h0, h1, h7, h5, h6, hs, hi, hr, hol, hoL, hQ, hA⟩
  simp only at h0 h1 h7 h5 h6 hs hi hr hol hoL hQ hA hx
  by_cases hp : x = 0
  · subst hp
    have q1 : ¬ (((0 : Nat) : Int) - 1 ≥ 0) := by omega
    obtain ⟨s9, e9⟩ := norm_hold n (d + 3) s (.own 15 1 0 l.length 1) o (.inr (.inr ⟨15, 1, by rw [hol], hs⟩)) hoL (by omega) (by omega) 56
    simp only [simB, zbo, Nat.reduceBEq, own0, ↓reduceIte, Nat.reduceEqDiff, Nat.reduceAdd, simL, h0, h1, h7, h5, h6, q1, e9]
    have hq : val l / val m = val o ∧ val l % val m = r := by
      rw [Nat.pow_zero, Nat.div_one] at hA
      rw [Nat.pow_zero, Nat.mul_one] at hQ
      rw [hA, hQ, Nat.mul_comm]
      constructor
      · rw [Nat.mul_add_div (by omega), Nat.div_eq_of_lt hr, Nat.add_zero]
      · rw [Nat.mul_add_mod, Nat.mod_eq_of_lt hr]
    rw [hq.1, hq.2]
    exact finish_2 _ _ _ _ _ _ _ _ _ (by simp only [zfk, ↓reduceIte, Nat.reduceEqDiff]) (by simp only [zfk, ↓reduceIte]) rfl
  · obtain ⟨y, rfl⟩ : ∃ y, x = y + 1 := ⟨x - 1, by omega⟩
    have p2 : ((y + 1 : Nat) : Int) - 1 = (y : Int) := by omega
    rw [p2] at h7
    have p6 : (y : Int) ≥ 0 := by omega
    have p3 : ((y / 32 : Nat) : Int) < l.length := by omega
    have p4 : y / 32 < l.length := by omega
    have p7 : (0 : Int) ≤ ((y / 32 : Nat) : Int) := by omega
    have g0 := i_sub Tryd.prog 3 (y : Int) 1 (by omega) (by omega)
    have g1 := i_quo Tryd.prog 3 y 32 (by decide) (by omega)
    have g2 := i_rem Tryd.prog 3 y 32 (by decide)
    rw [show ((32 : Nat) : Int) = 32 from rfl] at g1 g2
    have h900 : B ^ m.length * 4 ≤ B ^ (m.length + 1) := by
      rw [Nat.pow_succ]
      exact Nat.mul_le_mul_left _ (by decide)
    have hk1 : m.length + 1 ≤ 1000 := by omega
    have hrB : r < B ^ (m.length + 1) := by generalize B ^ (m.length + 1) = b1 at *; generalize B ^ m.length = b2 at *; omega
    have hr2 : r * 2 ^ 1 < B ^ (m.length + 1) := by generalize B ^ (m.length + 1) = b1 at *; generalize B ^ m.length = b2 at *; omega
    have hr3 : r * 2 ^ 1 + 1 < B ^ (m.length + 1) := by generalize B ^ (m.length + 1) = b1 at *; generalize B ^ m.length = b2 at *; omega
    have hmB' : val m < B ^ (m.length + 1) := by generalize B ^ (m.length + 1) = b1 at *; generalize B ^ m.length = b2 at *; omega
    have c3 := fun D s => cShl n (d + 2) hn D s (num_R r _ hk1 hrB) 1
    rw [shn_1] at c3
    have hlw := getD_lt l hl (y / 32)
    have g3 := s_shr Tryd.prog 50 (l.getD (y / 32) 0) .i64 ((y % 32 : Nat) : Int) (by omega) (by omega)
    rw [Int.toNat_natCast] at g3
    have g4 := s_and1 Tryd.prog 50 (l.getD (y / 32) 0 / 2 ^ (y % 32)) (Nat.lt_of_le_of_lt (Nat.div_le_self _ _) hlw)
    rw [bit_limb l hl] at g4
    have hbit := div_pow1 (val l) y
    have hb01 : val l / 2 ^ y % 2 < 2 := Nat.mod_lt _ (by decide)
    generalize val l / 2 ^ y % 2 = bit at *
    rw [hA] at hbit
    -- the remainder with the next bit
    have one1 : Num (.sl [.int .u32 1] 1 .tight) 1 := ⟨[1], ⟨_, rfl⟩, limbs_one (by decide), by decide, rfl⟩
    have c4 := fun D s => cAdd n (d + 2) hn D s (num_R (r * 2 ^ 1) _ hk1 hr2) one1
    have hnew : val l / 2 ^ y = 2 * Q * val m + (r * 2 ^ 1 + bit) := by
      rw [hbit, Nat.mul_add, Nat.mul_assoc]; omega
    have hr4 : r * 2 ^ 1 + bit < B ^ (m.length + 1) := by generalize B ^ (m.length + 1) = b1 at *; omega
    have c5 := fun D s => cCmp n (d + 1) hn D s (num_R (r * 2 ^ 1 + bit) _ hk1 hr4) (num_R (val m) _ hk1 hmB')
    have c6 := fun D s => cSub n d hn D s (num_R (r * 2 ^ 1 + bit) _ hk1 hr4) (num_R (val m) _ hk1 hmB')
    have t1 := ia_own s 15 1 _ l.length .i64 ((y / 32 : Nat) : Int) hs p7 p3
    rw [Int.toNat_natCast] at t1
    have t2 := ld_own s 15 1 o (y / 32) hs (by omega)
    have t3 := s_shl1 Tryd.prog 50 .i64 (y % 32) (Nat.mod_lt _ (by decide))
    have hob := or_bit o hoL y Q hQ
    have t4 := s_or Tryd.prog 50 (o.getD (y / 32) 0) (2 ^ (y % 32)) (getD_lt o hoL _) (show 2 ^ (y % 32) < 2 ^ 32 from Nat.pow_lt_pow_right (by decide) (Nat.mod_lt _ (by decide)))
    have t5 := st31 s 15 1 _ (y / 32) (o.getD (y / 32) 0 ||| 2 ^ (y % 32)) hs (by omega)
    have hset := div_set o hoL y Q (by omega) hQ
    have hQ2 : val o = 2 * Q * 2 ^ y := by rw [hQ, pow1, Nat.mul_comm 2 Q, Nat.mul_assoc]
    by_cases hbz : bit = 0
    · have p5 : ((bit : Int) != 0) = false := by rw [hbz]; rfl
      have hb0 : r * 2 ^ 1 + bit = r * 2 ^ 1 := by omega
      rw [hb0] at c5 c6 hnew
      by_cases hlt : r * 2 ^ 1 < val m
      · have z1 : cmpZ (r * 2 ^ 1) (val m) < 0 := (cmpZ_lt _ _).mpr hlt
        simp only [simB, zbo, Nat.reduceBEq, own0, ↓reduceIte, Nat.reduceEqDiff, Nat.reduceAdd, simL, h0, h1, h7, h5, h6, p6, c3, g1, g2, p7, p3, p4, Int.toNat_natCast, g3, bit_limb l hl, g4, p5, c5, z1, g0]
        refine ih (y, r * 2 ^ 1, o, 2 * Q) _ _ (by simp only; omega) rfl ⟨?_, ?_, ?_, ?_, ?_, hs, ?_, hlt, hol, hoL, hQ2, hnew⟩
        · simp only [zfk, ↓reduceIte, Nat.reduceEqDiff, h0]
        · simp only [zfk, ↓reduceIte, Nat.reduceEqDiff, h1]
        · simp only [zfk, ↓reduceIte, Nat.reduceEqDiff]
        · simp only [zfk, ↓reduceIte, Nat.reduceEqDiff]
        · simp only [zfk, ↓reduceIte, Nat.reduceEqDiff, h6]
        · simp only; omega
      · have z1 : ¬ cmpZ (r * 2 ^ 1) (val m) < 0 := fun h => hlt ((cmpZ_lt _ _).mp h)
        simp only [simB, zbo, Nat.reduceBEq, own0, ↓reduceIte, Nat.reduceEqDiff, Nat.reduceAdd, simL, h0, h1, h7, h5, h6, p6, c3, g1, g2, p7, p3, p4, Int.toNat_natCast, g3, bit_limb l hl, g4, p5, c5, z1, g0, c6, t1, t2, t3, t4, t5]
        refine ih (y, r * 2 ^ 1 - val m, o.set (y / 32) (o.getD (y / 32) 0 ||| 2 ^ (y % 32)), 2 * Q + 1) _ _ (by simp only; omega) rfl ⟨?_, ?_, ?_, ?_, ?_, ?_, ?_, ?_, ?_, ?_, hset, ?_⟩
        · simp only [zfk, ↓reduceIte, Nat.reduceEqDiff, h0]
        · simp only [zfk, ↓reduceIte, Nat.reduceEqDiff, h1]
        · simp only [zfk, ↓reduceIte, Nat.reduceEqDiff]
        · simp only [zfk, ↓reduceIte, Nat.reduceEqDiff]
        · simp only [zfk, ↓reduceIte, Nat.reduceEqDiff, h6]
        · rw [upd_self]
        · simp only; omega
        · simp only; omega
        · simp only [List.length_set]; exact hol
        · exact limbs_set _ hoL _ _ hob.2
        · simp only; rw [hnew, Nat.add_mul, Nat.one_mul]; omega
    · have hb1 : bit = 1 := by omega
      have p5 : ((bit : Int) != 0) = true := by rw [hb1]; rfl
      rw [hb1] at c5 c6 hnew
      by_cases hlt : r * 2 ^ 1 + 1 < val m
      · have z1 : cmpZ (r * 2 ^ 1 + 1) (val m) < 0 := (cmpZ_lt _ _).mpr hlt
        simp only [simB, zbo, Nat.reduceBEq, own0, ↓reduceIte, Nat.reduceEqDiff, Nat.reduceAdd, simL, h0, h1, h7, h5, h6, p6, c3, g1, g2, p7, p3, p4, Int.toNat_natCast, g3, bit_limb l hl, g4, p5, opA_one, one22_int, c4, c5, z1, g0]
        refine ih (y, r * 2 ^ 1 + 1, o, 2 * Q) _ _ (by simp only; omega) rfl ⟨?_, ?_, ?_, ?_, ?_, hs, ?_, hlt, hol, hoL, hQ2, hnew⟩
        · simp only [zfk, ↓reduceIte, Nat.reduceEqDiff, h0]
        · simp only [zfk, ↓reduceIte, Nat.reduceEqDiff, h1]
        · simp only [zfk, ↓reduceIte, Nat.reduceEqDiff]
        · simp only [zfk, ↓reduceIte, Nat.reduceEqDiff]
        · simp only [zfk, ↓reduceIte, Nat.reduceEqDiff, h6]
        · simp only; omega
      · have z1 : ¬ cmpZ (r * 2 ^ 1 + 1) (val m) < 0 := fun h => hlt ((cmpZ_lt _ _).mp h)
        simp only [simB, zbo, Nat.reduceBEq, own0, ↓reduceIte, Nat.reduceEqDiff, Nat.reduceAdd, simL, h0, h1, h7, h5, h6, p6, c3, g1, g2, p7, p3, p4, Int.toNat_natCast, g3, bit_limb l hl, g4, p5, opA_one, one22_int, c4, c5, z1, g0, c6, t1, t2, t3, t4, t5]
        refine ih (y, r * 2 ^ 1 + 1 - val m, o.set (y / 32) (o.getD (y / 32) 0 ||| 2 ^ (y % 32)), 2 * Q + 1) _ _ (by simp only; omega) rfl ⟨?_, ?_, ?_, ?_, ?_, ?_, ?_, ?_, ?_, ?_, hset, ?_⟩
        · simp only [zfk, ↓reduceIte, Nat.reduceEqDiff, h0]
        · simp only [zfk, ↓reduceIte, Nat.reduceEqDiff, h1]
        · simp only [zfk, ↓reduceIte, Nat.reduceEqDiff]
        · simp only [zfk, ↓reduceIte, Nat.reduceEqDiff]
        · simp only [zfk, ↓reduceIte, Nat.reduceEqDiff, h6]
        · rw [upd_self]
        · simp only; omega
        · simp only; omega
        · simp only [List.length_set]; exact hol
        · exact limbs_set _ hoL _ _ hob.2
        · simp only; rw [hnew, Nat.add_mul, Nat.one_mul]; omega
end Go.Ab

/- More plain arithmetic of the limb statements. -/
namespace Go.Ab
def placeN (v n : Int) : Int := if v.tmod n < 0 then v.tmod n + n else v.tmod n
theorem place_range (v n : Int) (hn : 0 < n) : 0 ≤ placeN v n ∧ placeN v n < n := by
  have h1 := Int.tmod_lt_of_pos v hn
  have h2 : -n < v.tmod n := by
    have := Int.lt_tmod_of_pos v hn
    omega
  unfold placeN
  split <;> omega
end Go.Ab

/- Helpers of all statements: calls, places, copies, sameness. Conditions: limbs in range. -/
namespace Go.Ab
open Go.Proofs
set_option maxRecDepth 100000
set_option linter.unusedSimpArgs false

section
variable {P : Program} {cfg : Cfg} {call : FuncId → List Arg → Option Out}
def callV (cfg : Cfg) (call : FuncId → List Arg → Option Out) (d : Nat) (s : St) (vs : List AV) : AV → Option (AV × St)
  | .fn f caps => callA cfg call d s f (vs ++ caps)
  | _ => none
@[congr] theorem callV_congr {d : Nat} {s s' : St} {vs vs' : List AV} {v v' : AV} (h : v = v') (h1 : s = s') (h2 : vs = vs') : callV cfg call d s vs v = callV cfg call d s' vs' v' := by rw [h, h1, h2]
theorem backA_trees (s : St) : ∀ vs : List AV, backA s vs (vs.map Arg.tree) (vs.map fun _ => []) = some s
  | [] => rfl
  | v :: vs => by simp only [List.map_cons, backA, gives_tree, backA_trees s vs]
theorem callA_trees {d : Nat} {s : St} {f : FuncId} {vs : List AV} {v : AV} (ht : vs.all isTree = true) (hc : call f (vs.map Arg.tree) = some (.tree v, vs.map fun _ => [])) : callA cfg call d s f vs = some (v, s) := by
  simp only [callA, argsA_trees f s vs 0 ht, Option.bind_some, givesL_trees, lendsL_trees vs ht, List.nodup_nil, List.not_mem_nil, false_implies, implies_true, and_self, if_true, hc, List.foldl_nil, ite_self, backA_trees, resA]
theorem callQ_trees {f : FuncId} {vs : List AV} {v : AV} (ht : vs.all isTree = true) (hc : call f (vs.map Arg.tree) = some (.tree v, vs.map fun _ => [])) : callQ call f vs = some v := by
  simp only [callQ, ht, if_true, hc, Option.bind_some]
end
theorem cDivS (n d : Nat) (hn : 100000 ≤ n) (D : Nat) (s : St) {w w' : AV} {l m : List Nat} (h : Sh w l) (h' : Sh w' m) (hl : Limbs l) (hm : Limbs m) (hll : l.length ≤ 900) (hml : m.length ≤ 900) :
    callA cfg0 (evalFn Tryd.prog cfg0 n (d+5)) D s 51 [w, w'] = some (.tup [encR (if val m = 0 then 0 else val l / val m), encR (if val m = 0 then 0 else val l % val m)], s) :=
  callA_S2 _ _ _ _ h h' _ fun b b' => fnDiv_eq n d b b' l m hl hm hn hll hml
theorem i_remZ (P : Program) (t : TypeId) (a b : Int) (hb : b ≠ 0) : binA P .rem t (.int .i64 a) (.int .i64 b) = some (.int .i64 (a.tmod b)) := by
  simp only [binA, intA, if_true]
  rw [if_neg hb]
end Go.Ab

/- Numbers with a sign: plain arithmetic. No conditions but those told. -/
namespace Go.Ab
def chkN (neg : Bool) (l : List Nat) : Bool := decide (l.length ≤ 12) && (decide (l.length = 0) && !neg || decide (0 < l.length) && decide (l.getD (l.length - 1) 0 ≠ 0))
def numZ (neg : Bool) (l : List Nat) : Int := if chkN neg l = true then (if neg = true then -((val l : Nat) : Int) else ((val l : Nat) : Int)) else 0
def mkZ (z : Int) : Int × Bool := if z.natAbs < B ^ 12 then (z, true) else (0, false)
theorem mkZ_fit {z : Int} (h : z.natAbs < B ^ 12) : mkZ z = (z, true) := if_pos h
theorem mkZ_not {z : Int} (h : ¬ z.natAbs < B ^ 12) : mkZ z = (0, false) := if_neg h
theorem getLast_getD (l : List Nat) (h : 0 < l.length) : l.getLast? = some (l.getD (l.length - 1) 0) := by
  rw [List.getLast?_eq_getElem?, List.getD_eq_getElem?_getD, List.getElem?_eq_getElem (by omega)]; rfl
theorem digs_last (v : Nat) (h : 0 < (digs v).length) : (digs v).getD ((digs v).length - 1) 0 ≠ 0 := by
  induction v using Nat.strongRecOn with
  | ind v ih =>
    by_cases hv : v = 0
    · subst hv; rw [digs_0] at h; simp at h
    · rw [digs_pos v hv]
      by_cases hq : v / B = 0
      · rw [hq, digs_0]
        have : v % B = v := Nat.mod_eq_of_lt (by
          have := Nat.div_add_mod v B; have := Nat.mod_lt v (show 0 < B by decide); rw [hq] at *; omega)
        simpa [this] using hv
      · have hl : 0 < (digs (v / B)).length := by
          rw [digs_pos _ hq]; simp
        have := ih (v / B) (Nat.div_lt_self (by omega) (by decide)) hl
        rw [List.length_cons, show (digs (v / B)).length + 1 - 1 = ((digs (v / B)).length - 1) + 1 by omega, List.getD_cons_succ]
        exact this
theorem digs_len_le (v k : Nat) : (digs v).length ≤ k ↔ v < B ^ k := by
  constructor
  · intro h
    have := val_lt (digs v) (limbs_digs v)
    rw [val_digs] at this
    exact Nat.lt_of_lt_of_le this (Nat.pow_le_pow_right (by decide) h)
  · exact digs_len v k
theorem chk_digs (neg : Bool) (v : Nat) (h : v = 0 → neg = false) : chkN neg (digs v) = decide (v < B ^ 12) := by
  unfold chkN
  by_cases hv : v = 0
  · subst hv
    rw [digs_0, h rfl]
    have : 0 < B ^ 12 := Nat.pow_pos (by decide)
    simp [this]
  · have hp : 0 < (digs v).length := by rw [digs_pos v hv]; simp
    have hl := digs_last v hp
    have h12 : decide ((digs v).length ≤ 12) = decide (v < B ^ 12) := by
      rw [Bool.eq_iff_iff]; simp only [decide_eq_true_eq]; exact digs_len_le v 12
    rw [h12]
    have h1 : decide (0 < (digs v).length) = true := decide_eq_true hp
    have h2 : decide ((digs v).getD ((digs v).length - 1) 0 ≠ 0) = true := decide_eq_true hl
    rw [h1, h2]
    simp
theorem chk_val {neg : Bool} {l : List Nat} (hl : Limbs l) (h : chkN neg l = true) : digs (val l) = l ∧ val l < B ^ 12 ∧ l.length ≤ 12 ∧ (val l = 0 → l = [] ∧ neg = false) := by
  unfold chkN at h
  simp only [Bool.and_eq_true, Bool.or_eq_true, decide_eq_true_eq, Bool.not_eq_true'] at h
  obtain ⟨h12, h⟩ := h
  have hd : digs (val l) = l := by
    refine digs_val l hl fun x hx => ?_
    rcases h with ⟨h0, _⟩ | ⟨h0, h1⟩
    · have : l = [] := List.length_eq_zero_iff.mp h0
      subst this; cases hx
    · rw [getLast_getD l h0] at hx
      cases hx
      exact h1
  refine ⟨hd, Nat.lt_of_lt_of_le (val_lt l hl) (Nat.pow_le_pow_right (by decide) h12), h12, fun h0 => ?_⟩
  rw [h0, digs_0] at hd
  subst hd
  rcases h with ⟨_, h1⟩ | ⟨h1, _⟩
  · exact ⟨rfl, h1⟩
  · simp at h1
theorem numZ_not {neg : Bool} {l : List Nat} (h : chkN neg l = false) : numZ neg l = 0 := by simp [numZ, h]
theorem numZ_is {neg : Bool} {l : List Nat} (hl : Limbs l) (h : chkN neg l = true) : (numZ neg l).natAbs = val l ∧ decide (numZ neg l < 0) = neg ∧ digs (numZ neg l).natAbs = l := by
  obtain ⟨hd, _, _, h0⟩ := chk_val hl h
  have e : numZ neg l = if neg = true then -((val l : Nat) : Int) else ((val l : Nat) : Int) := if_pos h
  cases neg with
  | false =>
    simp only [Bool.false_eq_true, if_false] at e
    have : (numZ false l).natAbs = val l := by rw [e]; simp
    refine ⟨this, ?_, by rw [this]; exact hd⟩
    rw [e, decide_eq_false_iff_not]; omega
  | true =>
    simp only [if_true] at e
    have hn : val l ≠ 0 := fun h => by have := (h0 h).2; simp at this
    have : (numZ true l).natAbs = val l := by rw [e]; omega
    refine ⟨this, ?_, by rw [this]; exact hd⟩
    rw [e, decide_eq_true_eq]; omega
theorem numZ_lt (neg : Bool) (l : List Nat) (hl : Limbs l) : (numZ neg l).natAbs < B ^ 12 := by
  cases h : chkN neg l with
  | false => rw [numZ_not h]; exact Nat.pow_pos (by decide)
  | true => rw [(numZ_is hl h).1]; exact (chk_val hl h).2.1
def sgn (neg : Bool) (v : Nat) : Int := if neg = true then -(v : Int) else (v : Int)
theorem sgn_abs (neg : Bool) (v : Nat) : (sgn neg v).natAbs = v := by
  unfold sgn; split <;> simp
theorem sgn_neg (neg : Bool) (v : Nat) : decide (sgn neg v < 0) = (neg && decide (v ≠ 0)) := by
  cases neg with
  | false =>
    simp only [sgn, Bool.false_eq_true, if_false, Bool.false_and, decide_eq_false_iff_not]; omega
  | true =>
    simp only [sgn, if_true, Bool.true_and]
    by_cases h : v = 0
    · subst h; decide
    · rw [decide_eq_true (show (-(v : Int) < 0) by omega), decide_eq_true h]
theorem sgn_of (z : Int) : sgn (decide (z < 0)) z.natAbs = z := by
  unfold sgn
  by_cases h : z < 0
  · simp [h]; omega
  · simp [h]; omega
end Go.Ab

/- Numbers with a sign in memory cells; which may be. Conditions: limbs in range. -/
namespace Go.Ab
open Go.Proofs
set_option maxRecDepth 100000
set_option linter.unusedSimpArgs false

abbrev encA (neg : Bool) (g : Gk) (l : List Nat) : AV := .agg [.bool neg, encL g l]
def encZ (z : Int) : AV := .agg [.bool (decide (z < 0)), encR z.natAbs]
theorem tk24 : tkOf Tryd.prog 25 = .st := by kernel_rfl
theorem zew : zeroOf Tryd.prog 25 = some [.bool false, .sl [] 0 .nil] := by kernel_rfl
theorem sh24 : shOf Tryd.prog 25 = some (true, 2) := by kernel_rfl
theorem sh22 : shOf Tryd.prog 23 = some (false, 1) := by kernel_rfl
theorem sh4 : shOf Tryd.prog 4 = some (false, 1) := by kernel_rfl
theorem esz24 : esz Tryd.prog 25 = some 2 := by kernel_rfl
theorem esz22 : esz Tryd.prog 23 = some 1 := by kernel_rfl
theorem esz4 : esz Tryd.prog 4 = some 1 := by kernel_rfl
theorem pl24 : placesA Tryd.prog 25 = some [(0, 1), (1, 1)] := by kernel_rfl
theorem fd24_0 : fieldOf Tryd.prog 25 0 = some (4, 0) := by kernel_rfl
theorem fd24_1 : fieldOf Tryd.prog 25 1 = some (23, 1) := by kernel_rfl

section
variable {P : Program} {cfg : Cfg} {call : FuncId → List Arg → Option Out} {d : Option Tmp} {ty : TypeId} {pos : String} {af : Array Edge} {g : Option (Nat × Bool)} {t : Nat} {q : Bool} {env : Env} {s : St}
def boxA (d : Nat) (s : St) (v : AV) : Option (AV × St) := (settle s v).bind fun x => (cellsOf x.1).map fun xs => (.ptr d ((x.2 d).t + 1) 0, upd x.2 d ⟨(x.2 d).t + 1, .buf xs⟩)
def boxT (s : St) (v : AV) : Option (AV × St) := (settled v).bind fun v => (cellsOf v).map fun xs => (.rptr xs, s)
theorem zeh (u : TypeId) (x : Operand) : opA P cfg call q ⟨d, .box u x, ty, pos, af, g⟩ t env s = if cfg.ownAt ("@" ++ pos) = true then boxT s (ev env x) else boxA t s (ev env x) := rfl
theorem zei (u : TypeId) : opA P cfg call q ⟨d, .alloc u, ty, pos, af, g⟩ t env s = (zeroOf P u).map fun z => (.ptr t ((s t).t + 1) 0, upd s t ⟨(s t).t + 1, .buf z⟩) := rfl
theorem zej (u : TypeId) (x : Operand) (i : Nat) : opA P cfg call q ⟨d, .fieldAddr u x i, ty, pos, af, g⟩ t env s = (fieldAddrA P u s (ev env x) i).map (·, s) := rfl
theorem zek (u : TypeId) (x : Operand) (i : Nat) : opA P cfg call q ⟨d, .field u x i, ty, pos, af, g⟩ t env s = (fieldA P u (ev env x) i).map (·, s) := rfl
def buildA (P : Program) (u : TypeId) (parts : List (Nat × AV)) : Option AV := (zeroOf P u).bind fun z => match tkOf P u with
  | .st => (placesA P u).bind fun pl => (fillA (fun i => pl[i]?) z parts).map .agg
  | .arr _ e => (esz P e).bind fun n => (fillA (fun i => some (i * n, n)) z parts).map .agg
  | _ => none
def buildO (P : Program) (u : TypeId) (s : St) (ps : List (Nat × AV)) : Option (AV × St) := (settleP s ps).bind fun x => (zeroOf P u).bind fun z => match tkOf P u with
  | .st => (placesA P u).bind fun pl => ((fillA (fun i => pl[i]?) z x.1).map AV.agg).map (·, x.2)
  | _ => none
theorem zel (u : TypeId) (parts : Array (Nat × Operand)) : opA P cfg call q ⟨d, .build u parts, ty, pos, af, g⟩ t env s = if cfg.ownAt ("#" ++ pos) = true then (if q = true then none else buildO P u s (parts.toList.map fun x => (x.1, ev env x.2))) else if cfg.ownAt ("&" ++ pos) = true then (buildG P u (parts.toList.map fun x => (x.1, ev env x.2))).map (·, s) else (buildA P u (parts.toList.map fun x => (x.1, ev env x.2))).map (·, s) := by
  simp only [opA, buildA]
  by_cases h : cfg.ownAt ("#" ++ pos) = true
  · rw [if_pos h, if_pos h]; rfl
  · rw [if_neg h, if_neg h]
    by_cases h' : cfg.ownAt ("&" ++ pos) = true
    · rw [if_pos h', if_pos h']
    rw [if_neg h', if_neg h']
    cases zeroOf P u with
    | none => rfl
    | some z =>
      simp only [Option.bind_some]
      cases tkOf P u <;> first | rfl | (simp only [Option.map_bind]; rfl)
end
theorem zem (d : Nat) (s : St) (xs : List AV) : boxA d s (.agg xs) = some (.ptr d ((s d).t + 1) 0, upd s d ⟨(s d).t + 1, .buf xs⟩) := rfl
theorem zen (j : Nat) : (dead j).t = 0 := rfl
def cellsE (e : Ent) (k : Nat) : Option (List AV) := match e.c with
  | .buf xs => if e.t = k then some xs else none
  | .frz xs => if e.t = k then some xs else none
  | .mix xs _ => if e.t = k then some xs else none
  | _ => none
theorem cellsAt_E (s : St) (p k : Nat) : cellsAt s p k = cellsE (s p) k := by
  unfold cellsAt cellsE
  rcases s p with ⟨t', c⟩
  cases c <;> rfl
theorem cellsE_buf (t k : Nat) (xs : List AV) : cellsE ⟨t, .buf xs⟩ k = if t = k then some xs else none := rfl
def ldE (P : Program) (u : TypeId) (e : Ent) (k off : Nat) : Option AV := ldC P u e k off
theorem ldE_buf (P : Program) (u : TypeId) (t k off : Nat) (xs : List AV) : ldE P u ⟨t, .buf xs⟩ k off = (cellsE ⟨t, .buf xs⟩ k).bind fun xs => partA P u xs off := by
  rw [cellsE_buf]
  show (if t = k then partA P u xs off else none) = _
  by_cases h : t = k
  · rw [if_pos h, if_pos h]; rfl
  · rw [if_neg h, if_neg h]; rfl
theorem zeo (P : Program) (u : TypeId) (s : St) (p k off : Nat) : loadA P u s (.ptr p k off) = ldE P u (s p) k off := by
  rfl
theorem zep (t k : Nat) (a b : AV) : ldE Tryd.prog 25 ⟨t, .buf [a, b]⟩ k 0 = if t = k then some (.agg [a, b]) else none := by
  rw [ldE_buf, cellsE_buf]
  by_cases e : t = k
  · simp [e, partA, sh24]
  · simp [e]
theorem zeq (t k : Nat) (a b : AV) : ldE Tryd.prog 4 ⟨t, .buf [a, b]⟩ k 0 = if t = k then some a else none := by
  rw [ldE_buf, cellsE_buf]
  by_cases e : t = k
  · simp [e, partA, sh4]
  · simp [e]
theorem zer (t k : Nat) (a b : AV) : ldE Tryd.prog 23 ⟨t, .buf [a, b]⟩ k 1 = if t = k then some b else none := by
  rw [ldE_buf, cellsE_buf]
  by_cases e : t = k
  · simp [e, partA, sh22]
  · simp [e]
def stE (e : Ent) (p k : Nat) (s : St) (ys : List AV) : Option St :=
  match e with | ⟨t', .buf xs⟩ => if t' = k then (if ys.length ≤ xs.length then some (upd s p ⟨t', .buf (splice xs 0 ys)⟩) else none) else none | _ => none
theorem zes (s : St) (p k : Nat) (a b : AV) : storeA Tryd.prog 25 s (.ptr p k 0) (.agg [a, b]) = stE (s p) p k s [a, b] := by
  simp only [storeA, settle, Option.bind_some, stE]
  cases h : s p with
  | mk t c => cases c <;> simp [esz24]
theorem zet (t k p : Nat) (s : St) (a b a' b' : AV) : stE ⟨t, .buf [a', b']⟩ p k s [a, b] = if t = k then some (upd s p ⟨t, .buf [a, b]⟩) else none := by
  simp [stE, splice]
def faE (e : Ent) (p k off : Nat) : Option AV := if (cellsE e k).isSome = true then some (.ptr p k off) else none
theorem fa_0 (s : St) (p k : Nat) : fieldAddrA Tryd.prog 25 s (.ptr p k 0) 0 = faE (s p) p k 0 := by
  simp only [fieldAddrA, fd24_0, esz4, live, cellsAt_E, faE, Nat.zero_add]
theorem fa_1 (s : St) (p k : Nat) : fieldAddrA Tryd.prog 25 s (.ptr p k 0) 1 = faE (s p) p k 1 := by
  simp only [fieldAddrA, fd24_1, esz22, live, cellsAt_E, faE, Nat.zero_add]
theorem zeu (t p k off : Nat) (xs : List AV) : faE ⟨t, .buf xs⟩ p k off = if t = k then some (.ptr p k off) else none := by
  rw [faE, cellsE_buf]
  by_cases e : t = k <;> simp [e]
theorem bd_0 : buildA Tryd.prog 25 [] = some (encA false .n []) := by
  simp only [buildA, zew, tk24, pl24, Option.bind_some, fillA]; rfl
theorem bd_2 (b : Bool) (g : Gk) (l : List Nat) : buildA Tryd.prog 25 [(0, .bool b), (1, encL g l)] = some (encA b g l) := by
  simp only [buildA, zew, tk24, pl24, Option.bind_some]
  cases g <;> rfl
theorem zev (b : Bool) (v : Nat) : buildA Tryd.prog 25 [(0, .bool b), (1, encR v)] = some (.agg [.bool b, encR v]) := bd_2 _ _ _
theorem fd_1 (a b : AV) : fieldA Tryd.prog 25 (.agg [a, b]) 1 = some b := by
  simp [fieldA, fd24_1, partA, sh22]

theorem simN : type_of% (And.intro @zeh (And.intro @zei (And.intro @zej (And.intro @zek (And.intro @zel (And.intro @zem (And.intro @zen (And.intro @zeo (And.intro @zep (And.intro @zeq (And.intro @zer (And.intro @zes (And.intro @zet (And.intro @fa_0 (And.intro @fa_1 (And.intro @zeu (And.intro @bd_0 (And.intro @bd_2 (And.intro @zev (And.intro @fd_1 @zew)))))))))))))))))))) := And.intro @zeh (And.intro @zei (And.intro @zej (And.intro @zek (And.intro @zel (And.intro @zem (And.intro @zen (And.intro @zeo (And.intro @zep (And.intro @zeq (And.intro @zer (And.intro @zes (And.intro @zet (And.intro @fa_0 (And.intro @fa_1 (And.intro @zeu (And.intro @bd_0 (And.intro @bd_2 (And.intro @zev (And.intro @fd_1 @zew)))))))))))))))))))
theorem finish_c (k : Bool) (xs : List Arg) (a p e : Nat) (x y : AV) (env : Env) (s : St) (os : List (List AV)) (ha : env a = .ptr p e 0) (hs : s p = ⟨e, .buf [x, y]⟩) (ho : outsA s 0 xs = some os) :
    finishP Tryd.prog k xs #[.cell a 25] env s = some (.tree (.agg [x, y]), os) := by
  rw [finishP_c1, ha, zeo, hs, zep, if_pos rfl]
  simp only [Option.bind_some, settle, ho, Option.map_some]
theorem finish_ct (k : Bool) (xs : List Arg) (a p e u : Nat) (x y : AV) (b : Bool) (env : Env) (s : St) (os : List (List AV)) (ha : env a = .ptr p e 0) (hs : s p = ⟨e, .buf [x, y]⟩) (hu : env u = .bool b) (ho : outsA s 0 xs = some os) :
    finishP Tryd.prog k xs #[.cell a 25, .tmp u] env s = some (.tree (.tup [.agg [x, y], .bool b]), os) := by
  rw [finishP_c2, ha, zeo, hs, zep, if_pos rfl, hu]
  simp only [Option.bind_some, settleL, settle, Option.map_some, ho]

theorem unA_not' (b : Bool) : unA .not (.bool b) = some (.bool (!b)) := rfl
theorem neq0 (x : Nat) : ((x : Int) != 0) = decide (x ≠ 0) := by
  rw [Bool.eq_iff_iff]; simp
set_option maxHeartbeats 2000000 in
theorem check_eq (n d : Nat) (neg : Bool) (g : Gk) (l : List Nat) (hl : Limbs l) : evalFn Tryd.prog cfg0 n (d+1) 69 [.tree (encA neg g l)] = some (.tree (.bool (chkN neg l)), [[]]) := by
  rw [evalFn_go _ Tryd.func69 (by unfold Tryd.f69; rfl) (by unfold Tryd.f69; decide) (Nat.le_of_ble_eq_true (by unfold Tryd.f69; rfl)) (by kernel_rfl)]
  unfold chkN
  by_cases h : (l.length : Int) ≤ 12
  rotate_left
  · have e1 : decide (l.length ≤ 12) = false := decide_eq_false (by omega)
    simp only [simB, zbo, Nat.reduceBEq, own0, ↓reduceIte, Nat.reduceEqDiff, Nat.reduceAdd, simA, simL, simN, Nat.zero_add, st0_1, h, e1, Bool.false_and]
    exact finish_tree _ _ _ _ _ _ (.bool false) _ _ (by simp only [zfk, ↓reduceIte]) rfl rfl
  have e1 : decide (l.length ≤ 12) = true := decide_eq_true (by omega)
  by_cases hz : l = []
  · subst hz
    have p1 : (((([] : List Nat).length : Nat) : Int) == 0) = true := rfl
    cases neg with
    | false =>
      simp only [simB, zbo, Nat.reduceBEq, own0, ↓reduceIte, Nat.reduceEqDiff, Nat.reduceAdd, simA, simL, simN, Nat.zero_add, st0_1, h, p1, unA_not', Bool.not_false]
      exact finish_tree _ _ _ _ _ _ (.bool true) _ _ (by simp only [zfk, ↓reduceIte]) rfl rfl
    | true =>
      have p2 : ¬ ((([] : List Nat).length : Nat) : Int) > 0 := by simp
      simp only [simB, zbo, Nat.reduceBEq, own0, ↓reduceIte, Nat.reduceEqDiff, Nat.reduceAdd, simA, simL, simN, Nat.zero_add, st0_1, h, p1, p2, unA_not', Bool.not_true]
      exact finish_tree _ _ _ _ _ _ (.bool false) _ _ (by simp only [zfk, ↓reduceIte]) rfl rfl
  · have hp : 0 < l.length := List.length_pos_iff.mpr hz
    have p1 : ((l.length : Int) == 0) = false := by rw [beq_eq_false_iff_ne]; omega
    have p2 : (l.length : Int) > 0 := by omega
    have p3 := i_sub Tryd.prog 3 (l.length : Int) 1 (by omega) (by omega)
    have p4 : (0 : Int) ≤ (l.length : Int) - 1 := by omega
    have p5 : (l.length : Int) - 1 < l.length := by omega
    have p6 : ((l.length : Int) - 1).toNat = l.length - 1 := by omega
    have p7 : l.length - 1 < l.length := by omega
    have q1 : decide (l.length = 0) = false := decide_eq_false (by omega)
    have q2 : decide (0 < l.length) = true := decide_eq_true hp
    simp only [simB, zbo, Nat.reduceBEq, own0, ↓reduceIte, Nat.reduceEqDiff, Nat.reduceAdd, simA, simL, simN, Nat.zero_add, st0_1, h, p1, p2, p3, p4, p5, p6, p7, e1, q1, q2, neq0, Bool.false_and, Bool.false_or, Bool.true_and]
    exact finish_tree _ _ _ _ _ _ (.bool (decide (l.getD (l.length - 1) 0 ≠ 0))) _ _ (by simp only [zfk, ↓reduceIte]) rfl rfl
end Go.Ab

/- Plain code, walked inside a fence (in a round of a range over a function): where the abstract run answers, the walk goes on. No conditions. -/
namespace Go.Ab
section
variable {P : Program} {cfg : Cfg} {call : FuncId → List Arg → Option Out}

def plainOp : Op → Bool
  | .move _ | .assign _ | .alloc _ | .box .. | .load .. | .store .. | .build .. | .buildSlice .. | .binOp .. | .unOp .. | .indexAddr .. => true
  | .call c => match c.callee with
    | .builtin .len => true
    | _ => false
  | _ => false
def resPlain : Result Next → Prop
  | .ok (.value _) _ => True
  | .ok .skip _ => True
  | .ok _ _ => False
  | .halt _ _ => True
theorem resPlain_val {m : Sem Value} (w : World) : resPlain ((do pure (Next.value (← m)) : Sem Next).run P w) := by
  rw [Sem.run_bind]
  cases m.run P w <;> simp [Result.andThen, resPlain]
theorem plain_res {o : Oper} {ρ : Operand → Value} (h : plainOp o.op = true) (w : World) : resPlain ((execOp ρ o).run P w) := by
  unfold plainOp at h
  split at h
  all_goals try (rename_i hop; simp only [execOp, hop]; first | exact resPlain_val w | (exact trivial) | (rw [Sem.run_pure]; exact trivial))
  · rename_i a b c hop
    simp only [execOp, hop, Sem.run_bind]
    cases (Instr.storeAt a (ρ b) (ρ c)).run P w <;> simp [Result.andThen, resPlain]
  · rename_i c hop
    split at h
    · rename_i hc
      have hb : execOp ρ o = (do pure (.value (← Builtin.len_ c.argTypes o.type (c.args.map ρ)))) := by
        simp only [execOp, hop, resolve, hc]
        rfl
      rw [hb]
      exact resPlain_val w
    · cases h
  · cases h
theorem OpTo.inF {o : Oper} {a : Act} {Γ : G} {s' : St} {r : AV} (h : OpTo P o a Γ s' r) (hp : plainOp o.op = true) {F : Fence} (hF : ∀ f, F.fn f) {n : Nat} {next : Act → World → Prop} {Q : Exit → Act → World → Prop}
    (hn : ∀ Γ' v, Γ'.s = s' → Inv Γ' → Ext Γ Γ' → V Γ' r v → next (a.put o.dst v) Γ'.w) : o.wpIn F n P a Γ.w next Q := by
  have h0 := h next (fun _ _ _ => False) hn
  unfold Oper.wp at h0
  unfold Oper.wpIn
  refine ⟨fun f _ => hF f, ?_⟩
  rw [Oper.semAt_plain F _ _ (by intro c hc; rw [hc] at hp; cases hp)]
  have hr := plain_res (P := P) (ρ := a.eval) hp Γ.w
  revert h0 hr
  generalize (execOp a.eval o).run P Γ.w = x
  cases x with
  | ok x w => cases x <;> simp [resPlain, Oper.upon, Oper.uponIn]
  | halt x w => cases x <;> simp [Oper.upon]
structure EnvV (Γ : G) (env : Env) (a : Act) (m : Nat) : Prop where
  size : a.tmps.size = m
  val : ∀ t, V Γ (env t) (a.tmps.getD t undef)
theorem EnvV.put {Γ Γ' : G} {env : Env} {a : Act} {m : Nat} (h : EnvV Γ env a m) (hE : Ext Γ Γ') {d : Option Tmp} (hd : ∀ x, d = some x → x < m) {r : AV} {v : Value} (hv : V Γ' r v) : EnvV Γ' (setO env d r) (a.put d v) m := by
  obtain ⟨_, h2⟩ := put_tmps a d v
  refine ⟨h2.trans h.size, fun t => ?_⟩
  cases d with
  | none => exact V.ext hE (h.val t)
  | some d =>
    rw [put_get a d v t (by rw [h.size]; exact hd d rfl)]
    simp only [setO]
    by_cases ht : t = d
    · subst ht; simp only [upd_same, if_true]; exact hv
    · rw [upd_ne _ _ ht, if_neg ht]; exact V.ext hE (h.val t)
theorem opsA_in (hcall : FnOk P call) {F : Fence} (hF : ∀ f, F.fn f) {n : Nat} {ops : Array Oper} {rest : List Oper} {Q : Exit → Act → World → Prop} {m : Nat} : ∀ (l : List Oper) (env : Env) (Γ : G) (a : Act) (env' : Env) (s' : St),
    (∀ o ∈ l, plainOp o.op = true) → (∀ o ∈ l, ∀ d, o.dst = some d → d < m) → opsA P cfg call false ops l env Γ.s = some (env', s') → Inv Γ → EnvV Γ env a m →
    (∀ Γ' a', Γ'.s = s' → Inv Γ' → Ext Γ Γ' → EnvV Γ' env' a' m → a'.defers = a.defers → wpListIn F n P ops Q rest a' Γ'.w) → wpListIn F n P ops Q (l ++ rest) a Γ.w
  | [], env, Γ, a, env', s', _, _, h, hI, he, hQ => by
    simp only [opsA, Option.some.injEq, Prod.mk.injEq] at h
    obtain ⟨rfl, rfl⟩ := h
    exact hQ Γ a rfl hI (.refl _) he rfl
  | o :: l, env, Γ, a, env', s', hp, hd, h, hI, he, hQ => by
    have hd1 : ∀ x, o.dst = some x → x < m := hd o (List.mem_cons_self ..)
    have hd2 : ∀ o' ∈ l, ∀ d, o'.dst = some d → d < m := fun o' ho' => hd o' (List.mem_cons_of_mem _ ho')
    have hp1 := hp o (List.mem_cons_self ..)
    have hp2 : ∀ o' ∈ l, plainOp o'.op = true := fun o' ho' => hp o' (List.mem_cons_of_mem _ ho')
    have hwant : ∀ b, wantA ops o env = some b → Region.wanted o (yielded ops a.tmps) = b := fun b hb => wantA_ok hb fun _ _ d _ _ => he.val d
    simp only [opsA] at h
    rw [List.cons_append]
    refine wpListIn_step fun K hK => ?_
    split at h
    · rename_i hw
      rw [hwant true hw]
      simp only [if_true]
      simp only [Option.bind_eq_some_iff] at h
      obtain ⟨⟨r, s1⟩, hop, h⟩ := h
      have hop' := opA_ok hcall hI (a := a) (fun x _ => V_ev he.val x) hop
      refine hop'.inF hp1 hF fun Γ' v hs' hI' hE' hv => hK _ _ ?_
      rw [← hs'] at h
      exact opsA_in hcall hF l _ Γ' _ env' s' hp2 hd2 h hI' (he.put hE' hd1 hv) fun Γ'' a'' h1 h2 h3 h4 h5 => hQ Γ'' a'' h1 h2 (hE'.trans h3) h4 (h5.trans (put_tmps a o.dst v).1)
    · rename_i hw
      rw [hwant false hw]
      simp only [Bool.false_eq_true, if_false]
      refine ⟨fun f _ => hF f, hK _ _ ?_⟩
      exact opsA_in hcall hF l _ Γ _ env' s' hp2 hd2 h hI (he.put (.refl _) hd1 undef_tup) fun Γ'' a'' h1 h2 h3 h4 h5 => hQ Γ'' a'' h1 h2 h3 h4 (h5.trans (put_tmps a o.dst undef).1)
    · cases h
def plainC : Code → Bool
  | .region _ ops draw => !draw && ops.toList.all fun o => plainOp o.op
  | .seq a b => plainC a && plainC b
  | .cond _ a b => plainC a && plainC b
  | .block _ a => plainC a
  | .skip | .exit _ | .ret => true
  | _ => false
theorem den_in (hcall : FnOk P call) {F : Fence} (hF : ∀ f, F.fn f) {n N m : Nat} {out : Out} : ∀ (c : Code) (K : Kont) (env : Env) (Γ : G) (a : Act) (Q : Exit → Act → World → Prop), plainC c = true → dstOk cfg.keep m c = true → den P cfg call N c K env Γ.s = some out → Inv Γ → EnvV Γ env a m →
    (∀ ex env' Γ' a', K ex env' Γ'.s = some out → Inv Γ' → Ext Γ Γ' → EnvV Γ' env' a' m → a'.defers = a.defers → Q (exOf ex) a' Γ'.w) → c.wpIn F n P Q a Γ.w := by
  intro c
  induction c with
  | skip => intro K env Γ a Q _ _ h hI he hQ; exact wpIn_skip (hQ .normal env Γ a h hI (.refl _) he rfl)
  | exit id => intro K env Γ a Q _ _ h hI he hQ; exact wpIn_exit (hQ (.exit id) env Γ a h hI (.refl _) he rfl)
  | ret => intro K env Γ a Q _ _ h hI he hQ; exact wpIn_ret (hQ .ret env Γ a h hI (.refl _) he rfl)
  | region id ops draw =>
    intro K env Γ a Q hp hd h hI he hQ
    simp only [plainC, Bool.and_eq_true, Bool.not_eq_true', List.all_eq_true] at hp
    obtain ⟨rfl, hp⟩ := hp
    simp only [den, Option.bind_eq_some_iff, killI] at h
    obtain ⟨⟨env', s'⟩, h1, h2⟩ := h
    simp only [dstOk, Bool.and_eq_true] at hd
    have hd1 : ∀ o ∈ ops.toList, ∀ d, o.dst = some d → d < m := fun o ho d hdd => by
      have := List.all_eq_true.1 hd.1 o ho
      rw [hdd] at this
      simpa using this
    refine wpIn_region_list ?_
    rw [← List.append_nil ops.toList]
    refine opsA_in hcall hF ops.toList env Γ a env' s' hp hd1 h1 hI he fun Γ' a' g1 g2 g3 g4 g5 => wpListIn_nil (hQ .normal env' Γ' a' ?_ g2 g3 g4 g5)
    rw [g1]; exact h2
  | seq x y ihx ihy =>
    intro K env Γ a Q hp hd h hI he hQ
    simp only [dstOk, Bool.and_eq_true] at hd
    simp only [plainC, Bool.and_eq_true] at hp
    simp only [den] at h
    refine wpIn_seq (ihx _ env Γ a _ hp.1 hd.1 h hI he fun ex env' Γ' a' g1 g2 g3 g4 g5 => ?_)
    cases ex with
    | normal => exact ihy K env' Γ' a' Q hp.2 hd.2 g1 g2 g4 fun ex2 env2 Γ2 a2 k1 k2 k3 k4 k5 => hQ ex2 env2 Γ2 a2 k1 k2 (g3.trans k3) k4 (k5.trans g5)
    | exit id => exact hQ (.exit id) env' Γ' a' g1 g2 g3 g4 g5
    | ret => exact hQ .ret env' Γ' a' g1 g2 g3 g4 g5
  | cond c x y ihx ihy =>
    intro K env Γ a Q hp hd h hI he hQ
    simp only [dstOk, Bool.and_eq_true] at hd
    simp only [plainC, Bool.and_eq_true] at hp
    simp only [den] at h
    have hV := V_ev he.val c
    split at h
    · rename_i hc
      rw [hc, V_bool] at hV
      exact wpIn_cond_true hV (ihx K env Γ a Q hp.1 hd.1 h hI he hQ)
    · rename_i hc
      rw [hc, V_bool] at hV
      exact wpIn_cond_false hV (ihy K env Γ a Q hp.2 hd.2 h hI he hQ)
    · cases h
  | block id x ih =>
    intro K env Γ a Q hp hd h hI he hQ
    simp only [dstOk] at hd
    simp only [plainC] at hp
    simp only [den] at h
    refine wpIn_block (ih _ env Γ a _ hp hd h hI he fun ex env' Γ' a' g1 g2 g3 g4 g5 => ?_)
    cases ex with
    | normal => exact hQ .normal env' Γ' a' g1 g2 g3 g4 g5
    | exit i =>
      simp only [exOf, Exit.inBlock]
      dsimp only at g1
      split at g1
      · rename_i hi; rw [if_pos hi]; exact hQ .normal env' Γ' a' g1 g2 g3 g4 g5
      · rename_i hi; rw [if_neg hi]; exact hQ (.exit i) env' Γ' a' g1 g2 g3 g4 g5
    | ret => exact hQ .ret env' Γ' a' g1 g2 g3 g4 g5
  | _ => intro K env Γ a Q hp; cases hp

theorem blk_cells {w : World} {a : Addr} {v : Value} (h : w.cell? a = some v) : ∃ o, w.heap[a.block]? = some o ∧ o.isCells = true := by
  obtain ⟨o, ho, hc⟩ := cells_of_cell h
  exact ⟨o, ho, hc⟩
def Solid (s : St) : Prop := ∀ p, (s p).c = .dead ∨ ∃ x xs, (s p).c = .buf (x :: xs)
theorem Inv.grown {Γ1 Γ : G} {B : Nat} (hI : Inv Γ) (hE : Ext Γ1 Γ) (hB : Γ1.w.heap.size ≤ B) (hS : ∀ b o, Γ.S b o → b < B ∨ ∃ v, Γ.w.cell? ⟨b, o, none⟩ = some v) (hR : Solid Γ.s)
    {W' : World} {row : Option Nat} (hg : Γ.w.grownBy W' row) (hr : ∀ r, row = some r → B ≤ r ∧ ∃ o : Obj, Γ.w.heap[r]? = some o ∧ o.isCells = false) :
    Inv { Γ with w := W' } ∧ Ext Γ1 { Γ with w := W' } ∧ ∀ b o, Γ.S b o → b < B ∨ ∃ v, W'.cell? ⟨b, o, none⟩ = some v := by
  have hrow : ∀ r, row = some r → ∃ o : Obj, Γ.w.heap[r]? = some o ∧ o.isCells = false := fun r h => (hr r h).2
  have hlow : ∀ b, b < B → b < Γ.w.heap.size → W'.heap[b]? = Γ.w.heap[b]? := fun b hb hs => hg.block b hs fun e => by
    have := (hr b e.symm).1
    omega
  have hsz : Γ.w.heap.size ≤ W'.heap.size := hg.size
  have hcell : ∀ b o, Γ.S b o → W'.cell? ⟨b, o, none⟩ = Γ.w.cell? ⟨b, o, none⟩ := fun b o h => by
    rcases hS b o h with h1 | ⟨v, h1⟩
    · exact cell_of_block (hlow b h1 (hI.stay b o h).1) o
    · rw [h1]; exact cell_kept h1 hg hrow
  have hst : Stays Γ.S Γ.w Γ.S W' := fun b o h => ⟨h, hcell b o h⟩
  have hnm : ∀ p t xs hs, Γ.s p ≠ ⟨t, .mix xs hs⟩ := fun p t xs hs h => by
    rcases hR p with h' | ⟨_, _, h'⟩ <;> rw [h] at h' <;> cases h'
  refine ⟨⟨⟨fun p => ?_, hI.apart, fun b o h => ⟨Nat.lt_of_lt_of_le (hI.stay b o h).1 hsz, (hI.stay b o h).2⟩⟩, fun p t xs hs h => absurd h (hnm p t xs hs)⟩, ⟨hE.stays.trans hst, hg.os.trans hE.os, hg.tape.trans hE.tape, hg.output.trans hE.output, Nat.le_trans hE.size hsz, fun b hb hn => ?_, fun b o hb hn => ?_, fun b o hb hn => ?_, hE.newS, hE.newR, hE.ser, hE.bf, hE.tk⟩, fun b o h => ?_⟩
  · have he := hI.ent p
    unfold EntOk at he ⊢
    dsimp only
    rcases hR p with h | ⟨x, xs, h⟩
    · rw [h]; trivial
    · rw [h] at he ⊢
      simp only [EntC] at he ⊢
      obtain ⟨v0, hv0, _⟩ := he.2.2.1 0 x rfl
      obtain ⟨ob, ho, hc⟩ := blk_cells hv0
      have hb : W'.heap[(Γ.φ p).blk]? = Γ.w.heap[(Γ.φ p).blk]? := grownBy_keeps_cells hg hrow ho hc
      refine ⟨Nat.lt_of_lt_of_le he.1 hsz, fun o => by rw [frozen_of_block hb]; exact he.2.1 o, fun i x hx => ?_, fun i hi => ?_⟩
      · obtain ⟨v, g1, g2, g3⟩ := he.2.2.1 i x hx
        exact ⟨v, by rw [cell_of_block hb]; exact g1, g2, V0.mono hst _ _ g3⟩
      · obtain ⟨v, g1⟩ := he.2.2.2 i hi
        exact ⟨v, by rw [cell_of_block hb]; exact g1⟩
  · exact (hlow b (by omega) (Nat.lt_of_lt_of_le hb hE.size)).trans (hE.block b hb hn)
  · exact (cell_of_block (hlow b (by omega) (Nat.lt_of_lt_of_le hb hE.size)) o).trans (hE.cell b o hb hn)
  · exact (frozen_of_block (hlow b (by omega) (Nat.lt_of_lt_of_le hb hE.size)) o).trans (hE.frzn b o hb hn)
  · rcases hS b o h with h1 | ⟨v, h1⟩
    · exact .inl h1
    · exact .inr ⟨v, cell_kept h1 hg hrow⟩
theorem others_of_ext {Γ Γ' : G} (hI : Inv Γ) (hR : Solid Γ.s) (hE : Ext Γ Γ') : KeepsOthers Γ.w Γ'.w := by
  refine ⟨hE.size, fun k o hk ho => ?_⟩
  have hlt : k < Γ.w.heap.size := (Array.getElem?_eq_some_iff.1 hk).1
  rw [hE.block k hlt fun p q hr => ?_]
  · exact hk
  · rcases hR p with h | ⟨x, xs, h⟩
    · unfold Rg at hr; rw [h] at hr; exact hr
    · unfold Rg at hr; rw [h] at hr
      have he := hI.ent p
      unfold EntOk at he
      rw [h] at he
      obtain ⟨v0, hv0, _⟩ := he.2.2.1 0 x rfl
      obtain ⟨ob, ho', hc⟩ := blk_cells hv0
      dsimp only at ho'
      rw [← hr, hk] at ho'
      cases ho'
      rw [ho] at hc; cases hc
section
variable {S : Nat → Nat → Prop} {w : World}
def Here (S : Nat → Nat → Prop) (w : World) : Nat → Nat → Prop := fun b o => S b o ∧ ∃ v, w.cell? ⟨b, o, none⟩ = some v
mutual
theorem V0.here : ∀ (x : AV) (v : Value), V0 S w x v → V0 (Here S w) w x v
  | .undef, _, _ => by simp only [V0]
  | .int .., _, k => by simpa only [V0] using k
  | .bool _, _, k => by simpa only [V0] using k
  | .str _, _, k => by simpa only [V0] using k
  | .agg xs, v, k => by
    simp only [V0] at k ⊢
    obtain ⟨vs, hv, hl⟩ := k
    exact ⟨vs, hv, VL.here xs vs hl⟩
  | .tup xs, v, k => by
    simp only [V0] at k ⊢
    obtain ⟨vs, hv, hl⟩ := k
    exact ⟨vs, hv, VT.here xs vs hl⟩
  | .sl xs len g, v, k => by
    simp only [V0] at k ⊢
    obtain ⟨a, cap, hv, hl, hg, hk, hx⟩ := k
    refine ⟨a, cap, hv, hl, hg, hk, ?_⟩
    rcases hx with hx | ⟨b, o, ha, hc⟩
    · exact .inl hx
    · exact .inr ⟨b, o, ha, VC.here xs b o hc⟩
  | .own .., _, k => by simp only [V0] at k
  | .ptr .., _, k => by simp only [V0] at k
  | .rptr xs, v, k => by
    simp only [V0] at k ⊢
    obtain ⟨b, o, hv, hc⟩ := k
    exact ⟨b, o, hv, VC.here xs b o hc⟩
  | .nilp, _, k => by simpa only [V0] using k
  | .fn f xs, v, k => by
    simp only [V0] at k ⊢
    obtain ⟨vs, hv, hl⟩ := k
    exact ⟨vs, hv, VT.here xs vs hl⟩
  | .iface t x, v, k => by
    simp only [V0] at k ⊢
    obtain ⟨u, hv, hl⟩ := k
    exact ⟨u, hv, V0.here x u hl⟩
  | .nili, _, k => by simpa only [V0] using k
theorem VL.here : ∀ (xs : List AV) (vs : List Value), VL S w xs vs → VL (Here S w) w xs vs
  | [], _, k => by simpa only [VL] using k
  | x :: xs, vs, k => by
    simp only [VL] at k ⊢
    obtain ⟨v, r, hv, ho, h0, hr⟩ := k
    exact ⟨v, r, hv, ho, V0.here x v h0, VL.here xs r hr⟩
theorem VT.here : ∀ (xs : List AV) (vs : List Value), VT S w xs vs → VT (Here S w) w xs vs
  | [], _, k => by simpa only [VT] using k
  | x :: xs, vs, k => by
    simp only [VT] at k ⊢
    obtain ⟨v, r, hv, h0, hr⟩ := k
    exact ⟨v, r, hv, V0.here x v h0, VT.here xs r hr⟩
theorem VC.here : ∀ (xs : List AV) (b o : Nat), VC S w xs b o → VC (Here S w) w xs b o
  | [], _, _, _ => by simp only [VC]
  | x :: xs, b, o, k => by
    simp only [VC] at k ⊢
    obtain ⟨hs, ⟨v, hv, ho, h0⟩, hr⟩ := k
    exact ⟨⟨hs, v, hv⟩, ⟨v, hv, ho, V0.here x v h0⟩, VC.here xs b (o + 1) hr⟩
end
theorem Stays.sub {S' : Nat → Nat → Prop} (h : ∀ b o, S b o → S' b o) : Stays S w S' w := fun b o hs => ⟨h b o hs, rfl⟩
end

open Classical in
noncomputable def capK (φ : Ex → Env → St → Prop) : Kont := fun e env s => if φ e env s then some (.tree .undef, []) else none
theorem capK_of {φ : Ex → Env → St → Prop} {e : Ex} {env : Env} {s : St} (h : φ e env s) : capK φ e env s = some (.tree .undef, []) := by unfold capK; rw [if_pos h]
theorem of_capK {φ : Ex → Env → St → Prop} {e : Ex} {env : Env} {s : St} {o : Out} (h : capK φ e env s = some o) : φ e env s := by
  unfold capK at h
  split at h
  · assumption
  · cases h
theorem den_cap (hcall : FnOk P call) {F : Fence} (hF : ∀ f, F.fn f) {n N m : Nat} (φ : Ex → Env → St → Prop) {c : Code} {env : Env} {Γ : G} {a : Act} {Q : Exit → Act → World → Prop} (hp : plainC c = true) (hd : dstOk cfg.keep m c = true)
    (h : den P cfg call N c (capK φ) env Γ.s = some (.tree .undef, [])) (hI : Inv Γ) (he : EnvV Γ env a m)
    (hQ : ∀ ex env' Γ' a', φ ex env' Γ'.s → Inv Γ' → Ext Γ Γ' → EnvV Γ' env' a' m → a'.defers = a.defers → Q (exOf ex) a' Γ'.w) : c.wpIn F n P Q a Γ.w :=
  den_in hcall hF c (capK φ) env Γ a Q hp hd h hI he fun ex env' Γ' a' h1 h2 h3 h4 h5 => hQ ex env' Γ' a' (of_capK h1) h2 h3 h4 h5

def lookOp : Op → Bool
  | .move _ | .assign _ | .load .. | .binOp .. | .unOp .. | .indexAddr .. => true
  | .call c => match c.callee with
    | .builtin .len => true
    | _ => false
  | _ => false
theorem opA_look {o : Oper} {d : Nat} {env : Env} {Γ : G} {a : Act} {r : AV} {s' : St} (hl : lookOp o.op = true) (hI : Inv Γ) (hev : OpsOk Γ env a o) (h : opA P cfg call false o d env Γ.s = some (r, s')) :
    s' = Γ.s ∧ ∃ v, (execOp a.eval o).run P Γ.w = .ok (.value v) Γ.w ∧ V Γ r v := by
  have fin : ∀ {m : Sem Value} {r : AV}, execOp a.eval o = (do pure (.value (← m))) → PureOk P m Γ r → ∃ v, (execOp a.eval o).run P Γ.w = .ok (.value v) Γ.w ∧ V Γ r v := by
    rintro m r hex ⟨v, h1, h2⟩
    exact ⟨v, by rw [hex, Sem.run_bind, h1]; rfl, h2⟩
  unfold OpsOk at hev
  unfold lookOp at hl
  unfold opA at h
  dsimp only at h
  split at h
  · rename_i x hop
    cases h
    rw [hop] at hev
    exact ⟨rfl, _, by simp only [execOp, hop]; rfl, hev x (by simp [Op.operands])⟩
  · rename_i x hop
    cases h
    rw [hop] at hev
    exact ⟨rfl, _, by simp only [execOp, hop]; rfl, hev x (by simp [Op.operands])⟩
  · rename_i hop; rw [hop] at hl; cases hl
  · rename_i op t x y yt hop
    rw [hop] at hev
    obtain ⟨r', hr, e⟩ := map_some h
    cases e
    exact ⟨rfl, fin (by simp only [execOp, hop]) (binA_ok hr (hev x (by simp [Op.operands])) (hev y (by simp [Op.operands])) x y)⟩
  · rename_i op t x hop
    rw [hop] at hev
    obtain ⟨r', hr, e⟩ := map_some h
    cases e
    exact ⟨rfl, fin (by simp only [execOp, hop]) (unA_ok hr (hev x (by simp [Op.operands])))⟩
  · rename_i hop; rw [hop] at hl; cases hl
  · rename_i hop; rw [hop] at hl; cases hl
  · rename_i t x hop
    rw [hop] at hev
    obtain ⟨r', hr, e⟩ := map_some h
    cases e
    exact ⟨rfl, fin (by simp only [execOp, hop]) (loadA_ok hI hr (hev x (by simp [Op.operands])))⟩
  · rename_i hop; rw [hop] at hl; cases hl
  · rename_i hop; rw [hop] at hl; cases hl
  · rename_i hop; rw [hop] at hl; cases hl
  · rename_i t x i hop
    rw [hop] at hev
    obtain ⟨r', hr, e⟩ := map_some h
    cases e
    exact ⟨rfl, fin (by simp only [execOp, hop]) (indexAddrA_ok hr (hev x (by simp [Op.operands])) (hev i (by simp [Op.operands])))⟩
  · rename_i hop; rw [hop] at hl; cases hl
  · rename_i hop; rw [hop] at hl; cases hl
  · rename_i hop; rw [hop] at hl; cases hl
  · rename_i hop; rw [hop] at hl; cases hl
  · rename_i hop; rw [hop] at hl; cases hl
  · rename_i hop; rw [hop] at hl; cases hl
  · rename_i hop; rw [hop] at hl; cases hl
  · rename_i hop; rw [hop] at hl; cases hl
  · rename_i hop; rw [hop] at hl; cases hl
  · rename_i c hop
    rw [hop] at hev hl
    dsimp only at hl
    have hargs : ∀ x ∈ c.args.toList, V Γ (ev env x) (a.eval x) := fun x hx => hev x (by
      simp only [Op.operands, Call.operands, Array.mem_append]; exact .inr (Array.mem_def.2 hx))
    split at h
    · rename_i hb
      split at h
      · rename_i x t hx ht
        obtain ⟨r', hr, e⟩ := map_some h
        cases e
        refine ⟨rfl, fin (builtinOp (m := Builtin.len_ c.argTypes o.type (c.args.map a.eval)) hop hb rfl) ?_⟩
        have : c.args.map a.eval = #[a.eval x] := by apply Array.ext'; simp [hx]
        rw [this]
        exact lenA_ok hr (hargs x (by rw [hx]; simp)) _ _ ht
      · cases h
    all_goals first
      | (cases h; done)
      | (split at hl
         · simp_all
         · cases hl)
  · cases h
theorem opsA_look {F : Fence} (hF : ∀ f, F.fn f) {n : Nat} {ops : Array Oper} {rest : List Oper} {Q : Exit → Act → World → Prop} {m : Nat} {Γ : G} (hI : Inv Γ) : ∀ (l : List Oper) (env : Env) (a : Act) (env' : Env) (s' : St),
    (∀ o ∈ l, lookOp o.op = true ∧ o.guard = none) → (∀ o ∈ l, ∀ d, o.dst = some d → d < m) → opsA P cfg call false ops l env Γ.s = some (env', s') → EnvV Γ env a m →
    (∀ a', EnvV Γ env' a' m → a'.defers = a.defers → (∀ t, (∀ o ∈ l, o.dst ≠ some t) → a'.tmps.getD t undef = a.tmps.getD t undef) → wpListIn F n P ops Q rest a' Γ.w) → wpListIn F n P ops Q (l ++ rest) a Γ.w
  | [], env, a, env', s', _, _, h, he, hQ => by
    simp only [opsA, Option.some.injEq, Prod.mk.injEq] at h
    obtain ⟨rfl, rfl⟩ := h
    exact hQ a he rfl fun _ _ => rfl
  | o :: l, env, a, env', s', hp, hd, h, he, hQ => by
    have hd1 : ∀ x, o.dst = some x → x < m := hd o (List.mem_cons_self ..)
    have hp1 := hp o (List.mem_cons_self ..)
    simp only [opsA, wantA, hp1.2, Option.bind_eq_some_iff] at h
    obtain ⟨⟨r, s1⟩, hop, h⟩ := h
    rw [List.cons_append]
    refine wpListIn_plain hp1.2 fun K hK => ?_
    obtain ⟨rfl, v, hv1, hv2⟩ := opA_look hp1.1 hI (a := a) (fun x _ => V_ev he.val x) hop
    refine ⟨fun f _ => hF f, ?_⟩
    rw [Oper.semAt_plain F _ _ (by intro c hc; have := hp1.1; rw [hc] at this; cases this), hv1]
    refine hK _ _ ?_
    refine opsA_look hF hI l _ _ env' s' (fun o' ho' => hp o' (List.mem_cons_of_mem _ ho')) (fun o' ho' => hd o' (List.mem_cons_of_mem _ ho')) h (he.put (.refl _) hd1 hv2) fun a'' h4 h5 h6 => hQ a'' h4 (h5.trans (put_tmps a o.dst v).1) fun t ht => ?_
    rw [h6 t fun o' ho' => ht o' (List.mem_cons_of_mem _ ho')]
    have hot := ht o (List.mem_cons_self ..)
    cases hdst : o.dst with
    | none => rfl
    | some d => rw [put_get a d v t (by rw [he.size]; exact hd1 d hdst), if_neg (fun e => hot (by rw [hdst, e]))]
theorem ops1_cap {q : Bool} {all : Array Oper} {l : List Oper} {φ : Ex → Env → St → Prop} {env : Env} {s : St} {o : Out} (h : ops1 P cfg call q all l (capK φ) env s = some o) : ∃ env' s', opsA P cfg call q all l env s = some (env', s') ∧ φ .normal env' s' := by
  unfold ops1 at h
  simp only [Option.bind_eq_some_iff] at h
  obtain ⟨⟨env', s'⟩, h1, h2⟩ := h
  exact ⟨env', s', h1, of_capK h2⟩
theorem callInF {o : Oper} {a : Act} {w : World} {c : Call} {fo : Operand} {n : Nat} (ho : o.op = .call c) (hc : c.callee = .value fo) {f : FuncId} {caps : List Value} (hf : a.eval fo = .func (.func f) #[] caps.toArray)
    {fn : Func} {cd : Code} (h1 : P.funcs[f]? = some fn) (h2 : fn.name ≠ "runtime.NumGoroutine") (h3 : fn.body = some cd) {R : Ending → World → Prop} (hC : Calls P f (c.args.toList.map a.eval ++ caps).toArray w R)
    {next : Act → World → Prop} {Q : Exit → Act → World → Prop} (hR : ∀ e w', R e w' → ∃ v, e = .returned v ∧ next (a.put o.dst v) w') : o.wpIn Fence.wide n P a w next Q := by
  have hrun : (execOp a.eval o).run P w = .ok (.enter f (c.args.toList.map a.eval ++ caps).toArray) w := by
    have hne : (fn.name == "runtime.NumGoroutine") = false := by simpa using h2
    have hargs : c.args.map a.eval ++ caps.toArray = (c.args.toList.map a.eval ++ caps).toArray := by
      apply Array.ext'; simp
    simp only [execOp, ho, resolve, hc, Sem.run_bind, Deferred.ofValue, hf, Sem.run_pure, Result.andThen_ok, invoke, callFunc, run_program, h1, hne, h3, Option.isNone_some, Bool.false_eq_true, if_false, Array.empty_append, hargs]
  refine ⟨fun f _ => trivial, ?_⟩
  rw [Oper.semAt_plain _ _ _ (by intro c hc; rw [hc] at ho; cases ho), hrun]
  refine ⟨fun h => (by cases h), (callsIn_wide.2 hC).mono fun e w' hr => ?_⟩
  obtain ⟨v, rfl, hn⟩ := hR e w' hr
  exact hn
theorem roundInF {o : Oper} {a : Act} {w : World} {c : Call} {fo : Operand} {n l : Nat} (ho : o.op = .call c) (hc : c.callee = .value fo) (hf : a.eval fo = .func (.yield l) #[] #[])
    {R : Ending → World → Prop} (hY : YieldAt Fence.wide (n - 1) P l (c.args.toList.map a.eval).toArray w R)
    {next : Act → World → Prop} {Q : Exit → Act → World → Prop} (hR : ∀ e w', R e w' → ∃ v, e = .returned v ∧ next (a.put o.dst v) w') : o.wpIn Fence.wide n P a w next Q := by
  obtain ⟨fn, tmps, assign, body, hy, hr⟩ := hY
  have hrun : (execOp a.eval o).run P w = .ok (.round l fn tmps assign body) w := by
    have hargs : c.args.map a.eval = (c.args.toList.map a.eval).toArray := by
      apply Array.ext'; simp
    simp only [execOp, ho, resolve, hc, Sem.run_bind, Deferred.ofValue, hf, Sem.run_pure, Result.andThen_ok, invoke, Array.empty_append]
    rw [hargs]
    exact hy
  refine ⟨fun f _ => trivial, ?_⟩
  rw [Oper.semAt_plain _ _ _ (by intro c hc; rw [hc] at ho; cases ho), hrun]
  refine ⟨fun h => (by cases h), hr.mono fun e w' hr => ?_⟩
  obtain ⟨v, rfl, hn⟩ := hR e w' hr
  exact hn
end
end Go.Ab
