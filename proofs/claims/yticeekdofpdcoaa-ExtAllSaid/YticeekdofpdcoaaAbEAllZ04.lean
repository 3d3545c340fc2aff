/- Several texts put together: AbeL8, AbM6, AbeL9, AbM7, AbeL10, AbM8, AbeLg, AbMn1, AbeA1, AbFe, AbeLs, AbeSh, AbeLawB, AbeLawN, AbeA2, AbeA3, AbeA4, AbeA5, AbeA6, AbMn2, AbeA7a, AbeA7. Conditions: as each part says. -/
import Derived.Test.YticeekdofpdcoaaAbEAllZ03
import Derived.LoopNIn
import Derived.TacticsIn
import Derived.OwnWalkIn
import Derived.RangeFuncFrom
import Derived.RangeFuncLeaves
import Derived.WalkKit
import Derived.TacticsInMore
import Derived.RangeFuncNested
import Derived.Test.YticeekdofpdcoaaProg
import Derived.KernelRfl
import Derived.ProofKit
import Derived.OpenShut
/- What the program's Shl, Shr compute. Conditions: limbs in range, not too many. -/
namespace Go.Ab
open Go.Proofs
set_option maxRecDepth 100000
set_option linter.unusedSimpArgs false

theorem i_quo (P : Program) (t : TypeId) (a b : Nat) (hb : 0 < b) (ha : a ≤ 9223372036854775807) : binA P .quo t (.int .i64 (a : Int)) (.int .i64 (b : Int)) = some (.int .i64 ((a / b : Nat) : Int)) := by
  have h1 : (a : Int).tdiv (b : Int) = ((a / b : Nat) : Int) := by rw [Int.tdiv_eq_ediv_of_nonneg (by omega)]; exact (Int.natCast_ediv a b).symm
  have h2 : a / b ≤ a := Nat.div_le_self _ _
  simp only [binA, intA, if_true]
  rw [if_neg (by omega), h1]
  generalize a / b = q at *
  rw [i64_wrap _ (by omega) (by omega)]
theorem i_rem (P : Program) (t : TypeId) (a b : Nat) (hb : 0 < b) : binA P .rem t (.int .i64 (a : Int)) (.int .i64 (b : Int)) = some (.int .i64 ((a % b : Nat) : Int)) := by
  simp only [binA, intA, if_true]
  rw [if_neg (by omega), Int.tmod_eq_emod_of_nonneg (by omega)]
  rfl
theorem st31 (s : St) (p t : Nat) (o : List Nat) (i x : Nat) (h : s p = ⟨t, .buf (encC o)⟩) (hi : i < o.length) : storeA Try.prog 56 s (.ptr p t i) (.int .u32 (x : Int)) = some (upd s p ⟨t, .buf (encC (o.set i x))⟩) := by
  simp [storeA, settle, h, cellOk, esz31, encC_len, hi, encC_set]
theorem ia_own (s : St) (p t : Nat) (o : List Nat) (len : Nat) (k : IntKind) (z : Int) (h : s p = ⟨t, .buf (encC o)⟩) (h0 : 0 ≤ z) (h1 : z < len) : indexAddrA Try.prog 23 s (.own p t 0 len 1) (.int k z) = some (.ptr p t z.toNat) := by
  have : live s p t = true := by simp [live, cellsAt, h]
  simp only [indexAddrA, tk22, esz31, Option.bind_some, this, h0, h1, and_self, if_true, Nat.mul_one, Nat.zero_add]
theorem ld_own (s : St) (p t : Nat) (o : List Nat) (i : Nat) (h : s p = ⟨t, .buf (encC o)⟩) (hi : i < o.length) : loadA Try.prog 56 s (.ptr p t i) = some (.int .u32 ((o.getD i 0 : Nat) : Int)) := by
  simp only [loadA, ldC, h, if_true, Option.bind_some, partA, sh31]
  exact encC_get o i hi
end Go.Ab

/- Products limb by limb: plain arithmetic. -/
namespace Go.Ab
theorem digit (o : List Nat) (h : Limbs o) (j : Nat) : val o / B ^ j % B = o.getD j 0 := by
  rw [← val_drop o h, val_mod _ (h.drop j), List.getD_eq_getElem?_getD, List.getD_eq_getElem?_getD, List.getElem?_drop, Nat.add_zero]
theorem getD_set_ne (o : List Nat) (i j v : Nat) (h : i ≠ j) : (o.set i v).getD j 0 = o.getD j 0 := by
  rw [List.getD_eq_getElem?_getD, List.getD_eq_getElem?_getD, List.getElem?_set_ne h]
end Go.Ab

/- What the program's Mul computes. Conditions: limbs in range, not too many. -/
namespace Go.Ab
open Go.Proofs
set_option maxRecDepth 100000
set_option linter.unusedSimpArgs false

end Go.Ab

/- Quotients bit by bit: plain arithmetic. -/
namespace Go.Ab
theorem pow1 (k : Nat) : 2 ^ (k + 1) = 2 * 2 ^ k := by rw [Nat.pow_succ, Nat.mul_comm]
theorem bit_limb (l : List Nat) (h : Limbs l) (i : Nat) : l.getD (i / 32) 0 / 2 ^ (i % 32) % 2 = val l / 2 ^ i % 2 := by
  rw [← digit l h, B_pow]
  have e : val l / 2 ^ i = val l / 2 ^ (32 * (i / 32)) / 2 ^ (i % 32) := by
    rw [Nat.div_div_eq_div_mul, ← Nat.pow_add, Nat.div_add_mod]
  rw [e]
  generalize val l / 2 ^ (32 * (i / 32)) = V
  have hr : i % 32 < 32 := Nat.mod_lt _ (by decide)
  generalize i % 32 = r at *
  have hB : B = 2 ^ r * (2 * 2 ^ (31 - r)) := by
    rw [← pow1, ← Nat.pow_add, show r + (31 - r + 1) = 32 by omega]
  have h1 : V % B / 2 ^ r = V / 2 ^ r % (2 * 2 ^ (31 - r)) := by
    rw [hB, Nat.mod_mul_right_div_self]
  rw [h1, Nat.mod_mul_right_mod]
end Go.Ab

/- The calls of the program's number functions, upon any value that shows a number. Conditions: at most 1000 limbs. -/
namespace Go.Ab
open Go.Proofs
set_option maxRecDepth 100000
set_option linter.unusedSimpArgs false

def Sh (w : AV) (l : List Nat) : Prop := ∃ g, w = .sl (encC l) l.length g
theorem sh_L (b : Gk) (l : List Nat) : Sh (encL b l) l := ⟨_, rfl⟩
theorem Sh.arg {w : AV} {l : List Nat} (h : Sh w l) (f : FuncId) (s : St) (j : Nat) : ∃ b, argA cfg0 f s j w = some (.tree (encL b l)) := by
  obtain ⟨g, rfl⟩ := h
  cases g with
  | tight => exact ⟨.t, rfl⟩
  | loose => exact ⟨.l, rfl⟩
  | nil => exact ⟨.n, rfl⟩
  | tok p t => exact ⟨.l, rfl⟩
theorem Sh.gives {w : AV} {l : List Nat} (h : Sh w l) (v : AV) : givesOf w (.tree v) = none := by
  obtain ⟨g, rfl⟩ := h
  cases g <;> rfl
theorem Sh.lends {w : AV} {l : List Nat} (h : Sh w l) (v : AV) : lendsOf w (.tree v) = none := by
  obtain ⟨g, rfl⟩ := h
  cases g <;> rfl
theorem callA_S1 (call : FuncId → List Arg → Option Out) (d : Nat) (s : St) (f : FuncId) {w : AV} {l : List Nat} (h : Sh w l) (v : AV) (hc : ∀ b, call f [.tree (encL b l)] = some (.tree v, [[]])) : callA cfg0 call d s f [w] = some (v, s) := by
  obtain ⟨b, e⟩ := h.arg f s 0
  simp [callA, argsA, e, givesL, lendsL, h.gives, h.lends, hc, backA, resA]
def Num (w : AV) (v : Nat) : Prop := ∃ l, Sh w l ∧ Limbs l ∧ l.length ≤ 1000 ∧ val l = v
theorem Num.lt {w : AV} {v : Nat} (h : Num w v) : ∃ k, k ≤ 1000 ∧ v < B ^ k := by
  obtain ⟨l, hs, hl, hn, rfl⟩ := h
  exact ⟨l.length, hn, val_lt l hl⟩
section
variable (n d : Nat) (hn : 100000 ≤ n) (D : Nat) (s : St)
include hn
theorem cLen {w : AV} {v : Nat} (h : Num w v) : callA cfg0 (evalFn Try.prog cfg0 n (d+2)) D s 43 [w] = some (.int .i64 ((blen v : Nat) : Int), s) := by
  obtain ⟨l, hs, hl, hk, rfl⟩ := h
  exact callA_S1 _ D s 43 hs _ fun b => len_eq n d b l hl (by omega) (by omega)
end
theorem lenR (s : St) (v : Nat) : lenA Try.prog 23 s (encR v) = some (.int .i64 ((digs v).length : Int)) := zdx s _ _
theorem digs_len0 (v : Nat) : (digs v).length = 0 ↔ v = 0 := by
  constructor
  · intro h
    have := val_digs v
    rw [List.length_eq_zero_iff.mp h] at this
    exact this.symm
  · intro h; subst h; rw [digs_0]; rfl
theorem s_and1 (P : Program) (t : TypeId) (a : Nat) (h : a < 4294967296) : binA P .and t (.int .u32 (a : Int)) (.int .u32 1) = some (.int .u32 ((a % 2 : Nat) : Int)) := by
  have h1 : (BitVec.ofInt 32 (a : Int) &&& BitVec.ofInt 32 1).toNat = a % 2 := by
    rw [BitVec.toNat_and, BitVec.ofInt_natCast, BitVec.toNat_ofNat, Nat.mod_eq_of_lt h, show (BitVec.ofInt 32 1).toNat = 1 from rfl, Nat.and_one_is_mod]
  show some (AV.int .u32 (IntKind.u32.wrap ((BitVec.ofInt 32 (a : Int) &&& BitVec.ofInt 32 1).toNat : Int))) = _
  rw [h1]
  simp only [IntKind.wrap, IntKind.bits, IntKind.signed]
  congr 2
  simp; omega
theorem s_or (P : Program) (t : TypeId) (a b : Nat) (h : a < 4294967296) (h' : b < 4294967296) : binA P .or t (.int .u32 (a : Int)) (.int .u32 (b : Int)) = some (.int .u32 (((a ||| b) : Nat) : Int)) := by
  have h1 : (BitVec.ofInt 32 (a : Int) ||| BitVec.ofInt 32 (b : Int)).toNat = a ||| b := by
    rw [BitVec.toNat_or, BitVec.ofInt_natCast, BitVec.ofInt_natCast, BitVec.toNat_ofNat, BitVec.toNat_ofNat, Nat.mod_eq_of_lt h, Nat.mod_eq_of_lt h']
  have h2 := Nat.or_lt_two_pow (n := 32) h h'
  show some (AV.int .u32 (IntKind.u32.wrap ((BitVec.ofInt 32 (a : Int) ||| BitVec.ofInt 32 (b : Int)).toNat : Int))) = _
  rw [h1]
  simp only [IntKind.wrap, IntKind.bits, IntKind.signed]
  congr 2
  generalize a ||| b = c at *
  simp; omega
end Go.Ab

/- More plain arithmetic of the limb statements. -/
namespace Go.Ab
end Go.Ab

/- Helpers of all statements: calls, places, copies, sameness. Conditions: limbs in range. -/
namespace Go.Ab
open Go.Proofs
set_option maxRecDepth 100000
set_option linter.unusedSimpArgs false

section
variable {P : Program} {cfg : Cfg} {call : FuncId → List Arg → Option Out}
def callV (cfg : Cfg) (call : FuncId → List Arg → Option Out) (d : Nat) (s : St) (vs : List AV) : AV → Option (AV × St)
  | .fn f caps => callA cfg call d s f (vs ++ caps)
  | _ => none
@[congr] theorem callV_congr {d : Nat} {s s' : St} {vs vs' : List AV} {v v' : AV} (h : v = v') (h1 : s = s') (h2 : vs = vs') : callV cfg call d s vs v = callV cfg call d s' vs' v' := by rw [h, h1, h2]
theorem backA_trees (s : St) : ∀ vs : List AV, backA s vs (vs.map Arg.tree) (vs.map fun _ => []) = some s
  | [] => rfl
  | v :: vs => by simp only [List.map_cons, backA, gives_tree, backA_trees s vs]
theorem callA_trees {d : Nat} {s : St} {f : FuncId} {vs : List AV} {v : AV} (ht : vs.all isTree = true) (hc : call f (vs.map Arg.tree) = some (.tree v, vs.map fun _ => [])) : callA cfg call d s f vs = some (v, s) := by
  simp only [callA, argsA_trees f s vs 0 ht, Option.bind_some, givesL_trees, lendsL_trees vs ht, List.nodup_nil, List.not_mem_nil, false_implies, implies_true, and_self, if_true, hc, List.foldl_nil, ite_self, backA_trees, resA]
theorem callQ_trees {f : FuncId} {vs : List AV} {v : AV} (ht : vs.all isTree = true) (hc : call f (vs.map Arg.tree) = some (.tree v, vs.map fun _ => [])) : callQ call f vs = some v := by
  simp only [callQ, ht, if_true, hc, Option.bind_some]
end
theorem same_eq (n d : Nat) (b b' : Gk) (l : List Nat) (hn : l.length < n) (hk : l.length ≤ 1000000) : evalFn Try.prog cfg0 n (d+1) 67 [.tree (encL b l), .tree (encL b' l)] = some (.tree (.bool true), [[], []]) := by
  rw [evalFn_go _ Try.func67 (by unfold Try.f67; rfl) (by unfold Try.f67; decide) (Nat.le_of_ble_eq_true (by unfold Try.f67; rfl)) (by kernel_rfl)]
  have p1 : ((l.length : Int) != (l.length : Int)) = false := bne_self_eq_false _
  simp only [simB, zbo, Nat.reduceBEq, own0, ↓reduceIte, Nat.reduceEqDiff, Nat.reduceAdd, simA, simL, p1, den_loop]
  refine loop_ends (X := Nat) (fun i env _ => env 0 = encL b l ∧ env 1 = encL b' l ∧ env 5 = .int .i64 (i : Int) ∧ i ≤ l.length) (fun i => l.length - i) (fun _ => (.tree (.bool true), [[], []])) ?_ n 0 _ _ (by omega) ⟨rfl, rfl, rfl, Nat.zero_le _⟩
  intro k i hx ih env s ⟨h0, h1, h5, hi⟩
  by_cases hp : i = l.length
  · subst hp
    have q1 : ¬ ((l.length : Int) < (l.length : Int)) := by omega
    simp only [simB, zbo, Nat.reduceBEq, own0, ↓reduceIte, Nat.reduceEqDiff, Nat.reduceAdd, simL, h0, h1, h5, q1]
    exact finish_tree _ _ _ _ _ _ (.bool true) _ _ (by simp only [zfk, ↓reduceIte]) rfl rfl
  · have q1 : (i : Int) < (l.length : Int) := by omega
    have q2 : (0 : Int) ≤ (i : Int) := by omega
    have q3 : i < l.length := by omega
    have p2 : ((l.getD i 0 : Int) != (l.getD i 0 : Int)) = false := bne_self_eq_false _
    have f4 := i_add Try.prog 3 (i : Int) 1 (by omega) (by omega)
    simp only [simB, zbo, Nat.reduceBEq, own0, ↓reduceIte, Nat.reduceEqDiff, Nat.reduceAdd, simL, h0, h1, h5, q1, q2, q3, Int.toNat_natCast, p2, f4]
    refine ih (i + 1) _ _ (by omega) rfl ⟨?_, ?_, ?_, by omega⟩
    · simp only [zfk, ↓reduceIte, Nat.reduceEqDiff, h0]
    · simp only [zfk, ↓reduceIte, Nat.reduceEqDiff, h1]
    · simp only [zfk, ↓reduceIte, Nat.reduceEqDiff]; rfl
theorem finish_any (k : Bool) (xs : List Arg) (t : Nat) (env : Env) (s s' : St) (v : AV) (r : Res) (os : List (List AV)) (hv : env t = v) (hf : finish1 k xs.length s v = some (r, s')) (ho : outsA s' 0 xs = some os) :
    finishP Try.prog k xs #[.tmp t] env s = some (r, os) := by
  simp only [finishP_t1, finishP_t2, finish, hv, hf, ho, Option.bind_some, Option.map_some]
theorem limbs_eq (n d : Nat) (b : Gk) (l : List Nat) (hl : l.length ≤ 1000000) : evalFn Try.prog cfg0 n (d+1) 50 [.tree (encL b l)] = some (.tok (encC l) l.length 1, [[]]) := by
  rw [evalFn_go _ Try.func50 (by unfold Try.f50; rfl) (by unfold Try.f50; decide) (Nat.le_of_ble_eq_true (by unfold Try.f50; rfl)) (by kernel_rfl)]
  obtain ⟨s', p, t, ea, hp⟩ := append22t 4 dead (.sl [] 0 .nil) [] l b (hold_nil _) (by simp only [List.length_nil]; omega)
  rw [List.nil_append] at ea
  simp only [simB, zbo, Nat.reduceBEq, own0, ↓reduceIte, Nat.reduceEqDiff, Nat.reduceAdd, simA, st0_1, ea]
  have hf : finish1 (cfg0.keep 50) 1 s' (.sl (encC l) l.length (.tok p t)) = some (.tok (encC l) l.length 1, s') := by
    simp [finish1, hp, show cfg0.keep 50 = true from rfl]
  refine finish_any _ _ _ _ _ _ (.sl (encC l) l.length (.tok p t)) _ _ (by simp only [zfk, ↓reduceIte]) hf rfl
theorem cLimbsT (n d : Nat) {w : AV} {l : List Nat} (h : Sh w l) (hl : l.length ≤ 1000000) (D : Nat) (s : St) : callA cfg0 (evalFn Try.prog cfg0 n (d+1)) D s 50 [w] = some (.sl (encC l) l.length (.tok D ((s D).t + 1)), upd s D ⟨(s D).t + 1, .tok 1⟩) := by
  obtain ⟨b, e⟩ := h.arg 50 s 0
  have hc := limbs_eq n d b l hl
  simp [callA, argsA, e, givesL, lendsL, h.gives, h.lends, hc, backA, resA, flatR]
end Go.Ab

/- Numbers with a sign: plain arithmetic. No conditions but those told. -/
namespace Go.Ab
def chkN (neg : Bool) (l : List Nat) : Bool := decide (l.length ≤ 12) && (decide (l.length = 0) && !neg || decide (0 < l.length) && decide (l.getD (l.length - 1) 0 ≠ 0))
def numZ (neg : Bool) (l : List Nat) : Int := if chkN neg l = true then (if neg = true then -((val l : Nat) : Int) else ((val l : Nat) : Int)) else 0
def mkZ (z : Int) : Int × Bool := if z.natAbs < B ^ 12 then (z, true) else (0, false)
theorem mkZ_fit {z : Int} (h : z.natAbs < B ^ 12) : mkZ z = (z, true) := if_pos h
theorem getLast_getD (l : List Nat) (h : 0 < l.length) : l.getLast? = some (l.getD (l.length - 1) 0) := by
  rw [List.getLast?_eq_getElem?, List.getD_eq_getElem?_getD, List.getElem?_eq_getElem (by omega)]; rfl
theorem digs_last (v : Nat) (h : 0 < (digs v).length) : (digs v).getD ((digs v).length - 1) 0 ≠ 0 := by
  induction v using Nat.strongRecOn with
  | ind v ih =>
    by_cases hv : v = 0
    · subst hv; rw [digs_0] at h; simp at h
    · rw [digs_pos v hv]
      by_cases hq : v / B = 0
      · rw [hq, digs_0]
        have : v % B = v := Nat.mod_eq_of_lt (by
          have := Nat.div_add_mod v B; have := Nat.mod_lt v (show 0 < B by decide); rw [hq] at *; omega)
        simpa [this] using hv
      · have hl : 0 < (digs (v / B)).length := by
          rw [digs_pos _ hq]; simp
        have := ih (v / B) (Nat.div_lt_self (by omega) (by decide)) hl
        rw [List.length_cons, show (digs (v / B)).length + 1 - 1 = ((digs (v / B)).length - 1) + 1 by omega, List.getD_cons_succ]
        exact this
theorem digs_len_le (v k : Nat) : (digs v).length ≤ k ↔ v < B ^ k := by
  constructor
  · intro h
    have := val_lt (digs v) (limbs_digs v)
    rw [val_digs] at this
    exact Nat.lt_of_lt_of_le this (Nat.pow_le_pow_right (by decide) h)
  · exact digs_len v k
theorem chk_digs (neg : Bool) (v : Nat) (h : v = 0 → neg = false) : chkN neg (digs v) = decide (v < B ^ 12) := by
  unfold chkN
  by_cases hv : v = 0
  · subst hv
    rw [digs_0, h rfl]
    have : 0 < B ^ 12 := Nat.pow_pos (by decide)
    simp [this]
  · have hp : 0 < (digs v).length := by rw [digs_pos v hv]; simp
    have hl := digs_last v hp
    have h12 : decide ((digs v).length ≤ 12) = decide (v < B ^ 12) := by
      rw [Bool.eq_iff_iff]; simp only [decide_eq_true_eq]; exact digs_len_le v 12
    rw [h12]
    have h1 : decide (0 < (digs v).length) = true := decide_eq_true hp
    have h2 : decide ((digs v).getD ((digs v).length - 1) 0 ≠ 0) = true := decide_eq_true hl
    rw [h1, h2]
    simp
theorem chk_val {neg : Bool} {l : List Nat} (hl : Limbs l) (h : chkN neg l = true) : digs (val l) = l ∧ val l < B ^ 12 ∧ l.length ≤ 12 ∧ (val l = 0 → l = [] ∧ neg = false) := by
  unfold chkN at h
  simp only [Bool.and_eq_true, Bool.or_eq_true, decide_eq_true_eq, Bool.not_eq_true'] at h
  obtain ⟨h12, h⟩ := h
  have hd : digs (val l) = l := by
    refine digs_val l hl fun x hx => ?_
    rcases h with ⟨h0, _⟩ | ⟨h0, h1⟩
    · have : l = [] := List.length_eq_zero_iff.mp h0
      subst this; cases hx
    · rw [getLast_getD l h0] at hx
      cases hx
      exact h1
  refine ⟨hd, Nat.lt_of_lt_of_le (val_lt l hl) (Nat.pow_le_pow_right (by decide) h12), h12, fun h0 => ?_⟩
  rw [h0, digs_0] at hd
  subst hd
  rcases h with ⟨_, h1⟩ | ⟨h1, _⟩
  · exact ⟨rfl, h1⟩
  · simp at h1
theorem numZ_not {neg : Bool} {l : List Nat} (h : chkN neg l = false) : numZ neg l = 0 := by simp [numZ, h]
theorem numZ_is {neg : Bool} {l : List Nat} (hl : Limbs l) (h : chkN neg l = true) : (numZ neg l).natAbs = val l ∧ decide (numZ neg l < 0) = neg ∧ digs (numZ neg l).natAbs = l := by
  obtain ⟨hd, _, _, h0⟩ := chk_val hl h
  have e : numZ neg l = if neg = true then -((val l : Nat) : Int) else ((val l : Nat) : Int) := if_pos h
  cases neg with
  | false =>
    simp only [Bool.false_eq_true, if_false] at e
    have : (numZ false l).natAbs = val l := by rw [e]; simp
    refine ⟨this, ?_, by rw [this]; exact hd⟩
    rw [e, decide_eq_false_iff_not]; omega
  | true =>
    simp only [if_true] at e
    have hn : val l ≠ 0 := fun h => by have := (h0 h).2; simp at this
    have : (numZ true l).natAbs = val l := by rw [e]; omega
    refine ⟨this, ?_, by rw [this]; exact hd⟩
    rw [e, decide_eq_true_eq]; omega
theorem numZ_lt (neg : Bool) (l : List Nat) (hl : Limbs l) : (numZ neg l).natAbs < B ^ 12 := by
  cases h : chkN neg l with
  | false => rw [numZ_not h]; exact Nat.pow_pos (by decide)
  | true => rw [(numZ_is hl h).1]; exact (chk_val hl h).2.1
def sgn (neg : Bool) (v : Nat) : Int := if neg = true then -(v : Int) else (v : Int)
theorem sgn_abs (neg : Bool) (v : Nat) : (sgn neg v).natAbs = v := by
  unfold sgn; split <;> simp
theorem sgn_neg (neg : Bool) (v : Nat) : decide (sgn neg v < 0) = (neg && decide (v ≠ 0)) := by
  cases neg with
  | false =>
    simp only [sgn, Bool.false_eq_true, if_false, Bool.false_and, decide_eq_false_iff_not]; omega
  | true =>
    simp only [sgn, if_true, Bool.true_and]
    by_cases h : v = 0
    · subst h; decide
    · rw [decide_eq_true (show (-(v : Int) < 0) by omega), decide_eq_true h]
theorem sgn_of (z : Int) : sgn (decide (z < 0)) z.natAbs = z := by
  unfold sgn
  by_cases h : z < 0
  · simp [h]; omega
  · simp [h]; omega
end Go.Ab

/- Numbers with a sign in memory cells; which may be. Conditions: limbs in range. -/
namespace Go.Ab
open Go.Proofs
set_option maxRecDepth 100000
set_option linter.unusedSimpArgs false

abbrev encA (neg : Bool) (g : Gk) (l : List Nat) : AV := .agg [.bool neg, encL g l]
def encZ (z : Int) : AV := .agg [.bool (decide (z < 0)), encR z.natAbs]
theorem encZ_0 : encZ 0 = encA false .n [] := by
  simp only [encZ, encA, encR, Int.natAbs_zero, digs_0, if_true]; rfl

theorem tk24 : tkOf Try.prog 25 = .st := by kernel_rfl
theorem zew : zeroOf Try.prog 25 = some [.bool false, .sl [] 0 .nil] := by kernel_rfl
theorem sh24 : shOf Try.prog 25 = some (true, 2) := by kernel_rfl
theorem sh22 : shOf Try.prog 23 = some (false, 1) := by kernel_rfl
theorem sh4 : shOf Try.prog 4 = some (false, 1) := by kernel_rfl
theorem esz24 : esz Try.prog 25 = some 2 := by kernel_rfl
theorem esz22 : esz Try.prog 23 = some 1 := by kernel_rfl
theorem esz4 : esz Try.prog 4 = some 1 := by kernel_rfl
theorem pl24 : placesA Try.prog 25 = some [(0, 1), (1, 1)] := by kernel_rfl
theorem fd24_0 : fieldOf Try.prog 25 0 = some (4, 0) := by kernel_rfl
theorem fd24_1 : fieldOf Try.prog 25 1 = some (23, 1) := by kernel_rfl

section
variable {P : Program} {cfg : Cfg} {call : FuncId → List Arg → Option Out} {d : Option Tmp} {ty : TypeId} {pos : String} {af : Array Edge} {g : Option (Nat × Bool)} {t : Nat} {q : Bool} {env : Env} {s : St}
def boxA (d : Nat) (s : St) (v : AV) : Option (AV × St) := (settle s v).bind fun x => (cellsOf x.1).map fun xs => (.ptr d ((x.2 d).t + 1) 0, upd x.2 d ⟨(x.2 d).t + 1, .buf xs⟩)
def boxT (s : St) (v : AV) : Option (AV × St) := (settled v).bind fun v => (cellsOf v).map fun xs => (.rptr xs, s)
theorem zeh (u : TypeId) (x : Operand) : opA P cfg call q ⟨d, .box u x, ty, pos, af, g⟩ t env s = if cfg.ownAt ("@" ++ pos) = true then boxT s (ev env x) else boxA t s (ev env x) := rfl
theorem zei (u : TypeId) : opA P cfg call q ⟨d, .alloc u, ty, pos, af, g⟩ t env s = (zeroOf P u).map fun z => (.ptr t ((s t).t + 1) 0, upd s t ⟨(s t).t + 1, .buf z⟩) := rfl
theorem zej (u : TypeId) (x : Operand) (i : Nat) : opA P cfg call q ⟨d, .fieldAddr u x i, ty, pos, af, g⟩ t env s = (fieldAddrA P u s (ev env x) i).map (·, s) := rfl
theorem zek (u : TypeId) (x : Operand) (i : Nat) : opA P cfg call q ⟨d, .field u x i, ty, pos, af, g⟩ t env s = (fieldA P u (ev env x) i).map (·, s) := rfl
def buildA (P : Program) (u : TypeId) (parts : List (Nat × AV)) : Option AV := (zeroOf P u).bind fun z => match tkOf P u with
  | .st => (placesA P u).bind fun pl => (fillA (fun i => pl[i]?) z parts).map .agg
  | .arr _ e => (esz P e).bind fun n => (fillA (fun i => some (i * n, n)) z parts).map .agg
  | _ => none
def buildO (P : Program) (u : TypeId) (s : St) (ps : List (Nat × AV)) : Option (AV × St) := (settleP s ps).bind fun x => (zeroOf P u).bind fun z => match tkOf P u with
  | .st => (placesA P u).bind fun pl => ((fillA (fun i => pl[i]?) z x.1).map AV.agg).map (·, x.2)
  | _ => none
theorem zel (u : TypeId) (parts : Array (Nat × Operand)) : opA P cfg call q ⟨d, .build u parts, ty, pos, af, g⟩ t env s = if cfg.ownAt ("#" ++ pos) = true then (if q = true then none else buildO P u s (parts.toList.map fun x => (x.1, ev env x.2))) else if cfg.ownAt ("&" ++ pos) = true then (buildG P u (parts.toList.map fun x => (x.1, ev env x.2))).map (·, s) else (buildA P u (parts.toList.map fun x => (x.1, ev env x.2))).map (·, s) := by
  simp only [opA, buildA]
  by_cases h : cfg.ownAt ("#" ++ pos) = true
  · rw [if_pos h, if_pos h]; rfl
  · rw [if_neg h, if_neg h]
    by_cases h' : cfg.ownAt ("&" ++ pos) = true
    · rw [if_pos h', if_pos h']
    rw [if_neg h', if_neg h']
    cases zeroOf P u with
    | none => rfl
    | some z =>
      simp only [Option.bind_some]
      cases tkOf P u <;> first | rfl | (simp only [Option.map_bind]; rfl)
end
theorem zem (d : Nat) (s : St) (xs : List AV) : boxA d s (.agg xs) = some (.ptr d ((s d).t + 1) 0, upd s d ⟨(s d).t + 1, .buf xs⟩) := rfl
theorem zen (j : Nat) : (dead j).t = 0 := rfl
def cellsE (e : Ent) (k : Nat) : Option (List AV) := match e.c with
  | .buf xs => if e.t = k then some xs else none
  | .frz xs => if e.t = k then some xs else none
  | .mix xs _ => if e.t = k then some xs else none
  | _ => none
theorem cellsAt_E (s : St) (p k : Nat) : cellsAt s p k = cellsE (s p) k := by
  unfold cellsAt cellsE
  rcases s p with ⟨t', c⟩
  cases c <;> rfl
theorem cellsE_buf (t k : Nat) (xs : List AV) : cellsE ⟨t, .buf xs⟩ k = if t = k then some xs else none := rfl
def ldE (P : Program) (u : TypeId) (e : Ent) (k off : Nat) : Option AV := ldC P u e k off
theorem ldE_buf (P : Program) (u : TypeId) (t k off : Nat) (xs : List AV) : ldE P u ⟨t, .buf xs⟩ k off = (cellsE ⟨t, .buf xs⟩ k).bind fun xs => partA P u xs off := by
  rw [cellsE_buf]
  show (if t = k then partA P u xs off else none) = _
  by_cases h : t = k
  · rw [if_pos h, if_pos h]; rfl
  · rw [if_neg h, if_neg h]; rfl
theorem zeo (P : Program) (u : TypeId) (s : St) (p k off : Nat) : loadA P u s (.ptr p k off) = ldE P u (s p) k off := by
  rfl
theorem zep (t k : Nat) (a b : AV) : ldE Try.prog 25 ⟨t, .buf [a, b]⟩ k 0 = if t = k then some (.agg [a, b]) else none := by
  rw [ldE_buf, cellsE_buf]
  by_cases e : t = k
  · simp [e, partA, sh24]
  · simp [e]
theorem zeq (t k : Nat) (a b : AV) : ldE Try.prog 4 ⟨t, .buf [a, b]⟩ k 0 = if t = k then some a else none := by
  rw [ldE_buf, cellsE_buf]
  by_cases e : t = k
  · simp [e, partA, sh4]
  · simp [e]
theorem zer (t k : Nat) (a b : AV) : ldE Try.prog 23 ⟨t, .buf [a, b]⟩ k 1 = if t = k then some b else none := by
  rw [ldE_buf, cellsE_buf]
  by_cases e : t = k
  · simp [e, partA, sh22]
  · simp [e]
def stE (e : Ent) (p k : Nat) (s : St) (ys : List AV) : Option St :=
  match e with | ⟨t', .buf xs⟩ => if t' = k then (if ys.length ≤ xs.length then some (upd s p ⟨t', .buf (splice xs 0 ys)⟩) else none) else none | _ => none
theorem zes (s : St) (p k : Nat) (a b : AV) : storeA Try.prog 25 s (.ptr p k 0) (.agg [a, b]) = stE (s p) p k s [a, b] := by
  simp only [storeA, settle, Option.bind_some, stE]
  cases h : s p with
  | mk t c => cases c <;> simp [esz24]
theorem zet (t k p : Nat) (s : St) (a b a' b' : AV) : stE ⟨t, .buf [a', b']⟩ p k s [a, b] = if t = k then some (upd s p ⟨t, .buf [a, b]⟩) else none := by
  simp [stE, splice]
def faE (e : Ent) (p k off : Nat) : Option AV := if (cellsE e k).isSome = true then some (.ptr p k off) else none
theorem fa_0 (s : St) (p k : Nat) : fieldAddrA Try.prog 25 s (.ptr p k 0) 0 = faE (s p) p k 0 := by
  simp only [fieldAddrA, fd24_0, esz4, live, cellsAt_E, faE, Nat.zero_add]
theorem fa_1 (s : St) (p k : Nat) : fieldAddrA Try.prog 25 s (.ptr p k 0) 1 = faE (s p) p k 1 := by
  simp only [fieldAddrA, fd24_1, esz22, live, cellsAt_E, faE, Nat.zero_add]
theorem zeu (t p k off : Nat) (xs : List AV) : faE ⟨t, .buf xs⟩ p k off = if t = k then some (.ptr p k off) else none := by
  rw [faE, cellsE_buf]
  by_cases e : t = k <;> simp [e]
theorem bd_0 : buildA Try.prog 25 [] = some (encA false .n []) := by
  simp only [buildA, zew, tk24, pl24, Option.bind_some, fillA]; rfl
theorem bd_2 (b : Bool) (g : Gk) (l : List Nat) : buildA Try.prog 25 [(0, .bool b), (1, encL g l)] = some (encA b g l) := by
  simp only [buildA, zew, tk24, pl24, Option.bind_some]
  cases g <;> rfl
theorem zev (b : Bool) (v : Nat) : buildA Try.prog 25 [(0, .bool b), (1, encR v)] = some (.agg [.bool b, encR v]) := bd_2 _ _ _
theorem fd_1 (a b : AV) : fieldA Try.prog 25 (.agg [a, b]) 1 = some b := by
  simp [fieldA, fd24_1, partA, sh22]

theorem simN : type_of% (And.intro @zeh (And.intro @zei (And.intro @zej (And.intro @zek (And.intro @zel (And.intro @zem (And.intro @zen (And.intro @zeo (And.intro @zep (And.intro @zeq (And.intro @zer (And.intro @zes (And.intro @zet (And.intro @fa_0 (And.intro @fa_1 (And.intro @zeu (And.intro @bd_0 (And.intro @bd_2 (And.intro @zev (And.intro @fd_1 @zew)))))))))))))))))))) := And.intro @zeh (And.intro @zei (And.intro @zej (And.intro @zek (And.intro @zel (And.intro @zem (And.intro @zen (And.intro @zeo (And.intro @zep (And.intro @zeq (And.intro @zer (And.intro @zes (And.intro @zet (And.intro @fa_0 (And.intro @fa_1 (And.intro @zeu (And.intro @bd_0 (And.intro @bd_2 (And.intro @zev (And.intro @fd_1 @zew)))))))))))))))))))
theorem finish_c (k : Bool) (xs : List Arg) (a p e : Nat) (x y : AV) (env : Env) (s : St) (os : List (List AV)) (ha : env a = .ptr p e 0) (hs : s p = ⟨e, .buf [x, y]⟩) (ho : outsA s 0 xs = some os) :
    finishP Try.prog k xs #[.cell a 25] env s = some (.tree (.agg [x, y]), os) := by
  rw [finishP_c1, ha, zeo, hs, zep, if_pos rfl]
  simp only [Option.bind_some, settle, ho, Option.map_some]
theorem finish_ct (k : Bool) (xs : List Arg) (a p e u : Nat) (x y : AV) (b : Bool) (env : Env) (s : St) (os : List (List AV)) (ha : env a = .ptr p e 0) (hs : s p = ⟨e, .buf [x, y]⟩) (hu : env u = .bool b) (ho : outsA s 0 xs = some os) :
    finishP Try.prog k xs #[.cell a 25, .tmp u] env s = some (.tree (.tup [.agg [x, y], .bool b]), os) := by
  rw [finishP_c2, ha, zeo, hs, zep, if_pos rfl, hu]
  simp only [Option.bind_some, settleL, settle, Option.map_some, ho]

theorem unA_not' (b : Bool) : unA .not (.bool b) = some (.bool (!b)) := rfl
theorem neq0 (x : Nat) : ((x : Int) != 0) = decide (x ≠ 0) := by
  rw [Bool.eq_iff_iff]; simp
set_option maxHeartbeats 2000000 in
theorem check_eq (n d : Nat) (neg : Bool) (g : Gk) (l : List Nat) (hl : Limbs l) : evalFn Try.prog cfg0 n (d+1) 69 [.tree (encA neg g l)] = some (.tree (.bool (chkN neg l)), [[]]) := by
  rw [evalFn_go _ Try.func69 (by unfold Try.f69; rfl) (by unfold Try.f69; decide) (Nat.le_of_ble_eq_true (by unfold Try.f69; rfl)) (by kernel_rfl)]
  unfold chkN
  by_cases h : (l.length : Int) ≤ 12
  rotate_left
  · have e1 : decide (l.length ≤ 12) = false := decide_eq_false (by omega)
    simp only [simB, zbo, Nat.reduceBEq, own0, ↓reduceIte, Nat.reduceEqDiff, Nat.reduceAdd, simA, simL, simN, Nat.zero_add, st0_1, h, e1, Bool.false_and]
    exact finish_tree _ _ _ _ _ _ (.bool false) _ _ (by simp only [zfk, ↓reduceIte]) rfl rfl
  have e1 : decide (l.length ≤ 12) = true := decide_eq_true (by omega)
  by_cases hz : l = []
  · subst hz
    have p1 : (((([] : List Nat).length : Nat) : Int) == 0) = true := rfl
    cases neg with
    | false =>
      simp only [simB, zbo, Nat.reduceBEq, own0, ↓reduceIte, Nat.reduceEqDiff, Nat.reduceAdd, simA, simL, simN, Nat.zero_add, st0_1, h, p1, unA_not', Bool.not_false]
      exact finish_tree _ _ _ _ _ _ (.bool true) _ _ (by simp only [zfk, ↓reduceIte]) rfl rfl
    | true =>
      have p2 : ¬ ((([] : List Nat).length : Nat) : Int) > 0 := by simp
      simp only [simB, zbo, Nat.reduceBEq, own0, ↓reduceIte, Nat.reduceEqDiff, Nat.reduceAdd, simA, simL, simN, Nat.zero_add, st0_1, h, p1, p2, unA_not', Bool.not_true]
      exact finish_tree _ _ _ _ _ _ (.bool false) _ _ (by simp only [zfk, ↓reduceIte]) rfl rfl
  · have hp : 0 < l.length := List.length_pos_iff.mpr hz
    have p1 : ((l.length : Int) == 0) = false := by rw [beq_eq_false_iff_ne]; omega
    have p2 : (l.length : Int) > 0 := by omega
    have p3 := i_sub Try.prog 3 (l.length : Int) 1 (by omega) (by omega)
    have p4 : (0 : Int) ≤ (l.length : Int) - 1 := by omega
    have p5 : (l.length : Int) - 1 < l.length := by omega
    have p6 : ((l.length : Int) - 1).toNat = l.length - 1 := by omega
    have p7 : l.length - 1 < l.length := by omega
    have q1 : decide (l.length = 0) = false := decide_eq_false (by omega)
    have q2 : decide (0 < l.length) = true := decide_eq_true hp
    simp only [simB, zbo, Nat.reduceBEq, own0, ↓reduceIte, Nat.reduceEqDiff, Nat.reduceAdd, simA, simL, simN, Nat.zero_add, st0_1, h, p1, p2, p3, p4, p5, p6, p7, e1, q1, q2, neq0, Bool.false_and, Bool.false_or, Bool.true_and]
    exact finish_tree _ _ _ _ _ _ (.bool (decide (l.getD (l.length - 1) 0 ≠ 0))) _ _ (by simp only [zfk, ↓reduceIte]) rfl rfl
end Go.Ab

/- Plain code, walked inside a fence (in a round of a range over a function): where the abstract run answers, the walk goes on. No conditions. -/
namespace Go.Ab
section
variable {P : Program} {cfg : Cfg} {call : FuncId → List Arg → Option Out}

def plainOp : Op → Bool
  | .move _ | .assign _ | .alloc _ | .box .. | .load .. | .store .. | .build .. | .buildSlice .. | .binOp .. | .unOp .. | .indexAddr .. => true
  | .call c => match c.callee with
    | .builtin .len => true
    | _ => false
  | _ => false
def resPlain : Result Next → Prop
  | .ok (.value _) _ => True
  | .ok .skip _ => True
  | .ok _ _ => False
  | .halt _ _ => True
theorem resPlain_val {m : Sem Value} (w : World) : resPlain ((do pure (Next.value (← m)) : Sem Next).run P w) := by
  rw [Sem.run_bind]
  cases m.run P w <;> simp [Result.andThen, resPlain]
theorem plain_res {o : Oper} {ρ : Operand → Value} (h : plainOp o.op = true) (w : World) : resPlain ((execOp ρ o).run P w) := by
  unfold plainOp at h
  split at h
  all_goals try (rename_i hop; simp only [execOp, hop]; first | exact resPlain_val w | (exact trivial) | (rw [Sem.run_pure]; exact trivial))
  · rename_i a b c hop
    simp only [execOp, hop, Sem.run_bind]
    cases (Instr.storeAt a (ρ b) (ρ c)).run P w <;> simp [Result.andThen, resPlain]
  · rename_i c hop
    split at h
    · rename_i hc
      have hb : execOp ρ o = (do pure (.value (← Builtin.len_ c.argTypes o.type (c.args.map ρ)))) := by
        simp only [execOp, hop, resolve, hc]
        rfl
      rw [hb]
      exact resPlain_val w
    · cases h
  · cases h
theorem OpTo.inF {o : Oper} {a : Act} {Γ : G} {s' : St} {r : AV} (h : OpTo P o a Γ s' r) (hp : plainOp o.op = true) {F : Fence} (hF : ∀ f, F.fn f) {n : Nat} {next : Act → World → Prop} {Q : Exit → Act → World → Prop}
    (hn : ∀ Γ' v, Γ'.s = s' → Inv Γ' → Ext Γ Γ' → V Γ' r v → next (a.put o.dst v) Γ'.w) : o.wpIn F n P a Γ.w next Q := by
  have h0 := h next (fun _ _ _ => False) hn
  unfold Oper.wp at h0
  unfold Oper.wpIn
  refine ⟨fun f _ => hF f, ?_⟩
  rw [Oper.semAt_plain F _ _ (by intro c hc; rw [hc] at hp; cases hp)]
  have hr := plain_res (P := P) (ρ := a.eval) hp Γ.w
  revert h0 hr
  generalize (execOp a.eval o).run P Γ.w = x
  cases x with
  | ok x w => cases x <;> simp [resPlain, Oper.upon, Oper.uponIn]
  | halt x w => cases x <;> simp [Oper.upon]
structure EnvV (Γ : G) (env : Env) (a : Act) (m : Nat) : Prop where
  size : a.tmps.size = m
  val : ∀ t, V Γ (env t) (a.tmps.getD t undef)
theorem EnvV.put {Γ Γ' : G} {env : Env} {a : Act} {m : Nat} (h : EnvV Γ env a m) (hE : Ext Γ Γ') {d : Option Tmp} (hd : ∀ x, d = some x → x < m) {r : AV} {v : Value} (hv : V Γ' r v) : EnvV Γ' (setO env d r) (a.put d v) m := by
  obtain ⟨_, h2⟩ := put_tmps a d v
  refine ⟨h2.trans h.size, fun t => ?_⟩
  cases d with
  | none => exact V.ext hE (h.val t)
  | some d =>
    rw [put_get a d v t (by rw [h.size]; exact hd d rfl)]
    simp only [setO]
    by_cases ht : t = d
    · subst ht; simp only [upd_same, if_true]; exact hv
    · rw [upd_ne _ _ ht, if_neg ht]; exact V.ext hE (h.val t)
theorem opsA_in (hcall : FnOk P call) {F : Fence} (hF : ∀ f, F.fn f) {n : Nat} {ops : Array Oper} {rest : List Oper} {Q : Exit → Act → World → Prop} {m : Nat} : ∀ (l : List Oper) (env : Env) (Γ : G) (a : Act) (env' : Env) (s' : St),
    (∀ o ∈ l, plainOp o.op = true) → (∀ o ∈ l, ∀ d, o.dst = some d → d < m) → opsA P cfg call false ops l env Γ.s = some (env', s') → Inv Γ → EnvV Γ env a m →
    (∀ Γ' a', Γ'.s = s' → Inv Γ' → Ext Γ Γ' → EnvV Γ' env' a' m → a'.defers = a.defers → wpListIn F n P ops Q rest a' Γ'.w) → wpListIn F n P ops Q (l ++ rest) a Γ.w
  | [], env, Γ, a, env', s', _, _, h, hI, he, hQ => by
    simp only [opsA, Option.some.injEq, Prod.mk.injEq] at h
    obtain ⟨rfl, rfl⟩ := h
    exact hQ Γ a rfl hI (.refl _) he rfl
  | o :: l, env, Γ, a, env', s', hp, hd, h, hI, he, hQ => by
    have hd1 : ∀ x, o.dst = some x → x < m := hd o (List.mem_cons_self ..)
    have hd2 : ∀ o' ∈ l, ∀ d, o'.dst = some d → d < m := fun o' ho' => hd o' (List.mem_cons_of_mem _ ho')
    have hp1 := hp o (List.mem_cons_self ..)
    have hp2 : ∀ o' ∈ l, plainOp o'.op = true := fun o' ho' => hp o' (List.mem_cons_of_mem _ ho')
    have hwant : ∀ b, wantA ops o env = some b → Region.wanted o (yielded ops a.tmps) = b := fun b hb => wantA_ok hb fun _ _ d _ _ => he.val d
    simp only [opsA] at h
    rw [List.cons_append]
    refine wpListIn_step fun K hK => ?_
    split at h
    · rename_i hw
      rw [hwant true hw]
      simp only [if_true]
      simp only [Option.bind_eq_some_iff] at h
      obtain ⟨⟨r, s1⟩, hop, h⟩ := h
      have hop' := opA_ok hcall hI (a := a) (fun x _ => V_ev he.val x) hop
      refine hop'.inF hp1 hF fun Γ' v hs' hI' hE' hv => hK _ _ ?_
      rw [← hs'] at h
      exact opsA_in hcall hF l _ Γ' _ env' s' hp2 hd2 h hI' (he.put hE' hd1 hv) fun Γ'' a'' h1 h2 h3 h4 h5 => hQ Γ'' a'' h1 h2 (hE'.trans h3) h4 (h5.trans (put_tmps a o.dst v).1)
    · rename_i hw
      rw [hwant false hw]
      simp only [Bool.false_eq_true, if_false]
      refine ⟨fun f _ => hF f, hK _ _ ?_⟩
      exact opsA_in hcall hF l _ Γ _ env' s' hp2 hd2 h hI (he.put (.refl _) hd1 undef_tup) fun Γ'' a'' h1 h2 h3 h4 h5 => hQ Γ'' a'' h1 h2 h3 h4 (h5.trans (put_tmps a o.dst undef).1)
    · cases h
def plainC : Code → Bool
  | .region _ ops draw => !draw && ops.toList.all fun o => plainOp o.op
  | .seq a b => plainC a && plainC b
  | .cond _ a b => plainC a && plainC b
  | .block _ a => plainC a
  | .skip | .exit _ | .ret => true
  | _ => false
theorem den_in (hcall : FnOk P call) {F : Fence} (hF : ∀ f, F.fn f) {n N m : Nat} {out : Out} : ∀ (c : Code) (K : Kont) (env : Env) (Γ : G) (a : Act) (Q : Exit → Act → World → Prop), plainC c = true → dstOk cfg.keep m c = true → den P cfg call N c K env Γ.s = some out → Inv Γ → EnvV Γ env a m →
    (∀ ex env' Γ' a', K ex env' Γ'.s = some out → Inv Γ' → Ext Γ Γ' → EnvV Γ' env' a' m → a'.defers = a.defers → Q (exOf ex) a' Γ'.w) → c.wpIn F n P Q a Γ.w := by
  intro c
  induction c with
  | skip => intro K env Γ a Q _ _ h hI he hQ; exact wpIn_skip (hQ .normal env Γ a h hI (.refl _) he rfl)
  | exit id => intro K env Γ a Q _ _ h hI he hQ; exact wpIn_exit (hQ (.exit id) env Γ a h hI (.refl _) he rfl)
  | ret => intro K env Γ a Q _ _ h hI he hQ; exact wpIn_ret (hQ .ret env Γ a h hI (.refl _) he rfl)
  | region id ops draw =>
    intro K env Γ a Q hp hd h hI he hQ
    simp only [plainC, Bool.and_eq_true, Bool.not_eq_true', List.all_eq_true] at hp
    obtain ⟨rfl, hp⟩ := hp
    simp only [den, Option.bind_eq_some_iff, killI] at h
    obtain ⟨⟨env', s'⟩, h1, h2⟩ := h
    simp only [dstOk, Bool.and_eq_true] at hd
    have hd1 : ∀ o ∈ ops.toList, ∀ d, o.dst = some d → d < m := fun o ho d hdd => by
      have := List.all_eq_true.1 hd.1 o ho
      rw [hdd] at this
      simpa using this
    refine wpIn_region_list ?_
    rw [← List.append_nil ops.toList]
    refine opsA_in hcall hF ops.toList env Γ a env' s' hp hd1 h1 hI he fun Γ' a' g1 g2 g3 g4 g5 => wpListIn_nil (hQ .normal env' Γ' a' ?_ g2 g3 g4 g5)
    rw [g1]; exact h2
  | seq x y ihx ihy =>
    intro K env Γ a Q hp hd h hI he hQ
    simp only [dstOk, Bool.and_eq_true] at hd
    simp only [plainC, Bool.and_eq_true] at hp
    simp only [den] at h
    refine wpIn_seq (ihx _ env Γ a _ hp.1 hd.1 h hI he fun ex env' Γ' a' g1 g2 g3 g4 g5 => ?_)
    cases ex with
    | normal => exact ihy K env' Γ' a' Q hp.2 hd.2 g1 g2 g4 fun ex2 env2 Γ2 a2 k1 k2 k3 k4 k5 => hQ ex2 env2 Γ2 a2 k1 k2 (g3.trans k3) k4 (k5.trans g5)
    | exit id => exact hQ (.exit id) env' Γ' a' g1 g2 g3 g4 g5
    | ret => exact hQ .ret env' Γ' a' g1 g2 g3 g4 g5
  | cond c x y ihx ihy =>
    intro K env Γ a Q hp hd h hI he hQ
    simp only [dstOk, Bool.and_eq_true] at hd
    simp only [plainC, Bool.and_eq_true] at hp
    simp only [den] at h
    have hV := V_ev he.val c
    split at h
    · rename_i hc
      rw [hc, V_bool] at hV
      exact wpIn_cond_true hV (ihx K env Γ a Q hp.1 hd.1 h hI he hQ)
    · rename_i hc
      rw [hc, V_bool] at hV
      exact wpIn_cond_false hV (ihy K env Γ a Q hp.2 hd.2 h hI he hQ)
    · cases h
  | block id x ih =>
    intro K env Γ a Q hp hd h hI he hQ
    simp only [dstOk] at hd
    simp only [plainC] at hp
    simp only [den] at h
    refine wpIn_block (ih _ env Γ a _ hp hd h hI he fun ex env' Γ' a' g1 g2 g3 g4 g5 => ?_)
    cases ex with
    | normal => exact hQ .normal env' Γ' a' g1 g2 g3 g4 g5
    | exit i =>
      simp only [exOf, Exit.inBlock]
      dsimp only at g1
      split at g1
      · rename_i hi; rw [if_pos hi]; exact hQ .normal env' Γ' a' g1 g2 g3 g4 g5
      · rename_i hi; rw [if_neg hi]; exact hQ (.exit i) env' Γ' a' g1 g2 g3 g4 g5
    | ret => exact hQ .ret env' Γ' a' g1 g2 g3 g4 g5
  | _ => intro K env Γ a Q hp; cases hp

theorem blk_cells {w : World} {a : Addr} {v : Value} (h : w.cell? a = some v) : ∃ o, w.heap[a.block]? = some o ∧ o.isCells = true := by
  obtain ⟨o, ho, hc⟩ := cells_of_cell h
  exact ⟨o, ho, hc⟩
def Solid (s : St) : Prop := ∀ p, (s p).c = .dead ∨ ∃ x xs, (s p).c = .buf (x :: xs)
theorem Inv.grown {Γ1 Γ : G} {B : Nat} (hI : Inv Γ) (hE : Ext Γ1 Γ) (hB : Γ1.w.heap.size ≤ B) (hS : ∀ b o, Γ.S b o → b < B ∨ ∃ v, Γ.w.cell? ⟨b, o, none⟩ = some v) (hR : Solid Γ.s)
    {W' : World} {row : Option Nat} (hg : Γ.w.grownBy W' row) (hr : ∀ r, row = some r → B ≤ r ∧ ∃ o : Obj, Γ.w.heap[r]? = some o ∧ o.isCells = false) :
    Inv { Γ with w := W' } ∧ Ext Γ1 { Γ with w := W' } ∧ ∀ b o, Γ.S b o → b < B ∨ ∃ v, W'.cell? ⟨b, o, none⟩ = some v := by
  have hrow : ∀ r, row = some r → ∃ o : Obj, Γ.w.heap[r]? = some o ∧ o.isCells = false := fun r h => (hr r h).2
  have hlow : ∀ b, b < B → b < Γ.w.heap.size → W'.heap[b]? = Γ.w.heap[b]? := fun b hb hs => hg.block b hs fun e => by
    have := (hr b e.symm).1
    omega
  have hsz : Γ.w.heap.size ≤ W'.heap.size := hg.size
  have hcell : ∀ b o, Γ.S b o → W'.cell? ⟨b, o, none⟩ = Γ.w.cell? ⟨b, o, none⟩ := fun b o h => by
    rcases hS b o h with h1 | ⟨v, h1⟩
    · exact cell_of_block (hlow b h1 (hI.stay b o h).1) o
    · rw [h1]; exact cell_kept h1 hg hrow
  have hst : Stays Γ.S Γ.w Γ.S W' := fun b o h => ⟨h, hcell b o h⟩
  have hnm : ∀ p t xs hs, Γ.s p ≠ ⟨t, .mix xs hs⟩ := fun p t xs hs h => by
    rcases hR p with h' | ⟨_, _, h'⟩ <;> rw [h] at h' <;> cases h'
  refine ⟨⟨⟨fun p => ?_, hI.apart, fun b o h => ⟨Nat.lt_of_lt_of_le (hI.stay b o h).1 hsz, (hI.stay b o h).2⟩⟩, fun p t xs hs h => absurd h (hnm p t xs hs)⟩, ⟨hE.stays.trans hst, hg.os.trans hE.os, hg.tape.trans hE.tape, hg.output.trans hE.output, Nat.le_trans hE.size hsz, fun b hb hn => ?_, fun b o hb hn => ?_, fun b o hb hn => ?_, hE.newS, hE.newR, hE.ser, hE.bf, hE.tk⟩, fun b o h => ?_⟩
  · have he := hI.ent p
    unfold EntOk at he ⊢
    dsimp only
    rcases hR p with h | ⟨x, xs, h⟩
    · rw [h]; trivial
    · rw [h] at he ⊢
      simp only [EntC] at he ⊢
      obtain ⟨v0, hv0, _⟩ := he.2.2.1 0 x rfl
      obtain ⟨ob, ho, hc⟩ := blk_cells hv0
      have hb : W'.heap[(Γ.φ p).blk]? = Γ.w.heap[(Γ.φ p).blk]? := grownBy_keeps_cells hg hrow ho hc
      refine ⟨Nat.lt_of_lt_of_le he.1 hsz, fun o => by rw [frozen_of_block hb]; exact he.2.1 o, fun i x hx => ?_, fun i hi => ?_⟩
      · obtain ⟨v, g1, g2, g3⟩ := he.2.2.1 i x hx
        exact ⟨v, by rw [cell_of_block hb]; exact g1, g2, V0.mono hst _ _ g3⟩
      · obtain ⟨v, g1⟩ := he.2.2.2 i hi
        exact ⟨v, by rw [cell_of_block hb]; exact g1⟩
  · exact (hlow b (by omega) (Nat.lt_of_lt_of_le hb hE.size)).trans (hE.block b hb hn)
  · exact (cell_of_block (hlow b (by omega) (Nat.lt_of_lt_of_le hb hE.size)) o).trans (hE.cell b o hb hn)
  · exact (frozen_of_block (hlow b (by omega) (Nat.lt_of_lt_of_le hb hE.size)) o).trans (hE.frzn b o hb hn)
  · rcases hS b o h with h1 | ⟨v, h1⟩
    · exact .inl h1
    · exact .inr ⟨v, cell_kept h1 hg hrow⟩
theorem others_of_ext {Γ Γ' : G} (hI : Inv Γ) (hR : Solid Γ.s) (hE : Ext Γ Γ') : KeepsOthers Γ.w Γ'.w := by
  refine ⟨hE.size, fun k o hk ho => ?_⟩
  have hlt : k < Γ.w.heap.size := (Array.getElem?_eq_some_iff.1 hk).1
  rw [hE.block k hlt fun p q hr => ?_]
  · exact hk
  · rcases hR p with h | ⟨x, xs, h⟩
    · unfold Rg at hr; rw [h] at hr; exact hr
    · unfold Rg at hr; rw [h] at hr
      have he := hI.ent p
      unfold EntOk at he
      rw [h] at he
      obtain ⟨v0, hv0, _⟩ := he.2.2.1 0 x rfl
      obtain ⟨ob, ho', hc⟩ := blk_cells hv0
      dsimp only at ho'
      rw [← hr, hk] at ho'
      cases ho'
      rw [ho] at hc; cases hc
section
variable {S : Nat → Nat → Prop} {w : World}
def Here (S : Nat → Nat → Prop) (w : World) : Nat → Nat → Prop := fun b o => S b o ∧ ∃ v, w.cell? ⟨b, o, none⟩ = some v
mutual
theorem V0.here : ∀ (x : AV) (v : Value), V0 S w x v → V0 (Here S w) w x v
  | .undef, _, _ => by simp only [V0]
  | .int .., _, k => by simpa only [V0] using k
  | .bool _, _, k => by simpa only [V0] using k
  | .str _, _, k => by simpa only [V0] using k
  | .agg xs, v, k => by
    simp only [V0] at k ⊢
    obtain ⟨vs, hv, hl⟩ := k
    exact ⟨vs, hv, VL.here xs vs hl⟩
  | .tup xs, v, k => by
    simp only [V0] at k ⊢
    obtain ⟨vs, hv, hl⟩ := k
    exact ⟨vs, hv, VT.here xs vs hl⟩
  | .sl xs len g, v, k => by
    simp only [V0] at k ⊢
    obtain ⟨a, cap, hv, hl, hg, hk, hx⟩ := k
    refine ⟨a, cap, hv, hl, hg, hk, ?_⟩
    rcases hx with hx | ⟨b, o, ha, hc⟩
    · exact .inl hx
    · exact .inr ⟨b, o, ha, VC.here xs b o hc⟩
  | .own .., _, k => by simp only [V0] at k
  | .ptr .., _, k => by simp only [V0] at k
  | .rptr xs, v, k => by
    simp only [V0] at k ⊢
    obtain ⟨b, o, hv, hc⟩ := k
    exact ⟨b, o, hv, VC.here xs b o hc⟩
  | .nilp, _, k => by simpa only [V0] using k
  | .fn f xs, v, k => by
    simp only [V0] at k ⊢
    obtain ⟨vs, hv, hl⟩ := k
    exact ⟨vs, hv, VT.here xs vs hl⟩
  | .iface t x, v, k => by
    simp only [V0] at k ⊢
    obtain ⟨u, hv, hl⟩ := k
    exact ⟨u, hv, V0.here x u hl⟩
  | .nili, _, k => by simpa only [V0] using k
theorem VL.here : ∀ (xs : List AV) (vs : List Value), VL S w xs vs → VL (Here S w) w xs vs
  | [], _, k => by simpa only [VL] using k
  | x :: xs, vs, k => by
    simp only [VL] at k ⊢
    obtain ⟨v, r, hv, ho, h0, hr⟩ := k
    exact ⟨v, r, hv, ho, V0.here x v h0, VL.here xs r hr⟩
theorem VT.here : ∀ (xs : List AV) (vs : List Value), VT S w xs vs → VT (Here S w) w xs vs
  | [], _, k => by simpa only [VT] using k
  | x :: xs, vs, k => by
    simp only [VT] at k ⊢
    obtain ⟨v, r, hv, h0, hr⟩ := k
    exact ⟨v, r, hv, V0.here x v h0, VT.here xs r hr⟩
theorem VC.here : ∀ (xs : List AV) (b o : Nat), VC S w xs b o → VC (Here S w) w xs b o
  | [], _, _, _ => by simp only [VC]
  | x :: xs, b, o, k => by
    simp only [VC] at k ⊢
    obtain ⟨hs, ⟨v, hv, ho, h0⟩, hr⟩ := k
    exact ⟨⟨hs, v, hv⟩, ⟨v, hv, ho, V0.here x v h0⟩, VC.here xs b (o + 1) hr⟩
end
theorem Stays.sub {S' : Nat → Nat → Prop} (h : ∀ b o, S b o → S' b o) : Stays S w S' w := fun b o hs => ⟨h b o hs, rfl⟩
end

open Classical in
noncomputable def capK (φ : Ex → Env → St → Prop) : Kont := fun e env s => if φ e env s then some (.tree .undef, []) else none
theorem capK_of {φ : Ex → Env → St → Prop} {e : Ex} {env : Env} {s : St} (h : φ e env s) : capK φ e env s = some (.tree .undef, []) := by unfold capK; rw [if_pos h]
theorem of_capK {φ : Ex → Env → St → Prop} {e : Ex} {env : Env} {s : St} {o : Out} (h : capK φ e env s = some o) : φ e env s := by
  unfold capK at h
  split at h
  · assumption
  · cases h
theorem den_cap (hcall : FnOk P call) {F : Fence} (hF : ∀ f, F.fn f) {n N m : Nat} (φ : Ex → Env → St → Prop) {c : Code} {env : Env} {Γ : G} {a : Act} {Q : Exit → Act → World → Prop} (hp : plainC c = true) (hd : dstOk cfg.keep m c = true)
    (h : den P cfg call N c (capK φ) env Γ.s = some (.tree .undef, [])) (hI : Inv Γ) (he : EnvV Γ env a m)
    (hQ : ∀ ex env' Γ' a', φ ex env' Γ'.s → Inv Γ' → Ext Γ Γ' → EnvV Γ' env' a' m → a'.defers = a.defers → Q (exOf ex) a' Γ'.w) : c.wpIn F n P Q a Γ.w :=
  den_in hcall hF c (capK φ) env Γ a Q hp hd h hI he fun ex env' Γ' a' h1 h2 h3 h4 h5 => hQ ex env' Γ' a' (of_capK h1) h2 h3 h4 h5

def lookOp : Op → Bool
  | .move _ | .assign _ | .load .. | .binOp .. | .unOp .. | .indexAddr .. => true
  | .call c => match c.callee with
    | .builtin .len => true
    | _ => false
  | _ => false
theorem opA_look {o : Oper} {d : Nat} {env : Env} {Γ : G} {a : Act} {r : AV} {s' : St} (hl : lookOp o.op = true) (hI : Inv Γ) (hev : OpsOk Γ env a o) (h : opA P cfg call false o d env Γ.s = some (r, s')) :
    s' = Γ.s ∧ ∃ v, (execOp a.eval o).run P Γ.w = .ok (.value v) Γ.w ∧ V Γ r v := by
  have fin : ∀ {m : Sem Value} {r : AV}, execOp a.eval o = (do pure (.value (← m))) → PureOk P m Γ r → ∃ v, (execOp a.eval o).run P Γ.w = .ok (.value v) Γ.w ∧ V Γ r v := by
    rintro m r hex ⟨v, h1, h2⟩
    exact ⟨v, by rw [hex, Sem.run_bind, h1]; rfl, h2⟩
  unfold OpsOk at hev
  unfold lookOp at hl
  unfold opA at h
  dsimp only at h
  split at h
  · rename_i x hop
    cases h
    rw [hop] at hev
    exact ⟨rfl, _, by simp only [execOp, hop]; rfl, hev x (by simp [Op.operands])⟩
  · rename_i x hop
    cases h
    rw [hop] at hev
    exact ⟨rfl, _, by simp only [execOp, hop]; rfl, hev x (by simp [Op.operands])⟩
  · rename_i hop; rw [hop] at hl; cases hl
  · rename_i op t x y yt hop
    rw [hop] at hev
    obtain ⟨r', hr, e⟩ := map_some h
    cases e
    exact ⟨rfl, fin (by simp only [execOp, hop]) (binA_ok hr (hev x (by simp [Op.operands])) (hev y (by simp [Op.operands])) x y)⟩
  · rename_i op t x hop
    rw [hop] at hev
    obtain ⟨r', hr, e⟩ := map_some h
    cases e
    exact ⟨rfl, fin (by simp only [execOp, hop]) (unA_ok hr (hev x (by simp [Op.operands])))⟩
  · rename_i hop; rw [hop] at hl; cases hl
  · rename_i hop; rw [hop] at hl; cases hl
  · rename_i t x hop
    rw [hop] at hev
    obtain ⟨r', hr, e⟩ := map_some h
    cases e
    exact ⟨rfl, fin (by simp only [execOp, hop]) (loadA_ok hI hr (hev x (by simp [Op.operands])))⟩
  · rename_i hop; rw [hop] at hl; cases hl
  · rename_i hop; rw [hop] at hl; cases hl
  · rename_i hop; rw [hop] at hl; cases hl
  · rename_i t x i hop
    rw [hop] at hev
    obtain ⟨r', hr, e⟩ := map_some h
    cases e
    exact ⟨rfl, fin (by simp only [execOp, hop]) (indexAddrA_ok hr (hev x (by simp [Op.operands])) (hev i (by simp [Op.operands])))⟩
  · rename_i hop; rw [hop] at hl; cases hl
  · rename_i hop; rw [hop] at hl; cases hl
  · rename_i hop; rw [hop] at hl; cases hl
  · rename_i hop; rw [hop] at hl; cases hl
  · rename_i hop; rw [hop] at hl; cases hl
  · rename_i hop; rw [hop] at hl; cases hl
  · rename_i hop; rw [hop] at hl; cases hl
  · rename_i hop; rw [hop] at hl; cases hl
  · rename_i hop; rw [hop] at hl; cases hl
  · rename_i c hop
    rw [hop] at hev hl
    dsimp only at hl
    have hargs : ∀ x ∈ c.args.toList, V Γ (ev env x) (a.eval x) := fun x hx => hev x (by
      simp only [Op.operands, Call.operands, Array.mem_append]; exact .inr (Array.mem_def.2 hx))
    split at h
    · rename_i hb
      split at h
      · rename_i x t hx ht
        obtain ⟨r', hr, e⟩ := map_some h
        cases e
        refine ⟨rfl, fin (builtinOp (m := Builtin.len_ c.argTypes o.type (c.args.map a.eval)) hop hb rfl) ?_⟩
        have : c.args.map a.eval = #[a.eval x] := by apply Array.ext'; simp [hx]
        rw [this]
        exact lenA_ok hr (hargs x (by rw [hx]; simp)) _ _ ht
      · cases h
    all_goals first
      | (cases h; done)
      | (split at hl
         · simp_all
         · cases hl)
  · cases h
theorem opsA_look {F : Fence} (hF : ∀ f, F.fn f) {n : Nat} {ops : Array Oper} {rest : List Oper} {Q : Exit → Act → World → Prop} {m : Nat} {Γ : G} (hI : Inv Γ) : ∀ (l : List Oper) (env : Env) (a : Act) (env' : Env) (s' : St),
    (∀ o ∈ l, lookOp o.op = true ∧ o.guard = none) → (∀ o ∈ l, ∀ d, o.dst = some d → d < m) → opsA P cfg call false ops l env Γ.s = some (env', s') → EnvV Γ env a m →
    (∀ a', EnvV Γ env' a' m → a'.defers = a.defers → (∀ t, (∀ o ∈ l, o.dst ≠ some t) → a'.tmps.getD t undef = a.tmps.getD t undef) → wpListIn F n P ops Q rest a' Γ.w) → wpListIn F n P ops Q (l ++ rest) a Γ.w
  | [], env, a, env', s', _, _, h, he, hQ => by
    simp only [opsA, Option.some.injEq, Prod.mk.injEq] at h
    obtain ⟨rfl, rfl⟩ := h
    exact hQ a he rfl fun _ _ => rfl
  | o :: l, env, a, env', s', hp, hd, h, he, hQ => by
    have hd1 : ∀ x, o.dst = some x → x < m := hd o (List.mem_cons_self ..)
    have hp1 := hp o (List.mem_cons_self ..)
    simp only [opsA, wantA, hp1.2, Option.bind_eq_some_iff] at h
    obtain ⟨⟨r, s1⟩, hop, h⟩ := h
    rw [List.cons_append]
    refine wpListIn_plain hp1.2 fun K hK => ?_
    obtain ⟨rfl, v, hv1, hv2⟩ := opA_look hp1.1 hI (a := a) (fun x _ => V_ev he.val x) hop
    refine ⟨fun f _ => hF f, ?_⟩
    rw [Oper.semAt_plain F _ _ (by intro c hc; have := hp1.1; rw [hc] at this; cases this), hv1]
    refine hK _ _ ?_
    refine opsA_look hF hI l _ _ env' s' (fun o' ho' => hp o' (List.mem_cons_of_mem _ ho')) (fun o' ho' => hd o' (List.mem_cons_of_mem _ ho')) h (he.put (.refl _) hd1 hv2) fun a'' h4 h5 h6 => hQ a'' h4 (h5.trans (put_tmps a o.dst v).1) fun t ht => ?_
    rw [h6 t fun o' ho' => ht o' (List.mem_cons_of_mem _ ho')]
    have hot := ht o (List.mem_cons_self ..)
    cases hdst : o.dst with
    | none => rfl
    | some d => rw [put_get a d v t (by rw [he.size]; exact hd1 d hdst), if_neg (fun e => hot (by rw [hdst, e]))]
theorem ops1_cap {q : Bool} {all : Array Oper} {l : List Oper} {φ : Ex → Env → St → Prop} {env : Env} {s : St} {o : Out} (h : ops1 P cfg call q all l (capK φ) env s = some o) : ∃ env' s', opsA P cfg call q all l env s = some (env', s') ∧ φ .normal env' s' := by
  unfold ops1 at h
  simp only [Option.bind_eq_some_iff] at h
  obtain ⟨⟨env', s'⟩, h1, h2⟩ := h
  exact ⟨env', s', h1, of_capK h2⟩
theorem callInF {o : Oper} {a : Act} {w : World} {c : Call} {fo : Operand} {n : Nat} (ho : o.op = .call c) (hc : c.callee = .value fo) {f : FuncId} {caps : List Value} (hf : a.eval fo = .func (.func f) #[] caps.toArray)
    {fn : Func} {cd : Code} (h1 : P.funcs[f]? = some fn) (h2 : fn.name ≠ "runtime.NumGoroutine") (h3 : fn.body = some cd) {R : Ending → World → Prop} (hC : Calls P f (c.args.toList.map a.eval ++ caps).toArray w R)
    {next : Act → World → Prop} {Q : Exit → Act → World → Prop} (hR : ∀ e w', R e w' → ∃ v, e = .returned v ∧ next (a.put o.dst v) w') : o.wpIn Fence.wide n P a w next Q := by
  have hrun : (execOp a.eval o).run P w = .ok (.enter f (c.args.toList.map a.eval ++ caps).toArray) w := by
    have hne : (fn.name == "runtime.NumGoroutine") = false := by simpa using h2
    have hargs : c.args.map a.eval ++ caps.toArray = (c.args.toList.map a.eval ++ caps).toArray := by
      apply Array.ext'; simp
    simp only [execOp, ho, resolve, hc, Sem.run_bind, Deferred.ofValue, hf, Sem.run_pure, Result.andThen_ok, invoke, callFunc, run_program, h1, hne, h3, Option.isNone_some, Bool.false_eq_true, if_false, Array.empty_append, hargs]
  refine ⟨fun f _ => trivial, ?_⟩
  rw [Oper.semAt_plain _ _ _ (by intro c hc; rw [hc] at ho; cases ho), hrun]
  refine ⟨fun h => (by cases h), (callsIn_wide.2 hC).mono fun e w' hr => ?_⟩
  obtain ⟨v, rfl, hn⟩ := hR e w' hr
  exact hn
theorem roundInF {o : Oper} {a : Act} {w : World} {c : Call} {fo : Operand} {n l : Nat} (ho : o.op = .call c) (hc : c.callee = .value fo) (hf : a.eval fo = .func (.yield l) #[] #[])
    {R : Ending → World → Prop} (hY : YieldAt Fence.wide (n - 1) P l (c.args.toList.map a.eval).toArray w R)
    {next : Act → World → Prop} {Q : Exit → Act → World → Prop} (hR : ∀ e w', R e w' → ∃ v, e = .returned v ∧ next (a.put o.dst v) w') : o.wpIn Fence.wide n P a w next Q := by
  obtain ⟨fn, tmps, assign, body, hy, hr⟩ := hY
  have hrun : (execOp a.eval o).run P w = .ok (.round l fn tmps assign body) w := by
    have hargs : c.args.map a.eval = (c.args.toList.map a.eval).toArray := by
      apply Array.ext'; simp
    simp only [execOp, ho, resolve, hc, Sem.run_bind, Deferred.ofValue, hf, Sem.run_pure, Result.andThen_ok, invoke, Array.empty_append]
    rw [hargs]
    exact hy
  refine ⟨fun f _ => trivial, ?_⟩
  rw [Oper.semAt_plain _ _ _ (by intro c hc; rw [hc] at ho; cases ho), hrun]
  refine ⟨fun h => (by cases h), hr.mono fun e w' hr => ?_⟩
  obtain ⟨v, rfl, hn⟩ := hR e w' hr
  exact hn
end
end Go.Ab

/- term.List keeps its contract: a range over a function. Conditions: lengths in range. -/
namespace Go.Ab
open Go.Proofs
set_option maxRecDepth 100000
set_option linter.unusedSimpArgs false
set_option linter.unusedVariables false

theorem lsTk : tkOf Try.prog 28 = .st := by kernel_rfl
theorem lsEsz : esz Try.prog 28 = some 6 := by kernel_rfl
theorem lsSh : shOf Try.prog 28 = some (true, 6) := by kernel_rfl
theorem lsZero : zeroOf Try.prog 28 = some [.int .i64 0, .bool false, .sl [] 0 .nil, .str [], .int .i64 0, .sl [] 0 .nil] := by kernel_rfl
theorem lsPl : placesA Try.prog 28 = some [(0, 1), (1, 2), (3, 1), (4, 1), (5, 1)] := by kernel_rfl
theorem lsTkK : tkOf Try.prog 26 = .sl 28 := by kernel_rfl
theorem lsShK : shOf Try.prog 26 = some (false, 1) := by kernel_rfl
def looker (S : Nat → Nat → Prop) (W : World) : G := ⟨fun _ => ⟨0, 0, 0⟩, fun _ => ⟨0, .dead⟩, S, W⟩
theorem looker_inv {S : Nat → Nat → Prop} {W : World} (h : ∀ b o, S b o → b < W.heap.size) : Inv (looker S W) := by
  have hnr : ∀ p b o, ¬ Rg (looker S W) p b o := fun p b o h => by simp [Rg, looker] at h
  exact ⟨⟨fun p => by simp [EntOk, EntC, looker], fun p q b o _ h => absurd h (hnr p b o), fun b o hs => ⟨h b o hs, fun p => hnr p b o⟩⟩, fun p t xs hs h => by simp [looker] at h⟩
def KpS (S : Nat → Nat → Prop) (W W' : World) : Prop := W.heap.size ≤ W'.heap.size ∧ ∀ b o, S b o → W'.cell? ⟨b, o, none⟩ = W.cell? ⟨b, o, none⟩
theorem KpS.stays {S : Nat → Nat → Prop} {W W' : World} (h : KpS S W W') : Stays S W S W' := fun b o hs => ⟨hs, h.2 b o hs⟩
theorem KpS.back {S : Nat → Nat → Prop} {W W' : World} (h : KpS S W W') : Stays S W' S W := fun b o hs => ⟨hs, (h.2 b o hs).symm⟩
theorem KpS.refl (S : Nat → Nat → Prop) (W : World) : KpS S W W := ⟨Nat.le_refl _, fun _ _ _ => rfl⟩
theorem KpS.trans {S : Nat → Nat → Prop} {A B C : World} (h : KpS S A B) (k : KpS S B C) : KpS S A C := ⟨Nat.le_trans h.1 k.1, fun b o hs => (k.2 b o hs).trans (h.2 b o hs)⟩
abbrev Item (S : Nat → Nat → Prop) (W : World) (xs : List AV) (len : Nat) := { p : Nat × List Value // p.1 < len ∧ VL S W (chunk xs p.1) p.2 }
def Item.encs {S : Nat → Nat → Prop} {W : World} {xs : List AV} {len : Nat} (x : Item S W xs len) : Array Value := #[.int .i64 (x.1.1 : Int), .agg x.1.2.toArray]
theorem nocall : FnOk Try.prog (fun _ _ => none) := fun _ _ _ _ h => by cases h
def loopBody : Code → Code
  | .loop c => c
  | _ => .skip
def blockBody : Code → Code
  | .block _ c => c
  | _ => .skip
def seqR : Code → Code
  | .seq _ c => c
  | _ => .skip
def seqL : Code → Code
  | .seq c _ => c
  | _ => .skip
noncomputable def codeB : Code := (Try.f95.body).getD .skip
noncomputable def roundB : Code := loopBody (blockBody (seqR codeB))
noncomputable def r1B : Code := seqL (seqL roundB)
noncomputable def r3B : Code := seqL (blockBody (seqL (seqR roundB)))
noncomputable def r2B : Code := seqR (seqR roundB)
def opsR : Code → List Oper
  | .region _ ops _ => ops.toList
  | _ => []
theorem codeB_eq : codeB = .seq (.region 0 (opsR (seqL codeB)).toArray false) (.block 0 (.loop roundB)) := by kernel_rfl
theorem roundB_eq : roundB = .seq (.seq (.region 1 (opsR r1B).toArray false) (.cond (.tmp 8) .skip (.exit 0))) (.seq (.block 1 (.seq (.region 3 (opsR r3B).toArray false) (.cond (.tmp 18) .ret .skip))) (.region 2 (opsR r2B).toArray false)) := by kernel_rfl
noncomputable def moveB : Oper := ((opsR r3B)[0]?).getD default
noncomputable def midB : List Oper := ((opsR r3B).drop 1).take 5
noncomputable def callB : Oper := ((opsR r3B)[6]?).getD default
noncomputable def notB : Oper := ((opsR r3B)[7]?).getD default
theorem r3_split : opsR r3B = moveB :: (midB ++ [callB, notB]) := by kernel_rfl
theorem moveB_op : moveB.op = .move (.tmp 0) ∧ moveB.guard = none ∧ moveB.dst = some 11 := ⟨by kernel_rfl, by kernel_rfl, by kernel_rfl⟩
theorem callB_op : callB.op = .call ⟨.value (.tmp 11), #[.tmp 12, .tmp 16], #[3, 28]⟩ ∧ callB.guard = none ∧ callB.dst = some 17 := ⟨by kernel_rfl, by kernel_rfl, by kernel_rfl⟩
theorem notB_op : lookOp notB.op = true ∧ notB.guard = none ∧ notB.dst = some 18 := ⟨by kernel_rfl, by kernel_rfl, by kernel_rfl⟩
def okOps (l : List Oper) : Bool := l.all fun o => lookOp o.op && o.guard.isNone && (match o.dst with | some d => decide (d < 19) | none => true)
theorem okOps_look {l : List Oper} (h : okOps l = true) : ∀ o ∈ l, lookOp o.op = true ∧ o.guard = none := fun o ho => by
  have := List.all_eq_true.1 h o ho
  simp only [Bool.and_eq_true, Option.isNone_iff_eq_none] at this
  exact this.1
theorem okOps_dst {l : List Oper} (h : okOps l = true) : ∀ o ∈ l, ∀ d, o.dst = some d → d < 19 := fun o ho d hd => by
  have := List.all_eq_true.1 h o ho
  simp only [Bool.and_eq_true] at this
  have := this.2
  rw [hd] at this
  simpa using this
section
variable (env : Env) (s : St)
theorem r0_run (xs : List AV) (len : Nat) (g : Grip) (hlen : len ≤ 9223372036854775807) (h1 : env 1 = .rptr [.sl xs len g]) : ∃ env', opsA Try.prog cfg0 (fun _ _ => none) false (opsR (seqL codeB)).toArray (opsR (seqL codeB)) env s = some (env', s) ∧ env' 1 = env 1 ∧ env' 3 = .int .i64 ((len : Int) - 1) := by
  have h : ops1 Try.prog cfg0 (fun _ _ => none) false (opsR (seqL codeB)).toArray (opsR (seqL codeB)) (capK fun _ env' s' => s' = s ∧ env' 1 = env 1 ∧ env' 3 = .int .i64 ((len : Int) - 1)) env s = some (.tree .undef, []) := by
    have ld : ∀ st, loadA Try.prog 26 st (.rptr [.sl xs len g]) = some (.sl xs len g) := fun st => by simp only [loadA, partA, lsShK]; rfl
    have ln : ∀ st, lenA Try.prog 26 st (.sl xs len g) = some (.int .i64 (len : Int)) := fun st => by simp only [lenA, lsTkK]
    have sb := i_sub Try.prog 3 (len : Int) 1 (by omega) (by omega)
    simp only [opsR, codeB, seqL, Try.f95, simB, zbo, Nat.reduceBEq, own0, ↓reduceIte, Nat.reduceEqDiff, Nat.reduceAdd, h1, ld, ln, sb]
    exact capK_of ⟨rfl, (by simp only [zfk, ↓reduceIte, Nat.reduceEqDiff, h1]; try rfl), (by simp only [zfk, ↓reduceIte, Nat.reduceEqDiff]; try rfl)⟩
  obtain ⟨env', s', e1, rfl, e2, e3⟩ := ops1_cap h
  exact ⟨env', e1, e2, e3⟩
theorem r1_run (i : Int) (h3 : env 3 = .int .i64 i) : ∃ env', opsA Try.prog cfg0 (fun _ _ => none) false (opsR r1B).toArray (opsR r1B) env s = some (env', s) ∧ env' 1 = env 1 ∧ env' 3 = .int .i64 i ∧ env' 8 = .bool (decide (i ≥ 0)) := by
  have h : ops1 Try.prog cfg0 (fun _ _ => none) false (opsR r1B).toArray (opsR r1B) (capK fun _ env' s' => s' = s ∧ env' 1 = env 1 ∧ env' 3 = .int .i64 i ∧ env' 8 = .bool (decide (i ≥ 0))) env s = some (.tree .undef, []) := by
    simp only [opsR, r1B, roundB, codeB, seqL, seqR, loopBody, blockBody, Try.f95, simB, zbo, Nat.reduceBEq, own0, ↓reduceIte, Nat.reduceEqDiff, Nat.reduceAdd, simL, h3]
    exact capK_of ⟨rfl, (by simp only [zfk, ↓reduceIte, Nat.reduceEqDiff]; try rfl), (by simp only [zfk, ↓reduceIte, Nat.reduceEqDiff, h3]; try rfl), (by simp only [zfk, ↓reduceIte, Nat.reduceEqDiff]; try rfl)⟩
  obtain ⟨env', s', e1, rfl, e2, e3, e4⟩ := ops1_cap h
  exact ⟨env', e1, e2, e3, e4⟩
theorem r2_run (i : Nat) (hi : i ≤ 9223372036854775807) (h3 : env 3 = .int .i64 (i : Int)) : ∃ env', opsA Try.prog cfg0 (fun _ _ => none) false (opsR r2B).toArray (opsR r2B) env s = some (env', s) ∧ env' 1 = env 1 ∧ env' 3 = .int .i64 ((i : Int) - 1) := by
  have h : ops1 Try.prog cfg0 (fun _ _ => none) false (opsR r2B).toArray (opsR r2B) (capK fun _ env' s' => s' = s ∧ env' 1 = env 1 ∧ env' 3 = .int .i64 ((i : Int) - 1)) env s = some (.tree .undef, []) := by
    have sb := i_sub Try.prog 3 (i : Int) 1 (by omega) (by omega)
    simp only [opsR, r2B, roundB, codeB, seqL, seqR, loopBody, blockBody, Try.f95, simB, zbo, Nat.reduceBEq, own0, ↓reduceIte, Nat.reduceEqDiff, Nat.reduceAdd, simL, h3, sb]
    exact capK_of ⟨rfl, (by simp only [zfk, ↓reduceIte, Nat.reduceEqDiff]; try rfl), (by simp only [zfk, ↓reduceIte, Nat.reduceEqDiff]; try rfl)⟩
  obtain ⟨env', s', e1, rfl, e2, e3⟩ := ops1_cap h
  exact ⟨env', e1, e2, e3⟩
theorem r3_run (xs : List AV) (len : Nat) (g : Grip) (hx : xs.length = len * 6) (i : Nat) (hi : i < len) (h1 : env 1 = .rptr [.sl xs len g]) (h3 : env 3 = .int .i64 (i : Int)) : ∃ env', opsA Try.prog cfg0 (fun _ _ => none) false (opsR r3B).toArray midB env s = some (env', s) ∧ env' 1 = env 1 ∧ env' 3 = .int .i64 (i : Int) ∧ env' 12 = .int .i64 (i : Int) ∧ env' 16 = .agg (chunk xs i) := by
  have h : ops1 Try.prog cfg0 (fun _ _ => none) false (opsR r3B).toArray midB (capK fun _ env' s' => s' = s ∧ env' 1 = env 1 ∧ env' 3 = .int .i64 (i : Int) ∧ env' 12 = .int .i64 (i : Int) ∧ env' 16 = .agg (chunk xs i)) env s = some (.tree .undef, []) := by
    have ld : ∀ st, loadA Try.prog 26 st (.rptr [.sl xs len g]) = some (.sl xs len g) := fun st => by simp only [loadA, partA, lsShK]; rfl
    have ia : ∀ st, indexAddrA Try.prog 26 st (.sl xs len g) (.int .i64 (i : Int)) = some (.rptr (xs.drop (i * 6))) := fun st => by
      simp only [indexAddrA, lsTkK, lsEsz, Option.bind_some, Int.toNat_natCast]
      rw [if_pos ⟨by omega, by omega⟩]
    have l6 : ∀ st, loadA Try.prog 28 st (.rptr (xs.drop (i * 6))) = some (.agg (chunk xs i)) := fun st => by
      have : (i + 1) * 6 ≤ len * 6 := Nat.mul_le_mul_right 6 hi
      simp only [loadA, partA, lsSh, List.length_drop, List.drop_zero]
      rw [if_pos (by omega)]
      rfl
    simp only [opsR, midB, r3B, roundB, codeB, seqL, seqR, loopBody, blockBody, Try.f95, List.drop_succ_cons, List.drop_zero, List.take_succ_cons, List.take_zero, simB, zbo, Nat.reduceBEq, own0, ↓reduceIte, Nat.reduceEqDiff, Nat.reduceAdd, simL, h1, h3, ld, ia, l6]
    exact capK_of ⟨rfl, (by simp only [zfk, ↓reduceIte, Nat.reduceEqDiff, h1]; try rfl), (by simp only [zfk, ↓reduceIte, Nat.reduceEqDiff, h3]; try rfl), (by simp only [zfk, ↓reduceIte, Nat.reduceEqDiff]; try rfl), (by simp only [zfk, ↓reduceIte, Nat.reduceEqDiff]; try rfl)⟩
  obtain ⟨env', s', e1, rfl, e2, e3, e4, e5⟩ := ops1_cap h
  exact ⟨env', e1, e2, e3, e4, e5⟩
theorem not_run (b : Bool) (h17 : env 17 = .bool b) : ∃ env', opsA Try.prog cfg0 (fun _ _ => none) false (opsR r3B).toArray [notB] env s = some (env', s) ∧ env' 1 = env 1 ∧ env' 3 = env 3 ∧ env' 18 = .bool (!b) := by
  have h : ops1 Try.prog cfg0 (fun _ _ => none) false (opsR r3B).toArray [notB] (capK fun _ env' s' => s' = s ∧ env' 1 = env 1 ∧ env' 3 = env 3 ∧ env' 18 = .bool (!b)) env s = some (.tree .undef, []) := by
    have un : unA .not (.bool b) = some (.bool (!b)) := rfl
    simp only [opsR, notB, r3B, roundB, codeB, seqL, seqR, loopBody, blockBody, Try.f95, List.getElem?_cons_succ, List.getElem?_cons_zero, simB, zbo, Nat.reduceBEq, own0, ↓reduceIte, Nat.reduceEqDiff, Nat.reduceAdd, simL, h17, un]
    exact capK_of ⟨rfl, (by simp only [zfk, ↓reduceIte, Nat.reduceEqDiff]; try rfl), (by simp only [zfk, ↓reduceIte, Nat.reduceEqDiff]; try rfl), (by simp only [zfk, ↓reduceIte, Nat.reduceEqDiff]; try rfl)⟩
  obtain ⟨env', s', e1, rfl, e2, e3, e4⟩ := ops1_cap h
  exact ⟨env', e1, e2, e3, e4⟩
end
theorem V_look {S : Nat → Nat → Prop} {W W' : World} (h : KpS S W W') {x : AV} {v : Value} (k : V (looker S W) x v) : V (looker S W') x v := by
  unfold V at k ⊢
  split at k
  · exact ⟨k.1, fun xs hc => by simp [cellsAt, looker] at hc⟩
  · exact ⟨k.1, fun xs hc => by simp [cellsAt, looker] at hc⟩
  · exact ⟨V0.mono h.stays _ _ k.1, k.2.1, fun e he => by simp [looker] at he⟩
  · obtain ⟨u, us, hv, ⟨ht, _⟩, hr⟩ := k
    exact ⟨u, us, hv, ⟨ht, fun xs hc => by simp [cellsAt, looker] at hc⟩, VT.mono h.stays _ _ hr⟩
  · obtain ⟨us, u, hv, hr, ho, ht, _⟩ := k
    exact ⟨us, u, hv, VL.mono h.stays _ _ hr, ho, ht, fun xs hc => by simp [cellsAt, looker] at hc⟩
  · obtain ⟨b, o, cap, hv, h1, h2, hc⟩ := k
    exact ⟨b, o, cap, hv, h1, h2, VC.mono h.stays _ _ _ hc⟩
  · exact V0.mono h.stays _ _ k
theorem EnvV.look {S : Nat → Nat → Prop} {W W' : World} (h : KpS S W W') {env : Env} {a : Act} {m : Nat} (k : EnvV (looker S W) env a m) : EnvV (looker S W') env a m := ⟨k.size, fun t => V_look h (k.val t)⟩
theorem okm : okOps midB = true := by kernel_rfl
theorem ok1 : okOps (opsR r1B) = true := by kernel_rfl
theorem ok2 : okOps (opsR r2B) = true := by kernel_rfl
theorem ok0 : okOps (opsR (seqL codeB)) = true := by kernel_rfl
theorem okn : okOps [notB] = true := by kernel_rfl
theorem no0_1 : (opsR r1B).all (fun o => o.dst != some 0) = true := by kernel_rfl
theorem no0_2 : (opsR r2B).all (fun o => o.dst != some 0) = true := by kernel_rfl
theorem no0_0 : (opsR (seqL codeB)).all (fun o => o.dst != some 0) = true := by kernel_rfl
theorem no0_m : midB.all (fun o => o.dst != some 0 && o.dst != some 11) = true := by kernel_rfl
theorem no_dst {l : List Oper} {t : Nat} (h : l.all (fun o => o.dst != some t) = true) : ∀ o ∈ l, o.dst ≠ some t := fun o ho => by
  have := List.all_eq_true.1 h o ho
  simpa using this
set_option maxHeartbeats 1000000 in
theorem back_rounds {S1 : Nat → Nat → Prop} {W0 : World} {xs : List AV} {len : Nat} {g : Grip} (hlen : len ≤ 9223372036854775807) (hx : xs.length = len * 6) (hS : ∀ b o, S1 b o → b < W0.heap.size)
    (N l : Nat) (J Jx : List (Item S1 W0 xs len) → World → Prop) (Q : Exit → Act → World → Prop)
    (hY : ∀ pre x W1, J pre W1 → pre.length < len → YieldAt Fence.wide (N - 1) Try.prog l (Item.encs x) W1 fun e W' => (e = .returned (.bool true) ∧ J (pre ++ [x]) W' ∧ KpS S1 W1 W') ∨ (e = .returned (.bool false) ∧ Jx (pre ++ [x]) W'))
    (hdone : ∀ pre W a, pre.map (·.1.1) = downTo len → J pre W → a.defers = [] → Q (.exit 0) a W) (hstop : ∀ pre W a, Jx pre W → a.defers = [] → Q .ret a W) :
    ∀ (n : Nat) (pre : List (Item S1 W0 xs len)) (W1 : World) (a : Act) (env : Env), n ≤ len → pre.length + n = len → pre.map (·.1.1) ++ downTo n = downTo len → J pre W1 → KpS S1 W0 W1 → EnvV (looker S1 W1) env a 19 → env 1 = .rptr [.sl xs len g] → env 3 = .int .i64 ((n : Int) - 1) → a.defers = [] → a.tmps.getD 0 undef = .func (.yield l) #[] #[] →
      Code.roundsIn Fence.wide N Try.prog roundB Q (n + 1) a W1 := by
  intro n
  induction n with
  | zero =>
    intro pre W1 a env _ _ hp hJ hK he e1 e3 hd hy0
    have hI1 : Inv (looker S1 W1) := looker_inv fun b o h => Nat.lt_of_lt_of_le (hS b o h) hK.1
    rw [roundsIn_succ, roundB_eq]
    refine wpIn_seq (wpIn_seq (wpIn_region_list ?_))
    obtain ⟨env', h1, h2, h3, h4⟩ := r1_run env (looker S1 W1).s _ e3
    rw [← List.append_nil (opsR r1B).toArray.toList]
    refine opsA_look (fun _ => trivial) hI1 (opsR r1B) env a env' _ (okOps_look ok1) (okOps_dst ok1) h1 he fun a' k1 k2 k3 => wpListIn_nil ?_
    have hc : a'.eval (.tmp 8) = .bool false := by
      have := k1.val 8
      rw [h4, V_bool] at this
      have h0 : decide (((0 : Nat) : Int) - 1 ≥ 0) = false := by decide
      rw [h0] at this
      exact this
    refine wpIn_cond_false hc (wpIn_exit ?_)
    refine hdone pre W1 a' ?_ hJ (k2.trans hd)
    simpa [downTo] using hp
  | succ n ih =>
    intro pre W1 a env hn hlp hp hJ hK he e1 e3 hd hy0
    have hI1 : Inv (looker S1 W1) := looker_inv fun b o h => Nat.lt_of_lt_of_le (hS b o h) hK.1
    have e3' : env 3 = .int .i64 (n : Int) := by rw [e3]; congr 1; omega
    rw [roundsIn_succ, roundB_eq]
    refine wpIn_seq (wpIn_seq (wpIn_region_list ?_))
    obtain ⟨env1, h1, h2, h3, h4⟩ := r1_run env (looker S1 W1).s _ e3'
    rw [← List.append_nil (opsR r1B).toArray.toList]
    refine opsA_look (fun _ => trivial) hI1 (opsR r1B) env a env1 _ (okOps_look ok1) (okOps_dst ok1) h1 he fun a1 k1 k2 k3 => wpListIn_nil ?_
    have hc : a1.eval (.tmp 8) = .bool true := by
      have := k1.val 8
      rw [h4, V_bool] at this
      have h0 : decide ((n : Int) ≥ 0) = true := decide_eq_true (by omega)
      rw [h0] at this
      exact this
    have y1 : a1.tmps.getD 0 undef = .func (.yield l) #[] #[] := (k3 0 (no_dst no0_1)).trans hy0
    refine wpIn_cond_true hc (wpIn_skip ?_)
    refine wpIn_seq (wpIn_block (wpIn_seq (wpIn_region_list ?_)))
    show wpListIn _ _ _ _ _ (opsR r3B) a1 W1
    rw [r3_split]
    refine wpListIn_plain moveB_op.2.1 fun K hK' => ?_
    refine ⟨fun f _ => trivial, ?_⟩
    have hm : (execOp a1.eval moveB).run Try.prog W1 = .ok (.value (.func (.yield l) #[] #[])) W1 := by
      rw [← y1]
      simp only [execOp, moveB_op.1]
      rfl
    rw [Oper.semAt_plain _ _ _ (by intro c hc; rw [moveB_op.1] at hc; cases hc), hm]
    refine hK' _ _ ?_
    have k1' : EnvV (looker S1 W1) (setO env1 (some 11) .undef) (a1.put moveB.dst (.func (.yield l) #[] #[])) 19 := by
      have := k1.put (Γ' := looker S1 W1) (.refl _) (d := moveB.dst) (r := .undef) (v := .func (.yield l) #[] #[]) (by rw [moveB_op.2.2]; intro x hx; cases hx; decide) (V_cell (by simp only [V0]))
      rwa [moveB_op.2.2] at this ⊢
    have g1 : (setO env1 (some 11) .undef) 1 = .rptr [.sl xs len g] := by simp only [setO]; rw [upd_ne _ _ (by decide), h2, e1]
    have g3 : (setO env1 (some 11) .undef) 3 = .int .i64 (n : Int) := by simp only [setO]; rw [upd_ne _ _ (by decide), h3]
    have hn' : n < len := hn
    obtain ⟨env2, f1, f2, f3, f4, f5⟩ := r3_run (setO env1 (some 11) .undef) (looker S1 W1).s xs len g hx n hn' g1 g3
    refine opsA_look (fun _ => trivial) hI1 midB _ _ env2 _ (okOps_look okm) (okOps_dst okm) f1 k1' fun a2 m1 m2 m3 => ?_
    have nm : ∀ t, t = 0 ∨ t = 11 → ∀ o ∈ midB, o.dst ≠ some t := fun t ht o ho => by
      have := List.all_eq_true.1 no0_m o ho
      simp only [Bool.and_eq_true, bne_iff_ne] at this
      rcases ht with rfl | rfl
      · exact this.1
      · exact this.2
    have hsz : 11 < a1.tmps.size := by rw [k1.size]; decide
    have y2 : a2.tmps.getD 0 undef = .func (.yield l) #[] #[] := by
      rw [m3 0 (nm 0 (.inl rfl)), moveB_op.2.2, put_get _ _ _ _ hsz, if_neg (by decide)]; exact y1
    have y11 : a2.tmps.getD 11 undef = .func (.yield l) #[] #[] := by
      rw [m3 11 (nm 11 (.inr rfl)), moveB_op.2.2, put_get _ _ _ _ hsz, if_pos rfl]
    have v12 : a2.tmps.getD 12 undef = .int .i64 (n : Int) := by have := m1.val 12; rwa [f4, V_int] at this
    obtain ⟨vs, v16, hvs⟩ : ∃ vs : List Value, a2.tmps.getD 16 undef = .agg vs.toArray ∧ VL S1 W1 (chunk xs n) vs := by
      have := m1.val 16
      rw [f5] at this
      have := (V_tree rfl).1 this
      exact this
    have d2 : a2.defers = [] := m2.trans ((put_tmps a1 moveB.dst _).1.trans (k2.trans hd))
    let x : Item S1 W0 xs len := ⟨(n, vs), hn', VL.mono hK.back _ _ hvs⟩
    refine wpListIn_plain callB_op.2.1 fun K2 hK2 => ?_
    refine roundInF callB_op.1 rfl y11 (R := fun e W' => (e = .returned (.bool true) ∧ J (pre ++ [x]) W' ∧ KpS S1 W1 W') ∨ (e = .returned (.bool false) ∧ Jx (pre ++ [x]) W')) ?_ ?_
    · have hargs : (List.map a2.eval #[Operand.tmp 12, Operand.tmp 16].toList).toArray = Item.encs x := by
        show #[a2.tmps.getD 12 undef, a2.tmps.getD 16 undef] = #[.int .i64 (n : Int), .agg vs.toArray]
        rw [v12, v16]
      show YieldAt _ _ _ _ (List.map a2.eval #[Operand.tmp 12, Operand.tmp 16].toList).toArray _ _
      rw [hargs]
      exact hY pre x W1 hJ (by omega)
    · rintro e W' (⟨rfl, hJ', hk'⟩ | ⟨rfl, hJ'⟩)
      · -- the round goes on
        refine ⟨_, rfl, hK2 _ _ ?_⟩
        rw [callB_op.2.2]
        have hI2 : Inv (looker S1 W') := looker_inv fun b o h => Nat.lt_of_lt_of_le (hS b o h) (hK.trans hk').1
        have q1 : EnvV (looker S1 W') (setO env2 (some 17) (.bool true)) (a2.put (some 17) (.bool true)) 19 := (m1.look hk').put (Γ' := looker S1 W') (.refl _) (by intro x hx; cases hx; decide) (by rw [V_bool])
        obtain ⟨env3, n1, n2, n3, n4⟩ := not_run (setO env2 (some 17) (.bool true)) (looker S1 W').s true (by simp only [setO, upd_same])
        show wpListIn _ _ _ _ _ [notB] _ _
        rw [← List.append_nil [notB]]
        refine opsA_look (fun _ => trivial) hI2 [notB] _ _ env3 _ (okOps_look okn) (okOps_dst okn) n1 q1 fun a3 p1 p2 p3 => wpListIn_nil ?_
        have hc3 : a3.eval (.tmp 18) = .bool false := by
          have := p1.val 18
          rw [n4, V_bool] at this
          exact this
        refine wpIn_cond_false hc3 (wpIn_skip ?_)
        refine wpIn_region_list ?_
        have y3 : a3.tmps.getD 0 undef = .func (.yield l) #[] #[] := by
          rw [p3 0 (by intro o ho; simp only [List.mem_singleton] at ho; subst ho; rw [notB_op.2.2]; decide), put_get _ _ _ _ (by rw [m1.size]; decide), if_neg (by decide)]; exact y2
        have h33 : env3 3 = .int .i64 (n : Int) := by rw [n3]; simp only [setO]; rw [upd_ne _ _ (by decide), f3]
        have h31 : env3 1 = .rptr [.sl xs len g] := by rw [n2]; simp only [setO]; rw [upd_ne _ _ (by decide), f2, g1]
        obtain ⟨env4, o1, o2, o3⟩ := r2_run env3 (looker S1 W').s n (by omega) h33
        rw [← List.append_nil (opsR r2B).toArray.toList]
        refine opsA_look (fun _ => trivial) hI2 (opsR r2B) _ _ env4 _ (okOps_look ok2) (okOps_dst ok2) o1 p1 fun a4 t1 t2 t3 => wpListIn_nil ?_
        refine ih (pre ++ [x]) W' a4 env4 (by omega) (by simp; omega) ?_ hJ' (hK.trans hk') t1 (by rw [o2, h31]) o3 (t2.trans (p2.trans ((put_tmps a2 _ _).1.trans d2))) ((t3 0 (no_dst no0_2)).trans y3)
        simp only [List.map_append, List.map_cons, List.map_nil, List.append_assoc]
        exact hp
      · refine ⟨_, rfl, hK2 _ _ ?_⟩
        rw [callB_op.2.2]
        -- the abstract state of no use any more: the world is read no more
        have q1 : EnvV (looker (fun _ _ => False) W') (fun t => if t = 17 then .bool false else .undef) (a2.put (some 17) (.bool false)) 19 := by
          refine ⟨(put_tmps a2 _ _).2.trans m1.size, fun t => ?_⟩
          rw [put_get _ _ _ _ (by rw [m1.size]; decide)]
          by_cases ht : t = 17
          · subst ht; simp only [if_true]; rw [V_bool]
          · simp only [if_neg ht]; exact V_cell (by simp only [V0])
        obtain ⟨env3, n1, n2, n3, n4⟩ := not_run (fun t => if t = 17 then .bool false else .undef) (looker (fun _ _ => False) W').s false rfl
        show wpListIn _ _ _ _ _ [notB] _ _
        rw [← List.append_nil [notB]]
        refine opsA_look (Γ := looker (fun _ _ => False) W') (fun _ => trivial) (looker_inv fun b o h => h.elim) [notB] _ _ env3 _ (okOps_look okn) (okOps_dst okn) n1 q1 fun a3 p1 p2 p3 => wpListIn_nil ?_
        have hc3 : a3.eval (.tmp 18) = .bool true := by
          have := p1.val 18
          rw [n4, V_bool] at this
          exact this
        refine wpIn_cond_true hc3 (wpIn_ret ?_)
        exact hstop _ _ a3 hJ' (p2.trans ((put_tmps a2 _ _).1.trans d2))
theorem act2_size (x y : Value) (k : Nat) (h : k = 19) : ((#[x] ++ #[y]) ++ Array.replicate (k - (#[x] ++ #[y] : Array Value).size) undef).size = 19 := by subst h; simp
theorem act2_get (x y : Value) (k t : Nat) : ((#[x] ++ #[y]) ++ Array.replicate (k - (#[x] ++ #[y] : Array Value).size) undef).getD t undef = if t = 0 then x else if t = 1 then y else undef := by
  have h : ((#[x] ++ #[y]) : Array Value) = #[x, y] := rfl
  rw [h, Array.getD_eq_getD_getElem?, Array.getElem?_append]
  match t with
  | 0 => rfl
  | 1 => rfl
  | t + 2 =>
    have h1 : ¬ t + 2 < (#[x, y] : Array Value).size := by simp
    have e1 : ¬ t + 2 = 0 := by omega
    have e2 : ¬ t + 2 = 1 := by omega
    rw [if_neg h1, if_neg e1, if_neg e2, Array.getElem?_replicate]
    split <;> rfl
theorem back_stops {S1 : Nat → Nat → Prop} {W0 : World} {xs : List AV} {len : Nat} {g : Grip} {bp : Value} (hlen : len ≤ 9223372036854775807) (hx : xs.length = len * 6) (hS : ∀ b o, S1 b o → b < W0.heap.size) (hb : V0 S1 W0 (.rptr [.sl xs len g]) bp) (N : Nat) :
    SeqStopsK Fence.wide N Try.prog 95 #[bp] (Item.encs (S := S1) (W := W0) (xs := xs) (len := len)) (KpS S1) (fun ys => ys.map (·.1.1) = downTo len) (fun _ => True) len W0 := by
  intro l J Jx W hW _ _ hY hJ
  have hK : KpS S1 W0 W := ⟨hW.size, fun b o h => hW.cell (p := ⟨b, o, none⟩) (hS b o h)⟩
  have hI : Inv (looker S1 W) := looker_inv fun b o h => Nat.lt_of_lt_of_le (hS b o h) hK.1
  have H : ∀ a : Act, a.defers = [] → EnvV (looker S1 W) (fun t => if t = 1 then .rptr [.sl xs len g] else .undef) a 19 → a.tmps.getD 0 undef = .func (.yield l) #[] #[] →
      codeB.wpIn Fence.wide N Try.prog (bodyPostM Fence.wide N Try.prog Try.f95 fun e W' => (∃ v, e = .returned v) ∧ ((∃ ys : List (Item S1 W0 xs len), ys.map (·.1.1) = downTo len ∧ J ys W') ∨ (∃ pre : List (Item S1 W0 xs len), True ∧ Jx pre W'))) a W := by
    intro a hd he hy
    rw [codeB_eq]
    refine wpIn_seq (wpIn_region_list ?_)
    obtain ⟨env', h1, h2, h3⟩ := r0_run (fun t => if t = 1 then .rptr [.sl xs len g] else .undef) (looker S1 W).s xs len g hlen rfl
    rw [← List.append_nil (opsR (seqL codeB)).toArray.toList]
    refine opsA_look (fun _ => trivial) hI (opsR (seqL codeB)) _ a env' _ (okOps_look ok0) (okOps_dst ok0) h1 he fun a1 k1 k2 k3 => wpListIn_nil ?_
    refine wpIn_block (wpIn_loop_rounds (len + 1) ?_)
    refine back_rounds hlen hx hS N l J Jx _ hY ?_ ?_ len [] W a1 env' (Nat.le_refl _) (by simp) (by simp) hJ hK k1 (by rw [h2]; rfl) h3 (k2.trans hd) ((k3 0 (no_dst no0_0)).trans hy)
    · intro pre W' a' hp hJ' hd'
      simp only [Exit.inBlock, if_true, bodyPostM, hd', LeavesInM, LeavesIn]
      exact ⟨_, results_none (by kernel_rfl) _ _ _, ⟨_, rfl⟩, .inl ⟨pre, hp, hJ'⟩⟩
    · intro pre W' a' hJ' hd'
      simp only [Exit.inBlock, bodyPostM, hd', LeavesInM, LeavesIn]
      exact ⟨_, results_none (by kernel_rfl) _ _ _, ⟨_, rfl⟩, .inr ⟨pre, trivial, hJ'⟩⟩
  refine callsIn_of_wp_marks (fn := Try.f95) (c := codeB) Try.func95 (by kernel_rfl) trivial (H _ rfl ?_ ?_)
  · refine ⟨act2_size _ _ _ Try.ntmps95, fun t => ?_⟩
    show V _ _ (Array.getD _ _ _)
    rw [act2_get]
    by_cases ht : t = 1
    · subst ht
      simp only [if_true]
      exact V_cell (V0.mono hK.stays _ _ hb)
    · simp only [if_neg ht]; exact V_cell (by simp only [V0])
  · show Array.getD _ _ _ = _
    rw [act2_get]; rfl

set_option maxHeartbeats 1000000 in
theorem backward_calls (a : Option Addr) (len cap : Nat) (w : World) :
    Calls Try.prog 93 #[.slice a len cap] w fun e w' => e = .returned (.func (.func 95) #[] #[.pointer (some ⟨w.heap.size, 0, none⟩)]) ∧ w' = w.alloc (.cells #[.slice a len cap] 26) := by
  refine calls_of_wp Try.func93 rfl ?_
  simp only [Try.ntmps93, List.size_toArray, List.length_cons, List.length_nil, Nat.reduceAdd, Nat.reduceSub, Array.replicate_succ, Array.replicate_zero, List.push_toArray, List.append_toArray, List.nil_append, List.cons_append]
  go_wp2
  go_ret
  exact ⟨rfl, rfl⟩

def canS (Γ1 : G) (W : World) : Nat → Nat → Prop := fun b o => Γ1.S b o ∨ (Γ1.w.heap.size ≤ b ∧ ∃ v, W.cell? ⟨b, o, none⟩ = some v)
def canG (Γ1 : G) (cur c4 : List AV) (W : World) : G := { φ := Γ1.φ, s := upd (upd Γ1.s 3 ⟨(Γ1.s 3).t, .buf cur⟩) 4 ⟨(Γ1.s 4).t, .buf c4⟩, S := canS Γ1 W, w := W }
structure Ahead (Γ1 : G) (ys zs : List AV) : Prop where
  inv : Inv Γ1
  e3 : ∃ t, Γ1.s 3 = ⟨t, .buf ys⟩
  e4 : ∃ t, Γ1.s 4 = ⟨t, .buf zs⟩
  l3 : ys.length = 6
  l4 : zs.length = 6
  rest : ∀ p, p ≠ 3 → p ≠ 4 → (Γ1.s p).c = .dead
def CI (Γ1 : G) (cur c4 : List AV) (W : World) : Prop := Inv (canG Γ1 cur c4 W) ∧ Ext Γ1 (canG Γ1 cur c4 W) ∧ cur.length = 6 ∧ c4.length = 6
theorem can3 (Γ1 : G) (cur c4 : List AV) (W : World) : (canG Γ1 cur c4 W).s 3 = ⟨(Γ1.s 3).t, .buf cur⟩ := by
  unfold canG
  dsimp only
  rw [upd_ne _ _ (by decide), upd_same]
theorem can4 (Γ1 : G) (cur c4 : List AV) (W : World) : (canG Γ1 cur c4 W).s 4 = ⟨(Γ1.s 4).t, .buf c4⟩ := by
  unfold canG
  dsimp only
  rw [upd_same]
theorem canO (Γ1 : G) (cur c4 : List AV) (W : World) {p : Nat} (h3 : p ≠ 3) (h4 : p ≠ 4) : (canG Γ1 cur c4 W).s p = Γ1.s p := by
  unfold canG
  dsimp only
  rw [upd_ne _ _ h4, upd_ne _ _ h3]
theorem len6 {l : List AV} (h : l.length = 6) : ∃ x xs, l = x :: xs := by
  cases l with
  | nil => cases h
  | cons x xs => exact ⟨x, xs, rfl⟩
theorem Ahead.solid {Γ1 : G} {ys zs : List AV} (hA : Ahead Γ1 ys zs) {cur c4 : List AV} {W : World} (h : CI Γ1 cur c4 W) : Solid (canG Γ1 cur c4 W).s := fun p => by
  by_cases h3 : p = 3
  · subst h3
    obtain ⟨x, xs, e⟩ := len6 h.2.2.1
    rw [can3, e]; exact .inr ⟨x, xs, rfl⟩
  · by_cases h4 : p = 4
    · subst h4
      obtain ⟨x, xs, e⟩ := len6 h.2.2.2
      rw [can4, e]; exact .inr ⟨x, xs, rfl⟩
    · rw [canO _ _ _ _ h3 h4]; exact .inl (hA.rest p h3 h4)
theorem Ahead.again {Γ1 Γ' : G} {ys zs : List AV} (hA : Ahead Γ1 ys zs) (hI : Inv Γ') (hE : Ext Γ1 Γ') {cur c4 : List AV} (h3 : Γ'.s 3 = ⟨(Γ1.s 3).t, .buf cur⟩) (h4 : Γ'.s 4 = ⟨(Γ1.s 4).t, .buf c4⟩) (l3 : cur.length = 6) (l4 : c4.length = 6) :
    CI Γ1 cur c4 Γ'.w ∧ (∀ b o, Here Γ'.S Γ'.w b o → canS Γ1 Γ'.w b o) ∧ Γ'.φ 3 = Γ1.φ 3 ∧ Γ'.φ 4 = Γ1.φ 4 := by
  obtain ⟨t3, e3⟩ := hA.e3
  obtain ⟨t4, e4⟩ := hA.e4
  have f3 : Γ'.φ 3 = Γ1.φ 3 := (hE.bf 3 t3 cur (by rw [e3]; exact Nat.le_refl _) (by unfold cellsAt; rw [h3, e3]; simp)).2
  have f4 : Γ'.φ 4 = Γ1.φ 4 := (hE.bf 4 t4 c4 (by rw [e4]; exact Nat.le_refl _) (by unfold cellsAt; rw [h4, e4]; simp)).2
  have rg3 : ∀ b o, Rg Γ' 3 b o ↔ b = (Γ1.φ 3).blk := fun b o => by unfold Rg; rw [h3, f3]
  have rg4 : ∀ b o, Rg Γ' 4 b o ↔ b = (Γ1.φ 4).blk := fun b o => by unfold Rg; rw [h4, f4]
  have rgA : ∀ p b o, Rg Γ1 p b o → (p = 3 ∧ b = (Γ1.φ 3).blk) ∨ (p = 4 ∧ b = (Γ1.φ 4).blk) := fun p b o h => by
    by_cases hp3 : p = 3
    · subst hp3; unfold Rg at h; rw [e3] at h; exact .inl ⟨rfl, h⟩
    · by_cases hp4 : p = 4
      · subst hp4; unfold Rg at h; rw [e4] at h; exact .inr ⟨rfl, h⟩
      · unfold Rg at h; rw [hA.rest p hp3 hp4] at h; exact h.elim
  have hsub : ∀ b o, Here Γ'.S Γ'.w b o → canS Γ1 Γ'.w b o := fun b o ⟨hs, hv⟩ => by
    rcases hE.newS b o hs with h | ⟨p, h⟩ | h
    · exact .inl h
    · exfalso
      rcases rgA p b o h with ⟨_, hb⟩ | ⟨_, hb⟩
      · exact (hI.stay b o hs).2 3 ((rg3 b o).2 hb)
      · exact (hI.stay b o hs).2 4 ((rg4 b o).2 hb)
    · exact .inr ⟨h, hv⟩
  have hst : Stays Γ1.S Γ1.w (canS Γ1 Γ'.w) Γ'.w := fun b o h => ⟨.inl h, (hE.stays b o h).2⟩
  have hmv : ∀ x v, V0 Γ'.S Γ'.w x v → V0 (canS Γ1 Γ'.w) Γ'.w x v := fun x v h => V0.mono (Stays.sub hsub) _ _ (V0.here _ _ h)
  have rgC : ∀ p b o, Rg (canG Γ1 cur c4 Γ'.w) p b o → (p = 3 ∧ b = (Γ1.φ 3).blk) ∨ (p = 4 ∧ b = (Γ1.φ 4).blk) := fun p b o h => by
    by_cases hp3 : p = 3
    · subst hp3; unfold Rg at h; rw [can3] at h; exact .inl ⟨rfl, h⟩
    · by_cases hp4 : p = 4
      · subst hp4; unfold Rg at h; rw [can4] at h; exact .inr ⟨rfl, h⟩
      · unfold Rg at h; rw [canO _ _ _ _ hp3 hp4, hA.rest p hp3 hp4] at h; exact h.elim
  have r13 : ∀ o, Rg Γ1 3 (Γ1.φ 3).blk o := fun o => by unfold Rg; rw [e3]
  have r14 : ∀ o, Rg Γ1 4 (Γ1.φ 4).blk o := fun o => by unfold Rg; rw [e4]
  have b3 : (Γ1.φ 3).blk < Γ1.w.heap.size := hA.inv.blk (r13 0)
  have b4 : (Γ1.φ 4).blk < Γ1.w.heap.size := hA.inv.blk (r14 0)
  have ne34 : (Γ1.φ 3).blk ≠ (Γ1.φ 4).blk := fun e => hA.inv.apart 3 4 _ 0 (by decide) (r13 0) (e ▸ r14 0)
  have nomix : ∀ p t xs hs, (canG Γ1 cur c4 Γ'.w).s p = ⟨t, .mix xs hs⟩ → False := fun p t xs hs h => by
    have hc : ((canG Γ1 cur c4 Γ'.w).s p).c = .mix xs hs := by rw [h]
    by_cases hp3 : p = 3
    · subst hp3; rw [can3] at hc; cases hc
    · by_cases hp4 : p = 4
      · subst hp4; rw [can4] at hc; cases hc
      · rw [canO _ _ _ _ hp3 hp4, hA.rest p hp3 hp4] at hc; cases hc
  refine ⟨⟨⟨⟨fun p => ?_, fun p q b o hpq hp hq => ?_, fun b o hs => ?_⟩, fun p t xs hs h => (nomix p t xs hs h).elim⟩, ⟨hst, hE.os, hE.tape, hE.output, hE.size, hE.block, hE.cell, hE.frzn, fun b o hs => ?_, fun p b o h => ?_, fun p => ?_, fun p t xs ht hc => ?_, fun p t e ht hc => ?_⟩, l3, l4⟩, hsub, f3, f4⟩
  · unfold EntOk
    by_cases hp3 : p = 3
    · subst hp3
      have he := hI.ent 3
      unfold EntOk at he
      rw [h3, f3] at he
      rw [can3]
      simp only [EntC] at he ⊢
      exact ⟨he.1, he.2.1, fun i x hx => by obtain ⟨v, g1, g2, g3⟩ := he.2.2.1 i x hx; exact ⟨v, g1, g2, hmv _ _ g3⟩, he.2.2.2⟩
    · by_cases hp4 : p = 4
      · subst hp4
        have he := hI.ent 4
        unfold EntOk at he
        rw [h4, f4] at he
        rw [can4]
        simp only [EntC] at he ⊢
        exact ⟨he.1, he.2.1, fun i x hx => by obtain ⟨v, g1, g2, g3⟩ := he.2.2.1 i x hx; exact ⟨v, g1, g2, hmv _ _ g3⟩, he.2.2.2⟩
      · rw [canO _ _ _ _ hp3 hp4, hA.rest p hp3 hp4]; trivial
  · rcases rgC p b o hp with ⟨rfl, h1⟩ | ⟨rfl, h1⟩ <;> rcases rgC q b o hq with ⟨rfl, h2⟩ | ⟨rfl, h2⟩
    · exact hpq rfl
    · exact ne34 (h1.symm.trans h2)
    · exact ne34 (h2.symm.trans h1)
    · exact hpq rfl
  · have hlt : b < Γ'.w.heap.size := by
      rcases hs with h | ⟨_, v, h⟩
      · exact Nat.lt_of_lt_of_le (hA.inv.stay b o h).1 hE.size
      · exact World.block_lt_of_cell? _ _ h
    refine ⟨hlt, fun p hp => ?_⟩
    rcases rgC p b o hp with ⟨_, rfl⟩ | ⟨_, rfl⟩
    · rcases hs with h | ⟨h, _⟩
      · exact (hA.inv.stay _ o h).2 3 (r13 o)
      · omega
    · rcases hs with h | ⟨h, _⟩
      · exact (hA.inv.stay _ o h).2 4 (r14 o)
      · omega
  · rcases hs with h | ⟨h, _⟩
    · exact .inl h
    · exact .inr (.inr h)
  · rcases rgC p b o h with ⟨_, rfl⟩ | ⟨_, rfl⟩
    · exact .inl ⟨3, r13 o⟩
    · exact .inl ⟨4, r14 o⟩
  · by_cases hp3 : p = 3
    · subst hp3; rw [can3]; exact Nat.le_refl _
    · by_cases hp4 : p = 4
      · subst hp4; rw [can4]; exact Nat.le_refl _
      · rw [canO _ _ _ _ hp3 hp4]; exact Nat.le_refl _
  · refine ⟨?_, rfl⟩
    by_cases hp3 : p = 3
    · subst hp3
      rcases cellsAt_cases hc with h | h | ⟨_, h⟩ <;> rw [can3] at h <;> cases h
      exact ⟨ys, by simp [cellsAt, e3], l3.trans hA.l3.symm |>.symm ▸ (l3.trans hA.l3.symm)⟩
    · by_cases hp4 : p = 4
      · subst hp4
        rcases cellsAt_cases hc with h | h | ⟨_, h⟩ <;> rw [can4] at h <;> cases h
        exact ⟨zs, by simp [cellsAt, e4], l4.trans hA.l4.symm⟩
      · refine ⟨xs, ?_, rfl⟩
        unfold cellsAt at hc ⊢
        rwa [canO _ _ _ _ hp3 hp4] at hc
  · refine ⟨?_, rfl⟩
    by_cases hp3 : p = 3
    · subst hp3; rw [can3] at hc; cases hc
    · by_cases hp4 : p = 4
      · subst hp4; rw [can4] at hc; cases hc
      · rwa [canO _ _ _ _ hp3 hp4] at hc
theorem Ahead.grown {Γ1 : G} {ys zs : List AV} (hA : Ahead Γ1 ys zs) {cur c4 : List AV} {W W' : World} (h : CI Γ1 cur c4 W) {row : Option Nat} (hg : W.grownBy W' row) (hr : ∀ r, row = some r → Γ1.w.heap.size ≤ r ∧ ∃ o : Obj, W.heap[r]? = some o ∧ o.isCells = false) :
    CI Γ1 cur c4 W' := by
  have hs : ∀ b o, (canG Γ1 cur c4 W).S b o → b < Γ1.w.heap.size ∨ ∃ v, W.cell? ⟨b, o, none⟩ = some v := fun b o h => by
    rcases h with h | ⟨_, h⟩
    · exact .inl (hA.inv.stay b o h).1
    · exact .inr h
  obtain ⟨i1, i2, _⟩ := h.1.grown h.2.1 (Nat.le_refl _) hs (hA.solid h) hg hr
  exact (hA.again i1 i2 (can3 Γ1 cur c4 W) (can4 Γ1 cur c4 W) h.2.2.1 h.2.2.2).1
theorem canS_grown {Γ1 : G} (hI : Inv Γ1) {W W' : World} (hE : Γ1.w.heap.size ≤ W.heap.size) {row : Option Nat} (hg : W.grownBy W' row) (hr : ∀ r, row = some r → Γ1.w.heap.size ≤ r ∧ ∃ o : Obj, W.heap[r]? = some o ∧ o.isCells = false) :
    Stays (canS Γ1 W) W (canS Γ1 W') W' := fun b o h => by
  rcases h with h | ⟨hb, v, h⟩
  · have hlt := (hI.stay b o h).1
    refine ⟨.inl h, cell_of_block (hg.block b (by omega) fun e => ?_) o⟩
    have := (hr b e.symm).1
    omega
  · have := cell_kept h hg fun r e => (hr r e).2
    exact ⟨.inr ⟨hb, v, this⟩, this.trans h.symm⟩

noncomputable def codeL : Code := (Try.f84.body).getD .skip
noncomputable def rangeL : Code := blockBody (seqR (seqL (seqR codeL)))
def asgOf : Code → Code
  | .rangeFunc _ _ a _ => a
  | _ => .skip
def bodOf : Code → Code
  | .rangeFunc _ _ _ a => a
  | _ => .skip
noncomputable def asgL : Code := asgOf rangeL
noncomputable def bodL : Code := bodOf rangeL
noncomputable def rL0 : Code := seqL codeL
noncomputable def rL1 : Code := seqL (seqL (seqR codeL))
noncomputable def rL4 : Code := seqR (seqR codeL)
theorem codeL_eq : codeL = .seq rL0 (.seq (.seq (.region 1 (opsR rL1).toArray false) (.block 0 (.rangeFunc (.tmp 8) #[9, 10] asgL bodL))) rL4) := by kernel_rfl
noncomputable def moveL : Oper := ((opsR rL1)[0]?).getD default
noncomputable def callL : Oper := ((opsR rL1)[1]?).getD default
theorem rL1_eq : opsR rL1 = [moveL] ++ [callL] := by kernel_rfl
theorem moveL_op : moveL.op = .move (.tmp 0) ∧ moveL.guard = none ∧ moveL.dst = some 7 := ⟨by kernel_rfl, by kernel_rfl, by kernel_rfl⟩
theorem callL_op : callL.op = .call ⟨.value (.func 93), #[.tmp 7], #[26]⟩ ∧ callL.guard = none ∧ callL.dst = some 8 := ⟨by kernel_rfl, by kernel_rfl, by kernel_rfl⟩
theorem okML : ∀ o ∈ [moveL], lookOp o.op = true ∧ o.guard = none := fun o ho => by
  simp only [List.mem_singleton] at ho; subst ho; exact ⟨by rw [moveL_op.1]; rfl, moveL_op.2.1⟩
def zeroT6 : List AV := [.int .i64 0, .bool false, .sl [] 0 .nil, .str [], .int .i64 0, .sl [] 0 .nil]
section
variable (env : Env) (s : St)
theorem rL0_run (n : Nat) (x : AV) (ys : List AV) (h0 : env 0 = x) (h1 : env 1 = .agg ys) (hs3 : (s 3).t = 0) (hs4 : (s 4).t = 0) : den Try.prog cfg0 (fun _ _ => none) n rL0 (capK fun e env' s' => e = .normal ∧ env' 0 = x ∧ env' 3 = .ptr 3 1 0 ∧ env' 4 = .ptr 4 1 0 ∧ s' = upd (upd s 3 ⟨1, .buf ys⟩) 4 ⟨1, .buf zeroT6⟩) env s = some (.tree .undef, []) := by
  simp only [rL0, codeL, seqL, Try.f84, Option.getD_some, simB, zbo, Nat.reduceBEq, own0, ↓reduceIte, Nat.reduceEqDiff, Nat.reduceAdd, simN, Nat.zero_add, h1, hs3, hs4, lsZero]
  refine capK_of ⟨rfl, (by simp only [zfk, ↓reduceIte, Nat.reduceEqDiff, h0]; try rfl), (by simp only [zfk, ↓reduceIte, Nat.reduceEqDiff]; try rfl), (by simp only [zfk, ↓reduceIte, Nat.reduceEqDiff]; try rfl), ?_⟩
  have e4 : ((upd s 3 ⟨0 + 1, .buf ys⟩) 4).t = 0 := by rw [upd_ne _ _ (by decide)]; exact hs4
  rfl
theorem asg_run (n : Nat) (ts : List AV) (h6 : ts.length = 6) (h10 : env 10 = .agg ts) (v3 : AV) (h3 : env 3 = v3) : den Try.prog cfg0 (fun _ _ => none) n asgL (capK fun e env' s' => e = .normal ∧ env' 3 = v3 ∧ env' 6 = .ptr 6 ((s 6).t + 1) 0 ∧ s' = upd (upd s 6 ⟨(s 6).t + 1, .buf zeroT6⟩) 6 ⟨(s 6).t + 1, .buf ts⟩) env s = some (.tree .undef, []) := by
  have st : ∀ st : St, st 6 = ⟨(s 6).t + 1, .buf zeroT6⟩ → storeA Try.prog 28 st (.ptr 6 ((s 6).t + 1) 0) (.agg ts) = some (upd st 6 ⟨(s 6).t + 1, .buf ts⟩) := fun st h => by
    have hsp : splice zeroT6 0 ts = ts := by
      simp only [splice, List.take_zero, List.nil_append, Nat.zero_add, h6]
      exact List.append_nil ts
    simp only [storeA, settle, Option.bind_some, h, ↓reduceIte, lsEsz, h6, hsp]
    rw [if_pos ⟨by trivial, by decide⟩]
  simp only [asgL, asgOf, rangeL, codeL, seqL, seqR, blockBody, Try.f84, Option.getD_some, simB, zbo, Nat.reduceBEq, own0, ↓reduceIte, Nat.reduceEqDiff, Nat.reduceAdd, simN, Nat.zero_add, h10, lsZero]
  rw [st _ (by simp only [zfk, ↓reduceIte, Nat.reduceEqDiff]; try rfl)]
  simp only [simB, zbo, Nat.reduceBEq, own0, ↓reduceIte, Nat.reduceEqDiff, Nat.reduceAdd]
  exact capK_of ⟨rfl, (by simp only [zfk, ↓reduceIte, Nat.reduceEqDiff, h3]; try rfl), (by simp only [zfk, ↓reduceIte, Nat.reduceEqDiff]; try rfl), rfl⟩
theorem bod_run (n : Nat) (t3 : Nat) (ts cur : List AV) (h6 : ts.length = 6) (hc : cur.length = 6) (e3 : env 3 = .ptr 3 t3 0) (e6 : env 6 = .rptr ts) (hs : s 3 = ⟨t3, .buf cur⟩) : den Try.prog cfg0 (fun _ _ => none) n bodL (capK fun e _ s' => e = .normal ∧ s' = upd s 3 ⟨t3, .buf (consV ts cur)⟩) env s = some (.tree .undef, []) := by
  have l6 : ∀ st, loadA Try.prog 28 st (.rptr ts) = some (.agg ts) := fun st => by
    simp only [loadA, partA, lsSh, List.drop_zero]
    rw [if_pos (by omega), List.take_of_length_le (by omega)]
  have l3 : ∀ st : St, st 3 = ⟨t3, .buf cur⟩ → loadA Try.prog 28 st (.ptr 3 t3 0) = some (.agg cur) := fun st h => by
    simp only [loadA, ldC, h, ↓reduceIte, Option.bind_some, partA, lsSh, List.drop_zero]
    rw [if_pos (by omega), List.take_of_length_le (by omega)]
  have hf : fillA (fun i => some (i * 6, 6)) (rep 2 zeroT6) [(0, .agg ts), (1, .agg cur)] = some (ts ++ cur) := by
    have a1 : splice (rep 2 zeroT6) (0 * 6) ts = ts ++ zeroT6 := by
      simp only [splice, Nat.zero_mul, List.take_zero, List.nil_append, Nat.zero_add, h6]; rfl
    have a2 : splice (ts ++ zeroT6) (1 * 6) cur = ts ++ cur := by
      simp only [splice, Nat.one_mul, hc]
      rw [List.take_append_of_le_length (by omega), List.take_of_length_le (by omega), List.drop_eq_nil_of_le (by simp [zeroT6]; omega), List.append_nil]
    simp only [fillA, settled, Option.bind_some, cellsOf]
    rw [if_pos ⟨h6, by decide⟩, a1, if_pos ⟨hc, by simp [zeroT6]; omega⟩, a2]
  have hb : ∀ (e' : Env), e' 11 = .agg ts → e' 12 = .agg cur → opA Try.prog cfg0 (fun _ _ => none) false ((opsR (blockBody bodL))[2]?.getD default) 13 e' s = some (.sl (ts ++ cur) 2 .tight, s) := fun e' g1 g2 => by
    have ho : ((opsR (blockBody bodL))[2]?.getD default).op = .buildSlice 26 2 #[(0, .tmp 11), (1, .tmp 12)] := by kernel_rfl
    simp only [opA, ho, lsTkK, lsEsz, lsZero, Option.bind_some, List.map_cons, List.map_nil, ev, g1, g2]
    rw [if_pos ⟨by trivial, by decide⟩]
    show (Option.map _ (fillA (fun i => some (i * 6, 6)) (rep 2 zeroT6) [(0, .agg ts), (1, .agg cur)])).map _ = _
    rw [hf]; rfl
  have hbd : buildA Try.prog 28 [(0, .int .i64 4), (4, .sl (ts ++ cur) 2 .tight)] = some (.agg (consV ts cur)) := by
    simp only [buildA, lsZero, lsTk, lsPl, Option.bind_some]; rfl
  have st : ∀ st : St, st 3 = ⟨t3, .buf cur⟩ → storeA Try.prog 28 st (.ptr 3 t3 0) (.agg (consV ts cur)) = some (upd st 3 ⟨t3, .buf (consV ts cur)⟩) := fun st h => by
    have hsp : splice cur 0 (consV ts cur) = consV ts cur := by
      simp only [splice, List.take_zero, List.nil_append, Nat.zero_add, consV_len]
      rw [List.drop_eq_nil_of_le (by omega), List.append_nil]
    simp only [storeA, settle, Option.bind_some, h, ↓reduceIte, lsEsz, consV_len, hsp]
    rw [if_pos ⟨by trivial, by omega⟩]
  have bs : ∀ (e' : Env) (q : Bool) (d : Option Tmp) (ty : TypeId) (pos : String) (af : Array Edge) (g : Option (Nat × Bool)) (t : Nat), e' 11 = .agg ts → e' 12 = .agg cur → opA Try.prog cfg0 (fun _ _ => none) q ⟨d, .buildSlice 26 2 #[(0, .tmp 11), (1, .tmp 12)], ty, pos, af, g⟩ t e' s = some (.sl (ts ++ cur) 2 .tight, s) := fun e' q d ty pos af g t g1 g2 => by
    simp only [opA, lsTkK, lsEsz, lsZero, Option.bind_some, List.map_cons, List.map_nil, ev, g1, g2]
    rw [if_pos ⟨by trivial, by decide⟩]
    show (Option.map _ (fillA (fun i => some (i * 6, 6)) (rep 2 zeroT6) [(0, .agg ts), (1, .agg cur)])).map _ = _
    rw [hf]; rfl
  simp only [bodL, bodOf, rangeL, codeL, seqL, seqR, blockBody, Try.f84, Option.getD_some, simB, zbo, Nat.reduceBEq, own0, ↓reduceIte, Nat.reduceEqDiff, Nat.reduceAdd, e3, e6, l6, l3 s hs]
  rw [bs _ _ _ _ _ _ _ _ (by simp only [zfk, ↓reduceIte, Nat.reduceEqDiff]; try rfl) (by simp only [zfk, ↓reduceIte, Nat.reduceEqDiff]; try rfl)]
  simp only [simB, zbo, Nat.reduceBEq, own0, ↓reduceIte, Nat.reduceEqDiff, Nat.reduceAdd, simN, Nat.zero_add, e3, hbd, st s hs]
  exact capK_of ⟨rfl, rfl⟩
theorem rL4_run (n : Nat) (t3 t4 : Nat) (cur c4 : List AV) (hc : cur.length = 6) (h4 : c4.length = 6) (e3 : env 3 = .ptr 3 t3 0) (e4 : env 4 = .ptr 4 t4 0) (hs : s 3 = ⟨t3, .buf cur⟩) (hs4 : s 4 = ⟨t4, .buf c4⟩) : den Try.prog cfg0 (fun _ _ => none) n rL4 (capK fun e env' s' => e = .ret ∧ env' 4 = .ptr 4 t4 0 ∧ s' = upd s 4 ⟨t4, .buf cur⟩) env s = some (.tree .undef, []) := by
  have l3 : ∀ st : St, st 3 = ⟨t3, .buf cur⟩ → loadA Try.prog 28 st (.ptr 3 t3 0) = some (.agg cur) := fun st h => by
    simp only [loadA, ldC, h, ↓reduceIte, Option.bind_some, partA, lsSh, List.drop_zero]
    rw [if_pos (by omega), List.take_of_length_le (by omega)]
  have st : ∀ st : St, st 4 = ⟨t4, .buf c4⟩ → storeA Try.prog 28 st (.ptr 4 t4 0) (.agg cur) = some (upd st 4 ⟨t4, .buf cur⟩) := fun st h => by
    have hsp : splice c4 0 cur = cur := by
      simp only [splice, List.take_zero, List.nil_append, Nat.zero_add, hc]
      rw [List.drop_eq_nil_of_le (by omega), List.append_nil]
    simp only [storeA, settle, Option.bind_some, h, ↓reduceIte, lsEsz, hc, hsp]
    rw [if_pos ⟨by trivial, by omega⟩]
  simp only [rL4, codeL, seqL, seqR, Try.f84, Option.getD_some, simB, zbo, Nat.reduceBEq, own0, ↓reduceIte, Nat.reduceEqDiff, Nat.reduceAdd, e3, e4, l3 s hs, st s hs4]
  exact capK_of ⟨rfl, (by simp only [zfk, ↓reduceIte, Nat.reduceEqDiff, e4]; try rfl), rfl⟩
end

theorem plain0 : plainC rL0 = true := by kernel_rfl
theorem plainA : plainC asgL = true := by kernel_rfl
theorem plainBo : plainC bodL = true := by kernel_rfl
theorem plain4 : plainC rL4 = true := by kernel_rfl
theorem dst0L : dstOk cfg0.keep 16 rL0 = true := by kernel_rfl
theorem dstA : dstOk cfg0.keep 16 asgL = true := by kernel_rfl
theorem dstB : dstOk cfg0.keep 16 bodL = true := by kernel_rfl
theorem dst4L : dstOk cfg0.keep 16 rL4 = true := by kernel_rfl
def AxL (Γ1 : G) {xs : List AV} {len : Nat} (x : Item Γ1.S Γ1.w xs len) (a' : Act) (W : World) : Prop :=
  a'.defers = [] ∧ a'.tmps.size = 16 ∧ a'.tmps.getD 3 undef = .pointer (some ⟨(Γ1.φ 3).blk, (Γ1.φ 3).base, none⟩) ∧ Γ1.w.heap.size ≤ W.heap.size ∧ ∃ b o, a'.tmps.getD 6 undef = .pointer (some ⟨b, o, none⟩) ∧ VC (canS Γ1 W) W (chunk xs x.1.1) b o
def curL {S : Nat → Nat → Prop} {W : World} (xs : List AV) {len : Nat} (ys : List AV) (pre : List (Item S W xs len)) : List AV := pre.foldl (fun acc x => consV (chunk xs x.1.1) acc) ys
theorem curL_snoc {S : Nat → Nat → Prop} {W : World} {xs : List AV} {len : Nat} {ys : List AV} (pre : List (Item S W xs len)) (x : Item S W xs len) : curL xs ys (pre ++ [x]) = consV (chunk xs x.1.1) (curL xs ys pre) := by
  simp [curL]
theorem curL_done {S : Nat → Nat → Prop} {W : World} {xs : List AV} {len : Nat} {ys : List AV} (pre : List (Item S W xs len)) (h : pre.map (·.1.1) = downTo len) : curL xs ys pre = lstN xs len ys := by
  rw [← fold_down, ← h, List.foldl_map]; rfl
theorem zip2 (t : Array Value) (x y : Value) (h : t.size = 16) : ((#[9, 10].zip #[x, y]).foldl (fun t (p, v) => t.setIfInBounds p v) t).size = 16 ∧ ∀ j, ((#[9, 10].zip #[x, y]).foldl (fun t (p, v) => t.setIfInBounds p v) t).getD j undef = if j = 10 then y else if j = 9 then x else t.getD j undef := by
  have e : ((#[9, 10].zip #[x, y]).foldl (fun t (p, v) => t.setIfInBounds p v) t) = (t.setIfInBounds 9 x).setIfInBounds 10 y := by simp [Array.zip]
  rw [e]
  refine ⟨by simp [h], fun j => ?_⟩
  simp only [Array.getD_eq_getD_getElem?, Array.getElem?_setIfInBounds, Array.size_setIfInBounds, h]
  by_cases h1 : j = 10
  · subst h1; simp
  · by_cases h2 : j = 9
    · subst h2; simp
    · rw [if_neg (Ne.symm h1), if_neg (Ne.symm h2), if_neg h1, if_neg h2]
set_option maxHeartbeats 4000000 in
theorem list_ok {gs : List Arg} {r : Res} {os : List (List AV)} (h : listP gs = some (r, os)) : (∃ fn c, Try.prog.funcs[84]? = some fn ∧ fn.name ≠ "runtime.NumGoroutine" ∧ fn.body = some c) ∧ ∀ (Γ : G) (vs : List Value), Inv Γ → ArgOk Γ gs vs →
    Calls Try.prog 84 vs.toArray Γ.w fun e w' => ∃ v Γ', e = .returned v ∧ Γ'.w = w' ∧ Inv Γ' ∧ Ext Γ Γ' ∧ FinOk Γ' gs r os v := by
  refine ⟨⟨_, _, Try.func84, by unfold Try.f84; decide, by unfold Try.f84; rfl⟩, ?_⟩
  unfold listP at h
  split at h
  · rename_i xs len g ys
    split at h
    · rename_i hc
      obtain ⟨hx, hy, hlen⟩ := hc
      cases h
      intro Γ vs hI hA
      have hl := hA.len
      obtain ⟨v0, v1, rfl⟩ : ∃ v0 v1, vs = [v0, v1] := by
        match vs, hl with
        | [v0, v1], _ => exact ⟨v0, v1, rfl⟩
      have k0 : V Γ (.sl xs len g) v0 := hA.val 0 v0 rfl
      have k1 : V Γ (.agg ys) v1 := hA.val 1 v1 rfl
      have k0 : V0 Γ.S Γ.w (.sl xs len .loose) v0 := by
        cases g with
        | tok p t => exact k0.1
        | _ =>
          have k0 : V0 Γ.S Γ.w (.sl xs len _) v0 := k0
          simp only [V0] at k0 ⊢
          obtain ⟨a, cap, hv, hcap, _, _, hr⟩ := k0
          exact ⟨a, cap, hv, hcap, (fun h => by cases h), ⟨rfl, (fun h => by cases h)⟩, hr⟩
      have hdead : ∀ p, Γ.s p = ⟨0, .dead⟩ := fun p => by
        rw [hA.s]
        match p with
        | 0 => rfl
        | 1 => rfl
        | p + 2 => rfl
      have H : ∀ a : Act, a.defers = [] → EnvV Γ (fun t => if t = 0 then .sl xs len .loose else if t = 1 then .agg ys else .undef) a 16 →
          codeL.wpIn Fence.wide 9 Try.prog (bodyPostM Fence.wide 9 Try.prog Try.f84 fun e w' => ∃ v Γ', e = .returned v ∧ Γ'.w = w' ∧ Inv Γ' ∧ Ext Γ Γ' ∧ FinOk Γ' [.tree (.sl xs len g), .tree (.agg ys)] (.tree (.agg (lstN xs len ys))) [[], []] v) a Γ.w := by
        intro a hd he
        rw [codeL_eq]
        refine wpIn_seq ?_
        refine den_cap (cfg := cfg0) (N := 0) (m := 16) nocall (fun _ => trivial) _ plain0 dst0L (rL0_run _ Γ.s 0 _ ys rfl rfl (by rw [hdead]) (by rw [hdead])) hI he ?_
        rintro ex env1 Γa a1 ⟨rfl, g0, g3, g4, gs⟩ hIa hEa hea hda
        have g0 : env1 0 = .sl xs len .loose := g0
        simp only [exOf, Exit.then]
        refine wpIn_seq (wpIn_seq (wpIn_region_list ?_))
        show wpListIn _ _ _ _ _ (opsR rL1) a1 Γa.w
        rw [rL1_eq]
        have hmv : opsA Try.prog cfg0 (fun _ _ => none) false ([moveL] ++ [callL]).toArray [moveL] env1 Γa.s = some (setO env1 (some 7) (.sl xs len .loose), Γa.s) := by
          have : opA Try.prog cfg0 (fun _ _ => none) false moveL (moveL.dst.getD 0) env1 Γa.s = some (.sl xs len .loose, Γa.s) := by
            simp only [opA, moveL_op.1, ev, g0]
          simp only [opsA, wantA, moveL_op.2.1]
          rw [this]
          simp only [Option.bind_some, moveL_op.2.2]
        refine opsA_look (fun _ => trivial) hIa [moveL] env1 a1 _ _ okML (fun o ho d hdd => by simp only [List.mem_singleton] at ho; subst ho; rw [moveL_op.2.2] at hdd; cases hdd; decide) hmv hea fun a2 m1 m2 m3 => ?_
        have w7 := m1.val 7
        simp only [setO, upd_same] at w7
        obtain ⟨sa, scap, hv7, hcap7, _, _, hcells⟩ := (V_tree rfl).1 w7
        refine wpListIn_plain callL_op.2.1 fun K hK => ?_
        refine callInF (c := ⟨.value (.func 93), #[.tmp 7], #[26]⟩) (caps := []) callL_op.1 rfl rfl Try.func93 (by unfold Try.f93; decide) (by unfold Try.f93; rfl)
          (R := fun e w' => e = .returned (.func (.func 95) #[] #[.pointer (some ⟨Γa.w.heap.size, 0, none⟩)]) ∧ w' = Γa.w.alloc (.cells #[.slice sa len scap] 26)) ?_ ?_
        · have : (List.map a2.eval #[Operand.tmp 7].toList ++ []).toArray = #[.slice sa len scap] := by
            show #[a2.tmps.getD 7 undef] = _
            rw [hv7]
          show Calls _ _ (List.map a2.eval #[Operand.tmp 7].toList ++ []).toArray _ _
          rw [this]
          exact backward_calls sa len scap Γa.w
        rintro e w' ⟨rfl, rfl⟩
        refine ⟨_, rfl, hK _ _ (wpListIn_nil ?_)⟩
        rw [callL_op.2.2]
        -- the box of the slice stays
        obtain ⟨Γ1, s1, w1, hI1, hE1, hbox⟩ := hIa.row (w' := Γa.w.alloc (.cells #[.slice sa len scap] 26)) rfl rfl rfl (by simp) (fun k hk => RowKit.Below.heap_alloc _ _ _ hk) [.sl xs len .loose] [.slice sa len scap]
          (by simp only [VL]; exact ⟨_, [], rfl, rfl, (V_tree (x := .sl xs len .loose) rfl).1 (hv7 ▸ w7), rfl⟩)
          (fun i v hv => by
            match i, hv with
            | 0, hv => cases hv; rw [World.cell?_alloc_new]; rfl)
        have hAh : Ahead Γ1 ys zeroT6 := by
          refine ⟨hI1, ⟨1, ?_⟩, ⟨1, ?_⟩, hy, rfl, fun p h3 h4 => ?_⟩
          · rw [s1, gs, upd_ne _ _ (by decide), upd_same]
          · rw [s1, gs, upd_same]
          · rw [s1, gs, upd_ne _ _ h4, upd_ne _ _ h3, hdead]
        have t13 : Γ1.s 3 = ⟨1, .buf ys⟩ := by rw [s1, gs, upd_ne _ _ (by decide), upd_same]
        have t14 : Γ1.s 4 = ⟨1, .buf zeroT6⟩ := by rw [s1, gs, upd_same]
        have hbp : V0 Γ1.S Γ1.w (.rptr [.sl xs len .loose]) (.pointer (some ⟨Γa.w.heap.size, 0, none⟩)) := ⟨_, _, rfl, hbox⟩
        generalize hbpe : (Value.pointer (some ⟨Γa.w.heap.size, 0, none⟩)) = bp at hbp
        have hS1 : ∀ b o, Γ1.S b o → b < Γ1.w.heap.size := fun b o h => (hI1.stay b o h).1
        have he3 : EnvV Γ1 (setO (setO env1 (some 7) (.sl xs len .loose)) (some 8) .undef) (a2.put (some 8) (.func (.func 95) #[] #[bp])) 16 := m1.put hE1 (by intro x hx; cases hx; decide) (V_cell (by simp only [V0]))
        have hd3 : (a2.put (some 8) (.func (.func 95) #[] #[bp])).defers = [] := (put_tmps a2 _ _).1.trans (m2.trans (hda.trans hd))
        have h8 : (a2.put (some 8) (.func (.func 95) #[] #[bp])).eval (.tmp 8) = .func (.func 95) #[] #[bp] := by
          show Array.getD _ _ _ = _
          rw [put_get _ _ _ _ (by rw [m1.size]; decide), if_pos rfl]
        have e33 : (setO (setO env1 (some 7) (.sl xs len .loose)) (some 8) .undef) 3 = .ptr 3 1 0 := by simp only [setO]; rw [upd_ne _ _ (by decide), upd_ne _ _ (by decide), g3]
        have e34 : (setO (setO env1 (some 7) (.sl xs len .loose)) (some 8) .undef) 4 = .ptr 4 1 0 := by simp only [setO]; rw [upd_ne _ _ (by decide), upd_ne _ _ (by decide), g4]
        generalize (setO (setO env1 (some 7) (.sl xs len .loose)) (some 8) .undef) = env3 at he3 e33 e34
        generalize (a2.put (some 8) (.func (.func 95) #[] #[bp])) = a3 at he3 hd3 h8
        rw [← w1]
        have hEG : Ext Γ Γ1 := hEa.trans hE1
        clear w7 hcells hmv m1 m2 m3 hea hda hEa hE1 hbox
        have hCI0 : CI Γ1 ys zeroT6 Γ1.w := (hAh.again hI1 (.refl _) (by rw [t13]) (by rw [t14]) hy rfl).1
        refine wpIn_block ?_
        refine wpIn_rangeFunc_ownH (F := Fence.wide) (n := 9) rfl (by decide) (gf := 95) (lb := #[bp]) h8 trivial ?_
          (encs := Item.encs (S := Γ1.S) (W := Γ1.w) (xs := xs) (len := len)) (Kp := KpS Γ1.S) (back_stops hlen hx hS1 hbp 8) (fun h k => h.trans k) ?_ (RowKit.Below.refl _ _) (fun _ => rfl)
          (fun pre W => CI Γ1 (curL xs ys pre) zeroT6 W) (fun _ _ _ => False) ?_ ?_ hCI0 (AxL Γ1) ?_ ?_ ?_ ?_ ?_
        · intro args w
          simp only [callFunc, Sem.run_bind, run_program, Result.andThen_ok, Try.func95]
          have hnm : (Try.f95.name == "runtime.NumGoroutine") = false := by kernel_rfl
          have hbd : Try.f95.body.isNone = false := by kernel_rfl
          simp only [hnm, hbd, Bool.false_eq_true, if_false, Sem.run_pure]
        · intro W l o o' hl hh _ _
          exact ⟨by simp [World.putObj], fun b q hs => cell_of_block (World.putObj_heap_other (fun e => by have := hS1 b q hs; omega)) q⟩
        · intro pre W W' row hi hg hr
          exact hAh.grown hi hg hr
        · intro c pre W W' row hi _ _
          exact hi
        · rintro x a' _ W W' row ⟨h1, h2, h3, h3', b, o, h4, h5⟩ hg hr
          exact ⟨h1, h2, h3, Nat.le_trans h3' hg.size, b, o, h4, VC.mono (canS_grown hI1 h3' hg hr) _ _ _ h5⟩
        · -- the loop's variable
          intro l pre x W K hi hK
          obtain ⟨z1, z2⟩ := zip2 a3.tmps (.int .i64 (x.1.1 : Int)) (.agg x.1.2.toArray) he3.size
          have hcl := chunk_len hx x.2.1
          have hKp0 : KpS Γ1.S Γ1.w W := ⟨hi.2.1.size, fun b o h => (hi.2.1.stays b o h).2⟩
          have heR : EnvV (canG Γ1 (curL xs ys pre) zeroT6 W) (fun t => if t = 10 then .agg (chunk xs x.1.1) else if t = 9 then .undef else env3 t) { tmps := (#[9, 10].zip (Item.encs x)).foldl (fun t (p, v) => t.setIfInBounds p v) a3.tmps, defers := [] } 16 := by
            refine ⟨z1, fun t => ?_⟩
            show V _ _ (Array.getD _ _ _)
            rw [show Item.encs x = #[.int .i64 (x.1.1 : Int), .agg x.1.2.toArray] from rfl, z2 t]
            by_cases h10 : t = 10
            · rw [if_pos h10, if_pos h10]
              refine V_cell ⟨x.1.2, rfl, ?_⟩
              exact VL.mono hi.2.1.stays _ _ x.2.2
            · rw [if_neg h10, if_neg h10]
              by_cases h9 : t = 9
              · rw [if_pos h9, if_pos h9]; exact V_cell (by simp only [V0])
              · rw [if_neg h9, if_neg h9]; exact V.ext hi.2.1 (he3.val t)
          refine den_cap (cfg := cfg0) (N := 0) (m := 16) nocall (F := Fence.wide.inRound l) (fun _ => trivial) _ plainA dstA (asg_run _ (canG Γ1 (curL xs ys pre) zeroT6 W).s 0 (chunk xs x.1.1) hcl rfl (.ptr 3 1 0) (by show env3 3 = _; exact e33)) hi.1 heR ?_
          rintro ex env4 Γ' a' ⟨rfl, f3, f6, fs⟩ hI' hE' he' hd'
          simp only [exOf, Exit.then]
          have s6 : Γ'.s 6 = ⟨((canG Γ1 (curL xs ys pre) zeroT6 W).s 6).t + 1, .buf (chunk xs x.1.1)⟩ := by rw [fs, upd_same]
          obtain ⟨hIf, hEf⟩ := hI'.freeze s6
          have hIfi := hIf.ent 6
          have hEt := hi.2.1.trans (hE'.trans hEf)
          have n3 : Γ'.s 3 = ⟨(Γ1.s 3).t, .buf (curL xs ys pre)⟩ := by rw [fs, upd_ne _ _ (by decide), upd_ne _ _ (by decide)]; exact can3 _ _ _ _
          have n4 : Γ'.s 4 = ⟨(Γ1.s 4).t, .buf zeroT6⟩ := by rw [fs, upd_ne _ _ (by decide), upd_ne _ _ (by decide)]; exact can4 _ _ _ _
          obtain ⟨c1, c2, c3, c4⟩ := hAh.again hIf hEt (by dsimp only; rw [upd_ne _ _ (by decide)]; exact n3) (by dsimp only; rw [upd_ne _ _ (by decide)]; exact n4) hi.2.2.1 rfl
          have p3 : a'.tmps.getD 3 undef = .pointer (some ⟨(Γ1.φ 3).blk, (Γ1.φ 3).base, none⟩) := by
            have := he'.val 3
            rw [f3] at this
            have := this.2 (curL xs ys pre) (by unfold cellsAt; rw [n3, t13]; simp)
            have c3' : Γ'.φ 3 = Γ1.φ 3 := c3
            rw [c3'] at this
            exact this
          have p6 := he'.val 6
          rw [f6] at p6
          have p6 := p6.2 (chunk xs x.1.1) (by unfold cellsAt; rw [s6]; simp)
          have q6 : VC (canS Γ1 Γ'.w) Γ'.w (chunk xs x.1.1) (Γ'.φ 6).blk (Γ'.φ 6).base := by
            unfold EntOk at hIfi
            simp only [upd_same, EntC] at hIfi
            exact VC.mono (Stays.sub c2) _ _ _ (VC.here _ _ _ hIfi)
          refine hK a' Γ'.w ((others_of_ext hi.1 (hAh.solid hi) hE').from _) ⟨hE'.size, fun b o h => (hE'.stays b o (.inl h)).2⟩ c1 ⟨hd', he'.size, p3, hEt.size, _, _, p6, q6⟩
        · -- the body
          rintro l pre x a' W _ _ hi ⟨h1, h2, h3, h3', b, o, h4, h5⟩ _
          have heR : EnvV (canG Γ1 (curL xs ys pre) zeroT6 W) (fun t => if t = 3 then .ptr 3 1 0 else if t = 6 then .rptr (chunk xs x.1.1) else .undef) a' 16 := by
            refine ⟨h2, fun t => ?_⟩
            by_cases e3 : t = 3
            · subst e3
              rw [if_pos rfl, h3]
              refine ⟨?_, fun zs _ => rfl⟩
              rw [can3, t13]; exact Nat.le_refl _
            · rw [if_neg e3]
              by_cases e6 : t = 6
              · subst e6
                rw [if_pos rfl, h4]
                exact V_cell ⟨b, o, rfl, h5⟩
              · rw [if_neg e6]; exact V_cell (by simp only [V0])
          refine den_cap (cfg := cfg0) (N := 0) (m := 16) nocall (F := Fence.wide.inRound l) (fun _ => trivial) _ plainBo dstB (bod_run _ (canG Γ1 (curL xs ys pre) zeroT6 W).s 0 1 (chunk xs x.1.1) (curL xs ys pre) (chunk_len hx x.2.1) hi.2.2.1 rfl rfl (by rw [can3, t13])) hi.1 heR ?_
          rintro ex env4 Γ' a4 ⟨rfl, fs⟩ hI' hE' he' hd'
          simp only [exOf, ownPostG]
          obtain ⟨c1, _⟩ := hAh.again hI' (hi.2.1.trans hE') (cur := consV (chunk xs x.1.1) (curL xs ys pre)) (c4 := zeroT6) (by rw [fs, upd_same, t13]) (by rw [fs, upd_ne _ _ (by decide)]; exact can4 _ _ _ _) (consV_len _ _) rfl
          refine ⟨(others_of_ext hi.1 (hAh.solid hi) hE').from _, ⟨hE'.size, fun b o h => (hE'.stays b o (.inl h)).2⟩, ?_⟩
          rw [curL_snoc]
          exact c1
        · -- behind the loop
          intro D pre W hD hpre hi hDo
          rw [curL_done pre hpre] at hi
          simp only [Exit.inBlock, Exit.then]
          have heR : EnvV (canG Γ1 (lstN xs len ys) zeroT6 W) env3 { a3 with defers := { target := .collected D, args := #[] } :: a3.defers } 16 := ⟨he3.size, fun t => V.ext hi.2.1 (he3.val t)⟩
          refine den_cap (cfg := cfg0) (N := 0) (m := 16) nocall (F := Fence.wide) (fun _ => trivial) _ plain4 dst4L (rL4_run _ (canG Γ1 (lstN xs len ys) zeroT6 W).s 0 1 1 (lstN xs len ys) zeroT6 hi.2.2.1 rfl e33 e34 (by rw [can3, t13]) (by rw [can4, t14])) hi.1 heR ?_
          rintro ex env5 Γ' a5 ⟨rfl, f4, fs⟩ hI' hE' he' hd'
          obtain ⟨c1, c2, c3, c4⟩ := hAh.again hI' (hi.2.1.trans hE') (cur := lstN xs len ys) (c4 := lstN xs len ys) (by rw [fs, upd_ne _ _ (by decide)]; exact can3 _ _ _ _) (by rw [fs, upd_same, t14]) hi.2.2.1 hi.2.2.1
          have hDo' : Γ'.w.heap[D]? = some (.deferred (some [])) := (others_of_ext hi.1 (hAh.solid hi) hE').same D _ hDo rfl
          have c5 : CI Γ1 (lstN xs len ys) (lstN xs len ys) (Γ'.w.putObj D (.deferred none)) := hAh.grown c1 (grownBy_putObj' _ D (.deferred none)) (fun r e => by cases e; exact ⟨hD, _, hDo', rfl⟩)
          have p4 : a5.tmps.getD 4 undef = .pointer (some ⟨(Γ1.φ 4).blk, (Γ1.φ 4).base, none⟩) := by
            have := he'.val 4
            rw [f4] at this
            have := this.2 (lstN xs len ys) (by unfold cellsAt; rw [fs, upd_same]; simp)
            rw [c4] at this
            exact this
          have hvv : ∀ t, V (canG Γ1 (lstN xs len ys) (lstN xs len ys) (Γ'.w.putObj D (.deferred none))) ((fun t => if t = 4 then .ptr 4 1 0 else .undef : Env) t) (a5.tmps.getD t undef) := fun t => by
            by_cases e4 : t = 4
            · subst e4
              simp only [if_true]
              rw [p4]
              refine ⟨?_, fun zs _ => rfl⟩
              rw [can4, t14]; exact Nat.le_refl _
            · simp only [if_neg e4]; exact V_cell (by simp only [V0])
          have hld : rvA Try.prog (canG Γ1 (lstN xs len ys) (lstN xs len ys) (Γ'.w.putObj D (.deferred none))).s (fun t => if t = 4 then .ptr 4 1 0 else .undef : Env) (.cell 4 28) = some (.agg (lstN xs len ys)) := by
            have h4 := can4 Γ1 (lstN xs len ys) (lstN xs len ys) (Γ'.w.putObj D (.deferred none))
            rw [t14] at h4
            have hlc := c1.2.2.1
            simp only [rvA, if_true, loadA, ldC, h4, Option.bind_some, partA, lsSh, List.drop_zero]
            rw [if_pos (by omega), List.take_of_length_le (by omega)]
          obtain ⟨u, hu1, hu2⟩ := rv_ok c5.1 hld hvv
          simp only [exOf, bodyPostM, hd', hd3, LeavesInM, LeavesIn]
          refine ⟨by simp, .inl ⟨D, _, rfl, run_takeDeferred hDo', ?_⟩⟩
          have hres : Try.f84.results = #[.cell 4 28] := by kernel_rfl
          refine ⟨u, results_one hres a5.tmps hu1, u, _, rfl, rfl, c5.1, hEG.trans c5.2.1, ⟨fun j a ha hm => ?_, (V_tree rfl).1 hu2⟩⟩
          match j, ha with
          | 0, ha => cases ha; cases hm
          | 1, ha => cases ha; cases hm
        · intro D c pre W _ _ hix
          exact hix.elim
      refine (callsIn_wide (n := 9)).1 ?_
      refine callsIn_of_wp_marks (fn := Try.f84) (c := codeL) Try.func84 (by kernel_rfl) trivial (H _ rfl ?_)
      have hn := Try.ntmps84
      refine ⟨?_, fun t => ?_⟩
      · show Array.size _ = 16
        rw [hn]; rfl
      · show V _ _ (Array.getD _ _ _)
        rw [show ([v0, v1].toArray : Array Value) = #[v0] ++ #[v1] from rfl, act2_get]
        by_cases h0 : t = 0
        · subst h0; exact V_cell k0
        · by_cases h1 : t = 1
          · subst h1; exact k1
          · simp only [if_neg h0, if_neg h1]; exact V_cell (by simp only [V0])
    · cases h
  · cases h
end Go.Ab

/- term.List by its contract. No conditions. -/
namespace Go.Ab
open Go.Proofs
theorem prim0_ok : FnOk Try.prog prim0 := fun f xs r os h => by
  unfold prim0 at h
  split at h
  · cases h
  split at h
  · rename_i hf
    rw [beq_iff_eq] at hf
    subst hf
    exact list_ok h
  · cases h
end Go.Ab

/- Lists of limbs out of a statement's reading. No conditions. -/
namespace Go.Ab
open Go.Proofs Go.RowKit
theorem limbsOf {w : World} {a : Option Addr} {len cap : Nat} {zs : List Int} (h : IsRow .u32 w a len cap zs) : ∃ l : List Nat, Limbs l ∧ V0 (old w) w (encL .l l) (.slice a len cap) := by
  refine ⟨(zs.take len).map Int.toNat, ?_, ?_⟩
  · intro x hx
    obtain ⟨z, hz, rfl⟩ := List.mem_map.mp hx
    have hz := List.mem_of_mem_take hz
    rcases h with ⟨_, _, _, rfl⟩ | ⟨_, _, _, _, _, _, hw⟩
    · cases hz
    · have := hw z hz
      simp [Lit.wf, IntKind.min, IntKind.max, IntKind.bits, IntKind.signed] at this
      omega
  · have hl : len ≤ zs.length := by
      rcases h with ⟨_, rfl, _, _⟩ | ⟨_, _, h1, _, h2, _, _⟩ <;> omega
    have e : encL .l ((zs.take len).map Int.toNat) = .sl ((zs.take len).map (AV.int .u32)) len .loose := by
      simp only [encL, encC, List.map_map, List.length_map, List.length_take, gr]
      rw [Nat.min_eq_left hl]
      congr 1
      refine List.map_congr_left fun z hz => ?_
      have hz := List.mem_of_mem_take hz
      rcases h with ⟨_, _, _, rfl⟩ | ⟨_, _, _, _, _, _, hw⟩
      · cases hz
      · have := hw z hz
        simp [Lit.wf, IntKind.min, IntKind.max, IntKind.bits, IntKind.signed] at this
        simp; omega
    rw [e]
    exact V0_row h
theorem mixed : Try.prog.follows .mixedOrders = true := by kernel_rfl
theorem st0_3 (u v w : AV) : st0 [.tree u, .tree v, .tree w] = dead := by
  funext j
  match j with
  | 0 | 1 | 2 | _ + 3 => simp [st0, dead]
end Go.Ab

/- Numbers out of a statement's reading. No conditions. -/
namespace Go.Ab
open Go.Proofs Go.RowKit Go.ChangeShapes Go.WideShapes Go.ChangeAt
set_option maxRecDepth 100000 in
theorem und24 : ∃ f0 f1 : Field, Try.prog.underlying 25 = some (.struct #[f0, f1]) ∧ f0.type = 4 ∧ f1.type = 23 ∧ f0.offset = 0 ∧ f1.offset = 1 := by
  exact ⟨_, _, Try.underlying25, rfl, rfl, rfl, rfl⟩
theorem cells4 : Try.prog.cellsOf 4 = 1 := by kernel_rfl
theorem cells24 : Try.prog.cellsOf 25 = 2 := by kernel_rfl
theorem cells22 : Try.prog.cellsOf 23 = 1 := by kernel_rfl
end Go.Ab

/- A number that may be, or 0; a number of a sign and limbs. Conditions: limbs in range. -/
namespace Go.Ab
open Go.Proofs
set_option maxRecDepth 100000
set_option linter.unusedSimpArgs false

abbrev canA (g : Gk) (z : Int) : AV := encA (decide (z < 0)) g (digs z.natAbs)
def gz (neg : Bool) (g : Gk) (l : List Nat) : Gk := if chkN neg l = true then g else .n
theorem cCheck (n d : Nat) (neg : Bool) (g : Gk) (l : List Nat) (hl : Limbs l) (D : Nat) (s : St) : callA cfg0 (evalFn Try.prog cfg0 n (d+1)) D s 69 [encA neg g l] = some (.bool (chkN neg l), s) :=
  callA_trees rfl (check_eq n d neg g l hl)
theorem cCheckR (n d : Nat) (b : Bool) (v : Nat) (D : Nat) (s : St) : callA cfg0 (evalFn Try.prog cfg0 n (d+1)) D s 69 [.agg [.bool b, encR v]] = some (.bool (chkN b (digs v)), s) :=
  cCheck n d b _ (digs v) (limbs_digs v) D s
theorem canA_of {neg : Bool} {g : Gk} {l : List Nat} (hl : Limbs l) (h : chkN neg l = true) : canA (gz neg g l) (numZ neg l) = encA neg g l := by
  obtain ⟨h1, h2, h3⟩ := numZ_is hl h
  unfold canA
  rw [h2, h3, gz, if_pos h]
theorem canA_no {neg : Bool} {g : Gk} {l : List Nat} (h : chkN neg l = false) : canA (gz neg g l) (numZ neg l) = encA false .n [] := by
  unfold canA
  rw [numZ_not h, gz, if_neg (by rw [h]; decide)]
  simp [digs_0]
set_option maxHeartbeats 2000000 in
theorem of_eq (n d : Nat) (neg : Bool) (g : Gk) (l : List Nat) (hl : Limbs l) : evalFn Try.prog cfg0 n (d+2) 36 [.tree (encA neg g l)] = some (.tree (canA (gz neg g l) (numZ neg l)), [[]]) := by
  rw [evalFn_go _ Try.func36 (by unfold Try.f36; rfl) (by unfold Try.f36; decide) (Nat.le_of_ble_eq_true (by unfold Try.f36; rfl)) (by kernel_rfl)]
  have c1 := fun D s => cCheck n d neg g l hl D s
  cases h : chkN neg l with
  | false =>
    rw [canA_no h]
    simp only [simB, zbo, Nat.reduceBEq, own0, ↓reduceIte, Nat.reduceEqDiff, Nat.reduceAdd, simA, simL, simN, Nat.zero_add, st0_1, c1, h, unA_not', Bool.not_false]
    exact finish_c _ _ 2 2 1 _ _ _ _ _ (by simp only [zfk, ↓reduceIte, Nat.reduceEqDiff]) (by simp only [zfk, ↓reduceIte, Nat.reduceEqDiff]) rfl
  | true =>
    rw [canA_of hl h]
    simp only [simB, zbo, Nat.reduceBEq, own0, ↓reduceIte, Nat.reduceEqDiff, Nat.reduceAdd, simA, simL, simN, Nat.zero_add, st0_1, c1, h, unA_not', Bool.not_true]
    exact finish_c _ _ 2 2 1 _ _ _ _ _ (by simp only [zfk, ↓reduceIte, Nat.reduceEqDiff]) (by simp only [zfk, ↓reduceIte, Nat.reduceEqDiff]) rfl
def IsN (w : AV) (z : Int) : Prop := ∃ neg g l, w = encA neg g l ∧ Limbs l ∧ numZ neg l = z
theorem isN_A (neg : Bool) (g : Gk) (l : List Nat) (hl : Limbs l) : IsN (encA neg g l) (numZ neg l) := ⟨neg, g, l, rfl, hl, rfl⟩
theorem IsN.lt {w : AV} {z : Int} (h : IsN w z) : z.natAbs < B ^ 12 := by
  obtain ⟨neg, g, l, _, hl, rfl⟩ := h
  exact numZ_lt neg l hl
theorem IsN.tree {w : AV} {z : Int} (h : IsN w z) : isTree w = true := by
  obtain ⟨neg, g, l, rfl, _⟩ := h; rfl
theorem cOf (n d : Nat) {w : AV} {z : Int} (h : IsN w z) : ∃ g, ∀ D s, callA cfg0 (evalFn Try.prog cfg0 n (d+2)) D s 36 [w] = some (canA g z, s) := by
  obtain ⟨neg, g, l, rfl, hl, rfl⟩ := h
  exact ⟨_, fun D s => callA_trees rfl (of_eq n d neg g l hl)⟩
theorem num_can (g : Gk) (z : Int) (h : z.natAbs < B ^ 12) : Num (encL g (digs z.natAbs)) z.natAbs := ⟨_, sh_L g _, limbs_digs _, Nat.le_trans (digs_len _ 12 h) (by decide), val_digs _⟩
theorem made_end (neg : Bool) (v : Nat) : (.agg [.bool (neg && decide (v ≠ 0)), encR v] : AV) = encZ (sgn neg v) := by
  rw [encZ, sgn_neg, sgn_abs]
set_option maxHeartbeats 2000000 in
theorem made_eq (n d : Nat) (neg : Bool) (g : Gk) (l : List Nat) (hl : Limbs l) (hn : l.length < n) (hk : l.length ≤ 1000000) : evalFn Try.prog cfg0 n (d+2) 38 [.tree (.bool neg), .tree (encL g l)] = some (.tree (.tup [encZ (mkZ (sgn neg (val l))).1, .bool (mkZ (sgn neg (val l))).2]), [[], []]) := by
  rw [evalFn_go _ Try.func38 (by unfold Try.f38; rfl) (by unfold Try.f38; decide) (Nat.le_of_ble_eq_true (by unfold Try.f38; rfl)) (by kernel_rfl)]
  have c1 := norm_call n d g l hl hn hk
  have hdl : (digs (val l)).length ≤ l.length := digs_len _ _ (val_lt l hl)
  generalize hv : val l = v at *
  have c2 := fun b D s => cCheckR n d b v D s
  have hp : (((digs v).length : Nat) : Int) > 0 ↔ v ≠ 0 := by
    have := digs_len0 v
    omega
  have hd : decide ((((digs v).length : Nat) : Int) > 0) = decide (v ≠ 0) := by
    rw [decide_eq_decide]; exact hp
  have hc : ∀ b : Bool, (v = 0 → b = false) → chkN b (digs v) = decide (v < B ^ 12) := fun b hb => chk_digs b v hb
  have hm : mkZ (sgn neg v) = if v < B ^ 12 then (sgn neg v, true) else (0, false) := by rw [mkZ, sgn_abs]
  rw [hm]
  cases neg with
  | false =>
    have hcf := hc false (fun _ => rfl)
    by_cases hf : v < B ^ 12
    · rw [if_pos hf]
      simp only [simB, zbo, Nat.reduceBEq, own0, ↓reduceIte, Nat.reduceEqDiff, Nat.reduceAdd, simA, simL, simN, Nat.zero_add, st0_2, c1, lenR, c2, hcf, hf, unA_not', Bool.not_true]
      rw [← made_end]
      exact finish_ct _ _ 4 4 1 _ _ _ _ _ _ _ (by simp only [zfk, ↓reduceIte, Nat.reduceEqDiff]) (by simp only [zfk, ↓reduceIte, Nat.reduceEqDiff]; rfl) (by simp only [zfk, ↓reduceIte, Nat.reduceEqDiff]) rfl
    · rw [if_neg hf]
      simp only [simB, zbo, Nat.reduceBEq, own0, ↓reduceIte, Nat.reduceEqDiff, Nat.reduceAdd, simA, simL, simN, Nat.zero_add, st0_2, c1, lenR, c2, hcf, hf, unA_not', Bool.not_false]
      rw [encZ_0]
      exact finish_ct _ _ 4 4 1 _ _ _ _ _ _ _ (by simp only [zfk, ↓reduceIte, Nat.reduceEqDiff]) (by simp only [zfk, ↓reduceIte, Nat.reduceEqDiff]) (by simp only [zfk, ↓reduceIte, Nat.reduceEqDiff]) rfl
  | true =>
    have hcf := hc (decide (v ≠ 0)) (fun h => decide_eq_false (by simpa using h))
    by_cases hf : v < B ^ 12
    · rw [if_pos hf]
      simp only [simB, zbo, Nat.reduceBEq, own0, ↓reduceIte, Nat.reduceEqDiff, Nat.reduceAdd, simA, simL, simN, Nat.zero_add, st0_2, c1, lenR, hd, c2, hcf, hf, unA_not', Bool.not_true]
      rw [← made_end]
      exact finish_ct _ _ 4 4 1 _ _ _ _ _ _ _ (by simp only [zfk, ↓reduceIte, Nat.reduceEqDiff]) (by simp only [zfk, ↓reduceIte, Nat.reduceEqDiff]; rfl) (by simp only [zfk, ↓reduceIte, Nat.reduceEqDiff]) rfl
    · rw [if_neg hf]
      simp only [simB, zbo, Nat.reduceBEq, own0, ↓reduceIte, Nat.reduceEqDiff, Nat.reduceAdd, simA, simL, simN, Nat.zero_add, st0_2, c1, lenR, hd, c2, hcf, hf, unA_not', Bool.not_false]
      rw [encZ_0]
      exact finish_ct _ _ 4 4 1 _ _ _ _ _ _ _ (by simp only [zfk, ↓reduceIte, Nat.reduceEqDiff]) (by simp only [zfk, ↓reduceIte, Nat.reduceEqDiff]) (by simp only [zfk, ↓reduceIte, Nat.reduceEqDiff]) rfl
end Go.Ab

/- Numbers of ints, negatives, bits, sums. Conditions: limbs in range. -/
namespace Go.Ab
open Go.Proofs
set_option maxRecDepth 100000
set_option linter.unusedSimpArgs false

def madeV (z : Int) : AV := .tup [encZ (mkZ z).1, .bool (mkZ z).2]
theorem callA_bS (call : FuncId → List Arg → Option Out) (d : Nat) (s : St) (f : FuncId) {w : AV} {l : List Nat} (h : Sh w l) (b : Bool) (v : AV) (hc : ∀ g, call f [.tree (.bool b), .tree (encL g l)] = some (.tree v, [[], []])) : callA cfg0 call d s f [.bool b, w] = some (v, s) := by
  obtain ⟨g, e⟩ := h.arg f s 1
  have e0 : argA cfg0 f s 0 (.bool b) = some (.tree (.bool b)) := rfl
  have g0 : ∀ a, givesOf (.bool b) a = none := fun a => by cases a <;> rfl
  have l0 : ∀ a, lendsOf (.bool b) a = none := fun a => by cases a <;> rfl
  simp [callA, argsA, e, e0, g0, l0, givesL, lendsL, h.gives, h.lends, hc, backA, resA]
section
variable (n d : Nat) (hn : 100000 ≤ n) (D : Nat) (s : St)
include hn
theorem cMade {w : AV} {v : Nat} (h : Num w v) (neg : Bool) : callA cfg0 (evalFn Try.prog cfg0 n (d+2)) D s 38 [.bool neg, w] = some (madeV (sgn neg v), s) := by
  obtain ⟨l, hs, hl, hk, rfl⟩ := h
  exact callA_bS _ D s _ hs neg _ fun g => made_eq n d neg g l hl (by omega) (by omega)
end
theorem conv3_55 (s : St) (z : Int) (h : -9223372036854775808 ≤ z) (h' : z ≤ 9223372036854775807) : convA Try.prog 3 72 s (.int .i64 z) = some (.int .u64 (((if z < 0 then 18446744073709551616 - z.natAbs else z.natAbs : Nat)) : Int)) := by
  simp only [convA, tk3, tk40, IntKind.wrap, IntKind.bits, IntKind.signed]
  congr 2
  simp only [Bool.false_and, Bool.false_eq_true, if_false]
  rw [show (2 : Int) ^ 64 = 18446744073709551616 from rfl]
  split <;> omega
theorem un_neg64 (x : Nat) (h : x < 18446744073709551616) : unA .neg (.int .u64 (x : Int)) = some (.int .u64 (((18446744073709551616 - x) % 18446744073709551616 : Nat) : Int)) := by
  simp only [unA, IntKind.wrap, IntKind.bits, IntKind.signed]
  congr 2
  simp; omega
def two22 (v w : AV) : Option AV := (fillA (fun i => some (i * 1, 1)) (rep 2 [AV.int .u32 0]) [(0, v), (1, w)]).map (AV.sl · 2 .tight)
theorem two22_int (x y : Int) : two22 (.int .u32 x) (.int .u32 y) = some (.sl [.int .u32 x, .int .u32 y] 2 .tight) := rfl
theorem opA_two (call : FuncId → List Arg → Option Out) (q : Bool) (d : Option Tmp) (ty : TypeId) (pos : String) (af : Array Edge) (g : Option (Nat × Bool)) (t : Nat) (env : Env) (s : St) (x y : Operand) :
    opA Try.prog cfg0 call q ⟨d, .buildSlice 23 2 #[(0, x), (1, y)], ty, pos, af, g⟩ t env s = (two22 (ev env x) (ev env y)).map (·, s) := by
  rw [opA_bs]
  simp only [tk22, esz31, zero31, Option.bind_some, List.map_cons, List.map_nil]
  rfl
theorem madeV_fit {z : Int} (h : z.natAbs < B ^ 12) : madeV z = .tup [encZ z, .bool true] := by rw [madeV, mkZ_fit h]
theorem B12_big : 18446744073709551616 ≤ B ^ 12 := by
  have : B ^ 2 ≤ B ^ 12 := Nat.pow_le_pow_right (by decide) (by decide)
  have e : B ^ 2 = 18446744073709551616 := by decide
  omega
theorem ext_0 (a b : AV) : extA 0 (.tup [a, b]) = some a := rfl
theorem ext_1 (a b : AV) : extA 1 (.tup [a, b]) = some b := rfl
theorem st_Z (s : St) (p k : Nat) (z : Int) : storeA Try.prog 25 s (.ptr p k 0) (encZ z) = stE (s p) p k s [.bool (decide (z < 0)), encR z.natAbs] := zes s p k _ _
set_option maxHeartbeats 2000000 in
theorem of64_eq (n d : Nat) (hn : 100000 ≤ n) (z : Int) (h : -9223372036854775808 ≤ z) (h' : z ≤ 9223372036854775807) : evalFn Try.prog cfg0 n (d+3) 21 [.tree (.int .i64 z)] = some (.tree (encZ z), [[]]) := by
  rw [evalFn_go _ Try.func21 (by unfold Try.f21; rfl) (by unfold Try.f21; decide) (Nat.le_of_ble_eq_true (by unfold Try.f21; rfl)) (by kernel_rfl)]
  have hz : z.natAbs ≤ 9223372036854775808 := by omega
  have hfit : z.natAbs < B ^ 12 := by have := B12_big; omega
  have c0 := fun s => conv3_55 s z h h'
  have key : ∀ (x : Nat), x = z.natAbs → x < 18446744073709551616 →
      (∀ s, convA Try.prog 72 56 s (.int .u64 (x : Int)) = some (.int .u32 ((x % 4294967296 : Nat) : Int))) ∧
      binA Try.prog .shr 72 (.int .u64 (x : Int)) (.int .u64 32) = some (.int .u64 ((x / 4294967296 : Nat) : Int)) ∧
      (∀ s, convA Try.prog 72 56 s (.int .u64 ((x / 4294967296 : Nat) : Int)) = some (.int .u32 ((x / 4294967296 % 4294967296 : Nat) : Int))) ∧
      (∀ D s, callA cfg0 (evalFn Try.prog cfg0 n (d+2)) D s 38 [.bool (decide (z < 0)), .sl [.int .u32 ((x % 4294967296 : Nat) : Int), .int .u32 ((x / 4294967296 % 4294967296 : Nat) : Int)] 2 .tight] = some (.tup [encZ z, .bool true], s)) := by
    intro x hx hlt
    refine ⟨fun s => zeg s x, ?_, fun s => zeg s _, fun D s => ?_⟩
    · have := u_shr Try.prog 72 x .u64 32 (by decide) (by decide)
      rw [show (2 : Nat) ^ (32 : Int).toNat = 4294967296 from rfl] at this
      exact this
    · have hnum : Num (.sl [.int .u32 ((x % 4294967296 : Nat) : Int), .int .u32 ((x / 4294967296 % 4294967296 : Nat) : Int)] 2 .tight) x := by
        refine ⟨[x % 4294967296, x / 4294967296 % 4294967296], ⟨_, rfl⟩, limbs_cons (Nat.mod_lt _ (by decide)) (limbs_one (Nat.mod_lt _ (by decide))), by simp, ?_⟩
        show x % 4294967296 + 4294967296 * (x / 4294967296 % 4294967296 + 4294967296 * 0) = x
        omega
      have := cMade n d hn D s hnum (decide (z < 0))
      rw [hx, sgn_of, madeV_fit hfit] at this
      rw [hx]; exact this
  by_cases hneg : z < 0
  · rw [if_pos hneg] at c0
    have u := un_neg64 (18446744073709551616 - z.natAbs) (by omega)
    rw [show (18446744073709551616 - (18446744073709551616 - z.natAbs)) % 18446744073709551616 = z.natAbs by omega] at u
    obtain ⟨k1, k2, k3, k4⟩ := key z.natAbs rfl (by omega)
    rw [decide_eq_true hneg] at k4
    simp only [simB, zbo, Nat.reduceBEq, own0, ↓reduceIte, Nat.reduceEqDiff, Nat.reduceAdd, simA, simL, simN, Nat.zero_add, st0_1, c0, hneg, u, k1, k2, k3, opA_two, two22_int, k4, ext_0, ext_1, st_Z]
    exact finish_c _ _ 2 2 1 _ _ _ _ _ (by simp only [zfk, ↓reduceIte, Nat.reduceEqDiff]) (by simp only [zfk, ↓reduceIte, Nat.reduceEqDiff, hneg, decide_true, decide_false]) rfl
  · rw [if_neg hneg] at c0
    obtain ⟨k1, k2, k3, k4⟩ := key z.natAbs rfl (by omega)
    rw [decide_eq_false hneg] at k4
    simp only [simB, zbo, Nat.reduceBEq, own0, ↓reduceIte, Nat.reduceEqDiff, Nat.reduceAdd, simA, simL, simN, Nat.zero_add, st0_1, c0, hneg, k1, k2, k3, opA_two, two22_int, k4, ext_0, ext_1, st_Z]
    exact finish_c _ _ 2 2 1 _ _ _ _ _ (by simp only [zfk, ↓reduceIte, Nat.reduceEqDiff]) (by simp only [zfk, ↓reduceIte, Nat.reduceEqDiff, hneg, decide_true, decide_false]) rfl
end Go.Ab

/- Bits of a number, the compare, sums. Conditions: limbs in range. -/
namespace Go.Ab
open Go.Proofs
set_option maxRecDepth 100000
set_option linter.unusedSimpArgs false

theorem finish_i (k : Bool) (xs : List Arg) (t : Nat) (env : Env) (s : St) (z : Int) (os : List (List AV)) (hv : env t = .int .i64 z) (ho : outsA s 0 xs = some os) : finishP Try.prog k xs #[.tmp t] env s = some (.tree (.int .i64 z), os) :=
  finish_tree _ _ _ _ _ _ (.int .i64 z) _ _ hv rfl ho
theorem finish_b (k : Bool) (xs : List Arg) (t : Nat) (env : Env) (s : St) (b : Bool) (os : List (List AV)) (hv : env t = .bool b) (ho : outsA s 0 xs = some os) : finishP Try.prog k xs #[.tmp t] env s = some (.tree (.bool b), os) :=
  finish_tree _ _ _ _ _ _ (.bool b) _ _ hv rfl ho
set_option maxHeartbeats 2000000 in
theorem bits_eq (n d : Nat) (hn : 100000 ≤ n) {w : AV} {z : Int} (hw : IsN w z) : evalFn Try.prog cfg0 n (d+3) 23 [.tree w] = some (.tree (.int .i64 (blen z.natAbs : Int)), [[]]) := by
  obtain ⟨g, c1⟩ := cOf n d hw
  have hlt := hw.lt
  obtain ⟨neg, g0, l, rfl, hl, hz⟩ := hw
  rw [evalFn_go _ Try.func23 (by unfold Try.f23; rfl) (by unfold Try.f23; decide) (Nat.le_of_ble_eq_true (by unfold Try.f23; rfl)) (by kernel_rfl)]
  have c2 := fun D s => cLen n d hn D s (num_can g z hlt)
  simp only [simB, zbo, Nat.reduceBEq, own0, ↓reduceIte, Nat.reduceEqDiff, Nat.reduceAdd, simA, simL, simN, Nat.zero_add, st0_1, c1, c2]
  exact finish_i _ _ _ _ _ _ _ (by simp only [zfk, ↓reduceIte]) rfl
theorem bool_eql (t : TypeId) (ht : tkOf Try.prog t = .bool) (a b : Bool) : binA Try.prog .eql t (.bool a) (.bool b) = some (.bool (a == b)) := by
  simp only [binA, ht]
end Go.Ab

/- Op: sums, differences, products, quotients. Conditions: numbers that are shown. -/
namespace Go.Ab
open Go.Proofs
set_option maxRecDepth 100000
set_option linter.unusedSimpArgs false

section
variable (n d : Nat) (hn : 100000 ≤ n) {w w' : AV} {z z' : Int} (hw : IsN w z) (hw' : IsN w' z')
include hn hw hw'
set_option maxHeartbeats 8000000
end
end Go.Ab

/- A number as an int, if it is one. Conditions: numbers that are shown. -/
namespace Go.Ab
open Go.Proofs
set_option maxRecDepth 100000
set_option linter.unusedSimpArgs false

def isI64 (z : Int) : Bool := decide (-9223372036854775808 ≤ z) && decide (z < 9223372036854775808)
def intZ (z : Int) : AV := if isI64 z = true then .tup [.int .i64 z, .bool true] else .tup [.int .i64 0, .bool false]
theorem finish_ib (k : Bool) (xs : List Arg) (t u : Nat) (env : Env) (s : St) (z : Int) (b : Bool) (os : List (List AV)) (hv : env t = .int .i64 z) (hu : env u = .bool b) (ho : outsA s 0 xs = some os) :
    finishP Try.prog k xs #[.tmp t, .tmp u] env s = some (.tree (.tup [.int .i64 z, .bool b]), os) := by
  simp only [finishP_t2, finish, List.mapM_cons, List.mapM_nil, hv, hu, Option.pure_def, Option.bind_eq_bind, Option.bind_some, settleL, settle, Option.map_some, ho]
theorem conv55_3 (s : St) (x : Nat) (h : x < 18446744073709551616) : convA Try.prog 72 3 s (.int .u64 (x : Int)) = some (.int .i64 (if x < 9223372036854775808 then (x : Int) else (x : Int) - 18446744073709551616)) := by
  have e : IntKind.i64.wrap (x : Int) = if x < 9223372036854775808 then (x : Int) else (x : Int) - 18446744073709551616 := by
    simp [IntKind.wrap, IntKind.bits, IntKind.signed]
    (repeat' split) <;> omega
  simp only [convA, tk3, tk40, e]
theorem len2_val (l : List Nat) (hl : Limbs l) (h : l.length ≤ 2) : val l < 18446744073709551616 := by
  have := val_lt l hl
  have h2 : B ^ l.length ≤ B ^ 2 := Nat.pow_le_pow_right (by decide) h
  have e : B ^ 2 = 18446744073709551616 := by decide
  omega
set_option maxHeartbeats 4000000 in
theorem int_eq (n d : Nat) (hn : 100000 ≤ n) {w : AV} {z : Int} (hw : IsN w z) : evalFn Try.prog cfg0 n (d+3) 24 [.tree w] = some (.tree (intZ z), [[]]) := by
  obtain ⟨g, c1⟩ := cOf n d hw
  have hlt := hw.lt
  obtain ⟨neg0, g0, l0, rfl, _, _⟩ := hw
  rw [evalFn_go _ Try.func24 (by unfold Try.f24; rfl) (by unfold Try.f24; decide) (Nat.le_of_ble_eq_true (by unfold Try.f24; rfl)) (by kernel_rfl)]
  have hl := limbs_digs z.natAbs
  have hv := val_digs z.natAbs
  have hdl : ∀ k, (digs z.natAbs).length ≤ k ↔ z.natAbs < B ^ k := digs_len_le z.natAbs
  obtain ⟨l, hle⟩ : ∃ l, digs z.natAbs = l := ⟨_, rfl⟩
  rw [hle] at hl hv hdl
  by_cases h2 : (l.length : Int) > 2
  · have hb : ¬ z.natAbs < B ^ 2 := fun h => by have := (hdl 2).mpr h; omega
    have e : B ^ 2 = 18446744073709551616 := by decide
    rw [e] at hb
    have hi : isI64 z = false := by
      unfold isI64
      by_cases hz : z < 0
      · rw [decide_eq_false (show ¬ -9223372036854775808 ≤ z by omega)]; rfl
      · rw [decide_eq_false (show ¬ z < 9223372036854775808 by omega), Bool.and_false]
    rw [intZ, if_neg (by rw [hi]; decide)]
    simp only [simB, zbo, Nat.reduceBEq, own0, ↓reduceIte, Nat.reduceEqDiff, Nat.reduceAdd, simA, simL, simN, Nat.zero_add, st0_1, c1, hle, h2]
    exact finish_ib _ _ _ _ _ _ _ _ _ (by simp only [zfk, ↓reduceIte, Nat.reduceEqDiff]) (by simp only [zfk, ↓reduceIte, Nat.reduceEqDiff]) rfl
  have hx64 : z.natAbs < 18446744073709551616 := by rw [← hv]; exact len2_val l hl (by omega)
  simp only [simB, zbo, Nat.reduceBEq, own0, ↓reduceIte, Nat.reduceEqDiff, Nat.reduceAdd, simA, simL, simN, Nat.zero_add, st0_1, c1, hle, h2, den_loop]
  refine loop_ends (X := Nat) (fun i env s => env 1 = .ptr 1 1 0 ∧ s 1 = ⟨1, .buf [.bool (decide (z < 0)), encL g l]⟩ ∧ env 14 = encL g l ∧ env 15 = .int .i64 (l.length : Int) ∧ env 16 = .int .i64 (i : Int) ∧ env 4 = .int .u64 (val (l.take i) : Int) ∧ i ≤ l.length ∧ outsA s 0 [.tree (encA neg0 g0 l0)] = some [[]]) (fun i => l.length - i) (fun _ => (.tree (intZ z), [[]])) ?_ n 0 _ _ (by omega) ⟨rfl, rfl, rfl, rfl, rfl, rfl, Nat.zero_le _, rfl⟩
  intro k i hx ih env s ⟨e1, hs, e14, e15, e16, e4, hi, ho⟩
  by_cases hp : i = l.length
  · subst hp
    have q1 : ¬ ((l.length : Int) < (l.length : Int)) := by omega
    rw [List.take_length, hv] at e4
    by_cases hz : z < 0
    · by_cases hr : z.natAbs ≤ 9223372036854775808
      · have hr' : (z.natAbs : Int) ≤ 9223372036854775808 := by omega
        have u := un_neg64 z.natAbs (by omega)
        rw [Nat.mod_eq_of_lt (by omega)] at u
        have c2 := conv55_3 s (18446744073709551616 - z.natAbs) (by omega)
        rw [if_neg (by omega), show ((18446744073709551616 - z.natAbs : Nat) : Int) - 18446744073709551616 = z by omega] at c2
        have hi : isI64 z = true := by
          unfold isI64
          rw [decide_eq_true (show -9223372036854775808 ≤ z by omega), decide_eq_true (show z < 9223372036854775808 by omega)]; rfl
        rw [intZ, if_pos hi]
        simp only [simB, zbo, Nat.reduceBEq, own0, ↓reduceIte, Nat.reduceEqDiff, Nat.reduceAdd, simL, simN, Nat.zero_add, e1, hs, e14, e15, e16, e4, q1, hz, hr', u, c2]
        exact finish_ib _ _ _ _ _ _ _ _ _ (by simp only [zfk, ↓reduceIte, Nat.reduceEqDiff]) (by simp only [zfk, ↓reduceIte, Nat.reduceEqDiff]) ho
      · have hr' : ¬ (z.natAbs : Int) ≤ 9223372036854775808 := by omega
        have hi : isI64 z = false := by
          unfold isI64
          rw [decide_eq_false (show ¬ -9223372036854775808 ≤ z by omega)]; rfl
        rw [intZ, if_neg (by rw [hi]; decide)]
        simp only [simB, zbo, Nat.reduceBEq, own0, ↓reduceIte, Nat.reduceEqDiff, Nat.reduceAdd, simL, simN, Nat.zero_add, e1, hs, e14, e15, e16, e4, q1, hz, hr', unA_not', Bool.not_true, Bool.not_false]
        exact finish_ib _ _ _ _ _ _ _ _ _ (by simp only [zfk, ↓reduceIte, Nat.reduceEqDiff]) (by simp only [zfk, ↓reduceIte, Nat.reduceEqDiff]) ho
    · by_cases hr : z.natAbs < 9223372036854775808
      · have hr' : (z.natAbs : Int) < 9223372036854775808 := by omega
        have c2 := conv55_3 s z.natAbs (by omega)
        rw [if_pos hr, show ((z.natAbs : Nat) : Int) = z by omega] at c2
        have hi : isI64 z = true := by
          unfold isI64
          rw [decide_eq_true (show -9223372036854775808 ≤ z by omega), decide_eq_true (show z < 9223372036854775808 by omega)]; rfl
        rw [intZ, if_pos hi]
        rw [show ((z.natAbs : Nat) : Int) = z by omega] at e4 hr'
        simp only [simB, zbo, Nat.reduceBEq, own0, ↓reduceIte, Nat.reduceEqDiff, Nat.reduceAdd, simL, simN, Nat.zero_add, e1, hs, e14, e15, e16, e4, q1, hz, hr', c2, unA_not', Bool.not_true, Bool.not_false]
        exact finish_ib _ _ _ _ _ _ _ _ _ (by simp only [zfk, ↓reduceIte, Nat.reduceEqDiff]) (by simp only [zfk, ↓reduceIte, Nat.reduceEqDiff]) ho
      · have hr' : ¬ (z.natAbs : Int) < 9223372036854775808 := by omega
        have hi : isI64 z = false := by
          unfold isI64
          rw [decide_eq_false (show ¬ z < 9223372036854775808 by omega), Bool.and_false]
        rw [intZ, if_neg (by rw [hi]; decide)]
        simp only [simB, zbo, Nat.reduceBEq, own0, ↓reduceIte, Nat.reduceEqDiff, Nat.reduceAdd, simL, simN, Nat.zero_add, e1, hs, e14, e15, e16, e4, q1, hz, hr', unA_not', Bool.not_true, Bool.not_false]
        exact finish_ib _ _ _ _ _ _ _ _ _ (by simp only [zfk, ↓reduceIte, Nat.reduceEqDiff]) (by simp only [zfk, ↓reduceIte, Nat.reduceEqDiff]) ho
  · have q1 : (i : Int) < (l.length : Int) := by omega
    have q2 : (0 : Int) ≤ (i : Int) := by omega
    have q3 : i < l.length := by omega
    have hxi := getD_lt l hl i
    have hti := val_take_lt l hl i
    have hst := val_take_succ' l i
    have m1 := i_mul Try.prog 3 32 (i : Int) (by omega) (by omega)
    have hi1 : i = 0 ∨ i = 1 := by omega
    have m2 := u_shl Try.prog 72 (l.getD i 0) .i64 (32 * (i : Int)) (by omega) (by omega)
    rw [show (32 * (i : Int)).toNat = 32 * i by omega] at m2
    have hB : B ^ i = 2 ^ (32 * i) := B_pow i
    have hsm : l.getD i 0 * 2 ^ (32 * i) < 18446744073709551616 := by
      rcases hi1 with rfl | rfl
      · omega
      · have : (2 : Nat) ^ (32 * 1) = 4294967296 := by decide
        omega
    rw [Nat.mod_eq_of_lt hsm] at m2
    have hor := shl_or (l.getD i 0) (val (l.take i)) (32 * i) (by rw [← hB]; exact hti)
    have hnew : val (l.take i) + l.getD i 0 * 2 ^ (32 * i) = val (l.take (i + 1)) := by rw [hst, hB, Nat.mul_comm]
    have hb64 : val (l.take i) < 18446744073709551616 := len2_val _ (hl.take i) (by rw [List.length_take]; omega)
    have m3 := u_or Try.prog 72 (val (l.take i)) (l.getD i 0 * 2 ^ (32 * i)) hb64 hsm
    rw [hor, hnew] at m3
    have f4 := i_add Try.prog 3 (i : Int) 1 (by omega) (by omega)
    simp only [simB, zbo, Nat.reduceBEq, own0, ↓reduceIte, Nat.reduceEqDiff, Nat.reduceAdd, simL, simN, Nat.zero_add, e1, e14, e15, e16, e4, q1, q2, q3, Int.toNat_natCast, hxi, m1, m2, m3, f4]
    refine ih (i + 1) _ _ (by omega) rfl ⟨?_, hs, ?_, ?_, ?_, ?_, by omega, ho⟩
    · simp only [zfk, ↓reduceIte, Nat.reduceEqDiff, e1]
    · simp only [zfk, ↓reduceIte, Nat.reduceEqDiff, e14]
    · simp only [zfk, ↓reduceIte, Nat.reduceEqDiff, e15]
    · simp only [zfk, ↓reduceIte, Nat.reduceEqDiff]; rfl
    · simp only [zfk, ↓reduceIte, Nat.reduceEqDiff]
end Go.Ab

/- Shifts of numbers with signs: plain arithmetic. -/
namespace Go.Ab
end Go.Ab

/- Shifts of numbers. Conditions: numbers that are shown. -/
namespace Go.Ab
open Go.Proofs
set_option maxRecDepth 100000
set_option linter.unusedSimpArgs false

end Go.Ab

/- Shifts of numbers, however far. Conditions: numbers that are shown. -/
namespace Go.Ab
open Go.Proofs
set_option maxRecDepth 100000
set_option linter.unusedSimpArgs false

end Go.Ab
