/- Several texts put together: AbtLs, AbtSh, AbtLawB, AbtLawN, AbtA2, AbtA3, AbtA4, AbtA5, AbtA6, AbMn2, AbtA7a, AbtA7, AbtA9, AbtT1, AbtT2, AbtT3, AbtT4, AbtT6, AbtX0, AbtT7, AbtT8, AbtT9, AbtT10, AbtT12, AbtT13, AbtT14. Conditions: as each part says. -/
import Derived.Test.YtaifnpbgamookaaDoorAbTTextsZ04
import Derived.WalkKit
import Derived.TacticsInMore
import Derived.RangeFuncNested
import Derived.Test.YtaifnpbgamookaaDoorAbTTextsZ03
import Derived.Shelf.Strings.OnBuilder
import Derived.Test.YtaifnpbgamookaaDoorProg
import Derived.KernelRfl
import Derived.ProofKit
import Derived.OpenShut
/- term.List keeps its contract: a range over a function. Conditions: lengths in range. -/
namespace Go.Ab
open Go.Proofs
set_option maxRecDepth 100000
set_option linter.unusedSimpArgs false
set_option linter.unusedVariables false

theorem lsTk : tkOf Tryd.prog 28 = .st := by kernel_rfl
theorem lsEsz : esz Tryd.prog 28 = some 6 := by kernel_rfl
theorem lsSh : shOf Tryd.prog 28 = some (true, 6) := by kernel_rfl
theorem lsZero : zeroOf Tryd.prog 28 = some [.int .i64 0, .bool false, .sl [] 0 .nil, .str [], .int .i64 0, .sl [] 0 .nil] := by kernel_rfl
theorem lsPl : placesA Tryd.prog 28 = some [(0, 1), (1, 2), (3, 1), (4, 1), (5, 1)] := by kernel_rfl
theorem lsTkK : tkOf Tryd.prog 26 = .sl 28 := by kernel_rfl
theorem lsShK : shOf Tryd.prog 26 = some (false, 1) := by kernel_rfl
def looker (S : Nat → Nat → Prop) (W : World) : G := ⟨fun _ => ⟨0, 0, 0⟩, fun _ => ⟨0, .dead⟩, S, W⟩
theorem looker_inv {S : Nat → Nat → Prop} {W : World} (h : ∀ b o, S b o → b < W.heap.size) : Inv (looker S W) := by
  have hnr : ∀ p b o, ¬ Rg (looker S W) p b o := fun p b o h => by simp [Rg, looker] at h
  exact ⟨⟨fun p => by simp [EntOk, EntC, looker], fun p q b o _ h => absurd h (hnr p b o), fun b o hs => ⟨h b o hs, fun p => hnr p b o⟩⟩, fun p t xs hs h => by simp [looker] at h⟩
def KpS (S : Nat → Nat → Prop) (W W' : World) : Prop := W.heap.size ≤ W'.heap.size ∧ ∀ b o, S b o → W'.cell? ⟨b, o, none⟩ = W.cell? ⟨b, o, none⟩
theorem KpS.stays {S : Nat → Nat → Prop} {W W' : World} (h : KpS S W W') : Stays S W S W' := fun b o hs => ⟨hs, h.2 b o hs⟩
theorem KpS.back {S : Nat → Nat → Prop} {W W' : World} (h : KpS S W W') : Stays S W' S W := fun b o hs => ⟨hs, (h.2 b o hs).symm⟩
theorem KpS.refl (S : Nat → Nat → Prop) (W : World) : KpS S W W := ⟨Nat.le_refl _, fun _ _ _ => rfl⟩
theorem KpS.trans {S : Nat → Nat → Prop} {A B C : World} (h : KpS S A B) (k : KpS S B C) : KpS S A C := ⟨Nat.le_trans h.1 k.1, fun b o hs => (k.2 b o hs).trans (h.2 b o hs)⟩
abbrev Item (S : Nat → Nat → Prop) (W : World) (xs : List AV) (len : Nat) := { p : Nat × List Value // p.1 < len ∧ VL S W (chunk xs p.1) p.2 }
def Item.encs {S : Nat → Nat → Prop} {W : World} {xs : List AV} {len : Nat} (x : Item S W xs len) : Array Value := #[.int .i64 (x.1.1 : Int), .agg x.1.2.toArray]
theorem nocall : FnOk Tryd.prog (fun _ _ => none) := fun _ _ _ _ h => by cases h
def loopBody : Code → Code
  | .loop c => c
  | _ => .skip
def blockBody : Code → Code
  | .block _ c => c
  | _ => .skip
def seqR : Code → Code
  | .seq _ c => c
  | _ => .skip
def seqL : Code → Code
  | .seq c _ => c
  | _ => .skip
noncomputable def codeB : Code := (Tryd.f60.body).getD .skip
noncomputable def roundB : Code := loopBody (blockBody (seqR codeB))
noncomputable def r1B : Code := seqL (seqL roundB)
noncomputable def r3B : Code := seqL (blockBody (seqL (seqR roundB)))
noncomputable def r2B : Code := seqR (seqR roundB)
def opsR : Code → List Oper
  | .region _ ops _ => ops.toList
  | _ => []
theorem codeB_eq : codeB = .seq (.region 0 (opsR (seqL codeB)).toArray false) (.block 0 (.loop roundB)) := by kernel_rfl
theorem roundB_eq : roundB = .seq (.seq (.region 1 (opsR r1B).toArray false) (.cond (.tmp 8) .skip (.exit 0))) (.seq (.block 1 (.seq (.region 3 (opsR r3B).toArray false) (.cond (.tmp 18) .ret .skip))) (.region 2 (opsR r2B).toArray false)) := by kernel_rfl
noncomputable def moveB : Oper := ((opsR r3B)[0]?).getD default
noncomputable def midB : List Oper := ((opsR r3B).drop 1).take 5
noncomputable def callB : Oper := ((opsR r3B)[6]?).getD default
noncomputable def notB : Oper := ((opsR r3B)[7]?).getD default
theorem r3_split : opsR r3B = moveB :: (midB ++ [callB, notB]) := by kernel_rfl
theorem moveB_op : moveB.op = .move (.tmp 0) ∧ moveB.guard = none ∧ moveB.dst = some 11 := ⟨by kernel_rfl, by kernel_rfl, by kernel_rfl⟩
theorem callB_op : callB.op = .call ⟨.value (.tmp 11), #[.tmp 12, .tmp 16], #[3, 28]⟩ ∧ callB.guard = none ∧ callB.dst = some 17 := ⟨by kernel_rfl, by kernel_rfl, by kernel_rfl⟩
theorem notB_op : lookOp notB.op = true ∧ notB.guard = none ∧ notB.dst = some 18 := ⟨by kernel_rfl, by kernel_rfl, by kernel_rfl⟩
def okOps (l : List Oper) : Bool := l.all fun o => lookOp o.op && o.guard.isNone && (match o.dst with | some d => decide (d < 19) | none => true)
theorem okOps_look {l : List Oper} (h : okOps l = true) : ∀ o ∈ l, lookOp o.op = true ∧ o.guard = none := fun o ho => by
  have := List.all_eq_true.1 h o ho
  simp only [Bool.and_eq_true, Option.isNone_iff_eq_none] at this
  exact this.1
theorem okOps_dst {l : List Oper} (h : okOps l = true) : ∀ o ∈ l, ∀ d, o.dst = some d → d < 19 := fun o ho d hd => by
  have := List.all_eq_true.1 h o ho
  simp only [Bool.and_eq_true] at this
  have := this.2
  rw [hd] at this
  simpa using this
section
variable (env : Env) (s : St)
theorem r0_run (xs : List AV) (len : Nat) (g : Grip) (hlen : len ≤ 9223372036854775807) (h1 : env 1 = .rptr [.sl xs len g]) : ∃ env', opsA Tryd.prog cfg0 (fun _ _ => none) false (opsR (seqL codeB)).toArray (opsR (seqL codeB)) env s = some (env', s) ∧ env' 1 = env 1 ∧ env' 3 = .int .i64 ((len : Int) - 1) := by
  have h : ops1 Tryd.prog cfg0 (fun _ _ => none) false (opsR (seqL codeB)).toArray (opsR (seqL codeB)) (capK fun _ env' s' => s' = s ∧ env' 1 = env 1 ∧ env' 3 = .int .i64 ((len : Int) - 1)) env s = some (.tree .undef, []) := by
    have ld : ∀ st, loadA Tryd.prog 26 st (.rptr [.sl xs len g]) = some (.sl xs len g) := fun st => by simp only [loadA, partA, lsShK]; rfl
    have ln : ∀ st, lenA Tryd.prog 26 st (.sl xs len g) = some (.int .i64 (len : Int)) := fun st => by simp only [lenA, lsTkK]
    have sb := i_sub Tryd.prog 3 (len : Int) 1 (by omega) (by omega)
    simp only [opsR, codeB, seqL, Tryd.f60, simB, zbo, Nat.reduceBEq, own0, ↓reduceIte, Nat.reduceEqDiff, Nat.reduceAdd, h1, ld, ln, sb]
    exact capK_of ⟨rfl, (by simp only [zfk, ↓reduceIte, Nat.reduceEqDiff, h1]; try rfl), (by simp only [zfk, ↓reduceIte, Nat.reduceEqDiff]; try rfl)⟩
  obtain ⟨env', s', e1, rfl, e2, e3⟩ := ops1_cap h
  exact ⟨env', e1, e2, e3⟩
theorem r1_run (i : Int) (h3 : env 3 = .int .i64 i) : ∃ env', opsA Tryd.prog cfg0 (fun _ _ => none) false (opsR r1B).toArray (opsR r1B) env s = some (env', s) ∧ env' 1 = env 1 ∧ env' 3 = .int .i64 i ∧ env' 8 = .bool (decide (i ≥ 0)) := by
  have h : ops1 Tryd.prog cfg0 (fun _ _ => none) false (opsR r1B).toArray (opsR r1B) (capK fun _ env' s' => s' = s ∧ env' 1 = env 1 ∧ env' 3 = .int .i64 i ∧ env' 8 = .bool (decide (i ≥ 0))) env s = some (.tree .undef, []) := by
    simp only [opsR, r1B, roundB, codeB, seqL, seqR, loopBody, blockBody, Tryd.f60, simB, zbo, Nat.reduceBEq, own0, ↓reduceIte, Nat.reduceEqDiff, Nat.reduceAdd, simL, h3]
    exact capK_of ⟨rfl, (by simp only [zfk, ↓reduceIte, Nat.reduceEqDiff]; try rfl), (by simp only [zfk, ↓reduceIte, Nat.reduceEqDiff, h3]; try rfl), (by simp only [zfk, ↓reduceIte, Nat.reduceEqDiff]; try rfl)⟩
  obtain ⟨env', s', e1, rfl, e2, e3, e4⟩ := ops1_cap h
  exact ⟨env', e1, e2, e3, e4⟩
theorem r2_run (i : Nat) (hi : i ≤ 9223372036854775807) (h3 : env 3 = .int .i64 (i : Int)) : ∃ env', opsA Tryd.prog cfg0 (fun _ _ => none) false (opsR r2B).toArray (opsR r2B) env s = some (env', s) ∧ env' 1 = env 1 ∧ env' 3 = .int .i64 ((i : Int) - 1) := by
  have h : ops1 Tryd.prog cfg0 (fun _ _ => none) false (opsR r2B).toArray (opsR r2B) (capK fun _ env' s' => s' = s ∧ env' 1 = env 1 ∧ env' 3 = .int .i64 ((i : Int) - 1)) env s = some (.tree .undef, []) := by
    have sb := i_sub Tryd.prog 3 (i : Int) 1 (by omega) (by omega)
    simp only [opsR, r2B, roundB, codeB, seqL, seqR, loopBody, blockBody, Tryd.f60, simB, zbo, Nat.reduceBEq, own0, ↓reduceIte, Nat.reduceEqDiff, Nat.reduceAdd, simL, h3, sb]
    exact capK_of ⟨rfl, (by simp only [zfk, ↓reduceIte, Nat.reduceEqDiff]; try rfl), (by simp only [zfk, ↓reduceIte, Nat.reduceEqDiff]; try rfl)⟩
  obtain ⟨env', s', e1, rfl, e2, e3⟩ := ops1_cap h
  exact ⟨env', e1, e2, e3⟩
theorem r3_run (xs : List AV) (len : Nat) (g : Grip) (hx : xs.length = len * 6) (i : Nat) (hi : i < len) (h1 : env 1 = .rptr [.sl xs len g]) (h3 : env 3 = .int .i64 (i : Int)) : ∃ env', opsA Tryd.prog cfg0 (fun _ _ => none) false (opsR r3B).toArray midB env s = some (env', s) ∧ env' 1 = env 1 ∧ env' 3 = .int .i64 (i : Int) ∧ env' 12 = .int .i64 (i : Int) ∧ env' 16 = .agg (chunk xs i) := by
  have h : ops1 Tryd.prog cfg0 (fun _ _ => none) false (opsR r3B).toArray midB (capK fun _ env' s' => s' = s ∧ env' 1 = env 1 ∧ env' 3 = .int .i64 (i : Int) ∧ env' 12 = .int .i64 (i : Int) ∧ env' 16 = .agg (chunk xs i)) env s = some (.tree .undef, []) := by
    have ld : ∀ st, loadA Tryd.prog 26 st (.rptr [.sl xs len g]) = some (.sl xs len g) := fun st => by simp only [loadA, partA, lsShK]; rfl
    have ia : ∀ st, indexAddrA Tryd.prog 26 st (.sl xs len g) (.int .i64 (i : Int)) = some (.rptr (xs.drop (i * 6))) := fun st => by
      simp only [indexAddrA, lsTkK, lsEsz, Option.bind_some, Int.toNat_natCast]
      rw [if_pos ⟨by omega, by omega⟩]
    have l6 : ∀ st, loadA Tryd.prog 28 st (.rptr (xs.drop (i * 6))) = some (.agg (chunk xs i)) := fun st => by
      have : (i + 1) * 6 ≤ len * 6 := Nat.mul_le_mul_right 6 hi
      simp only [loadA, partA, lsSh, List.length_drop, List.drop_zero]
      rw [if_pos (by omega)]
      rfl
    simp only [opsR, midB, r3B, roundB, codeB, seqL, seqR, loopBody, blockBody, Tryd.f60, List.drop_succ_cons, List.drop_zero, List.take_succ_cons, List.take_zero, simB, zbo, Nat.reduceBEq, own0, ↓reduceIte, Nat.reduceEqDiff, Nat.reduceAdd, simL, h1, h3, ld, ia, l6]
    exact capK_of ⟨rfl, (by simp only [zfk, ↓reduceIte, Nat.reduceEqDiff, h1]; try rfl), (by simp only [zfk, ↓reduceIte, Nat.reduceEqDiff, h3]; try rfl), (by simp only [zfk, ↓reduceIte, Nat.reduceEqDiff]; try rfl), (by simp only [zfk, ↓reduceIte, Nat.reduceEqDiff]; try rfl)⟩
  obtain ⟨env', s', e1, rfl, e2, e3, e4, e5⟩ := ops1_cap h
  exact ⟨env', e1, e2, e3, e4, e5⟩
theorem not_run (b : Bool) (h17 : env 17 = .bool b) : ∃ env', opsA Tryd.prog cfg0 (fun _ _ => none) false (opsR r3B).toArray [notB] env s = some (env', s) ∧ env' 1 = env 1 ∧ env' 3 = env 3 ∧ env' 18 = .bool (!b) := by
  have h : ops1 Tryd.prog cfg0 (fun _ _ => none) false (opsR r3B).toArray [notB] (capK fun _ env' s' => s' = s ∧ env' 1 = env 1 ∧ env' 3 = env 3 ∧ env' 18 = .bool (!b)) env s = some (.tree .undef, []) := by
    have un : unA .not (.bool b) = some (.bool (!b)) := rfl
    simp only [opsR, notB, r3B, roundB, codeB, seqL, seqR, loopBody, blockBody, Tryd.f60, List.getElem?_cons_succ, List.getElem?_cons_zero, simB, zbo, Nat.reduceBEq, own0, ↓reduceIte, Nat.reduceEqDiff, Nat.reduceAdd, simL, h17, un]
    exact capK_of ⟨rfl, (by simp only [zfk, ↓reduceIte, Nat.reduceEqDiff]; try rfl), (by simp only [zfk, ↓reduceIte, Nat.reduceEqDiff]; try rfl), (by simp only [zfk, ↓reduceIte, Nat.reduceEqDiff]; try rfl)⟩
  obtain ⟨env', s', e1, rfl, e2, e3, e4⟩ := ops1_cap h
  exact ⟨env', e1, e2, e3, e4⟩
end
theorem V_look {S : Nat → Nat → Prop} {W W' : World} (h : KpS S W W') {x : AV} {v : Value} (k : V (looker S W) x v) : V (looker S W') x v := by
  unfold V at k ⊢
  split at k
  · exact ⟨k.1, fun xs hc => by simp [cellsAt, looker] at hc⟩
  · exact ⟨k.1, fun xs hc => by simp [cellsAt, looker] at hc⟩
  · exact ⟨V0.mono h.stays _ _ k.1, k.2.1, fun e he => by simp [looker] at he⟩
  · obtain ⟨u, us, hv, ⟨ht, _⟩, hr⟩ := k
    exact ⟨u, us, hv, ⟨ht, fun xs hc => by simp [cellsAt, looker] at hc⟩, VT.mono h.stays _ _ hr⟩
  · obtain ⟨us, u, hv, hr, ho, ht, _⟩ := k
    exact ⟨us, u, hv, VL.mono h.stays _ _ hr, ho, ht, fun xs hc => by simp [cellsAt, looker] at hc⟩
  · obtain ⟨b, o, cap, hv, h1, h2, hc⟩ := k
    exact ⟨b, o, cap, hv, h1, h2, VC.mono h.stays _ _ _ hc⟩
  · exact V0.mono h.stays _ _ k
theorem EnvV.look {S : Nat → Nat → Prop} {W W' : World} (h : KpS S W W') {env : Env} {a : Act} {m : Nat} (k : EnvV (looker S W) env a m) : EnvV (looker S W') env a m := ⟨k.size, fun t => V_look h (k.val t)⟩
theorem okm : okOps midB = true := by kernel_rfl
theorem ok1 : okOps (opsR r1B) = true := by kernel_rfl
theorem ok2 : okOps (opsR r2B) = true := by kernel_rfl
theorem ok0 : okOps (opsR (seqL codeB)) = true := by kernel_rfl
theorem okn : okOps [notB] = true := by kernel_rfl
theorem no0_1 : (opsR r1B).all (fun o => o.dst != some 0) = true := by kernel_rfl
theorem no0_2 : (opsR r2B).all (fun o => o.dst != some 0) = true := by kernel_rfl
theorem no0_0 : (opsR (seqL codeB)).all (fun o => o.dst != some 0) = true := by kernel_rfl
theorem no0_m : midB.all (fun o => o.dst != some 0 && o.dst != some 11) = true := by kernel_rfl
theorem no_dst {l : List Oper} {t : Nat} (h : l.all (fun o => o.dst != some t) = true) : ∀ o ∈ l, o.dst ≠ some t := fun o ho => by
  have := List.all_eq_true.1 h o ho
  simpa using this
set_option maxHeartbeats 1000000 in
theorem back_rounds {S1 : Nat → Nat → Prop} {W0 : World} {xs : List AV} {len : Nat} {g : Grip} (hlen : len ≤ 9223372036854775807) (hx : xs.length = len * 6) (hS : ∀ b o, S1 b o → b < W0.heap.size)
    (N l : Nat) (J Jx : List (Item S1 W0 xs len) → World → Prop) (Q : Exit → Act → World → Prop)
    (hY : ∀ pre x W1, J pre W1 → pre.length < len → YieldAt Fence.wide (N - 1) Tryd.prog l (Item.encs x) W1 fun e W' => (e = .returned (.bool true) ∧ J (pre ++ [x]) W' ∧ KpS S1 W1 W') ∨ (e = .returned (.bool false) ∧ Jx (pre ++ [x]) W'))
    (hdone : ∀ pre W a, pre.map (·.1.1) = downTo len → J pre W → a.defers = [] → Q (.exit 0) a W) (hstop : ∀ pre W a, Jx pre W → a.defers = [] → Q .ret a W) :
    ∀ (n : Nat) (pre : List (Item S1 W0 xs len)) (W1 : World) (a : Act) (env : Env), n ≤ len → pre.length + n = len → pre.map (·.1.1) ++ downTo n = downTo len → J pre W1 → KpS S1 W0 W1 → EnvV (looker S1 W1) env a 19 → env 1 = .rptr [.sl xs len g] → env 3 = .int .i64 ((n : Int) - 1) → a.defers = [] → a.tmps.getD 0 undef = .func (.yield l) #[] #[] →
      Code.roundsIn Fence.wide N Tryd.prog roundB Q (n + 1) a W1 := by
  intro n
  induction n with
  | zero =>
    intro pre W1 a env _ _ hp hJ hK he e1 e3 hd hy0
    have hI1 : Inv (looker S1 W1) := looker_inv fun b o h => Nat.lt_of_lt_of_le (hS b o h) hK.1
    rw [roundsIn_succ, roundB_eq]
    refine wpIn_seq (wpIn_seq (wpIn_region_list ?_))
    obtain ⟨env', h1, h2, h3, h4⟩ := r1_run env (looker S1 W1).s _ e3
    rw [← List.append_nil (opsR r1B).toArray.toList]
    refine opsA_look (fun _ => trivial) hI1 (opsR r1B) env a env' _ (okOps_look ok1) (okOps_dst ok1) h1 he fun a' k1 k2 k3 => wpListIn_nil ?_
    have hc : a'.eval (.tmp 8) = .bool false := by
      have := k1.val 8
      rw [h4, V_bool] at this
      have h0 : decide (((0 : Nat) : Int) - 1 ≥ 0) = false := by decide
      rw [h0] at this
      exact this
    refine wpIn_cond_false hc (wpIn_exit ?_)
    refine hdone pre W1 a' ?_ hJ (k2.trans hd)
    simpa [downTo] using hp
  | succ n ih =>
    intro pre W1 a env hn hlp hp hJ hK he e1 e3 hd hy0
    have hI1 : Inv (looker S1 W1) := looker_inv fun b o h => Nat.lt_of_lt_of_le (hS b o h) hK.1
    have e3' : env 3 = .int .i64 (n : Int) := by rw [e3]; congr 1; omega
    rw [roundsIn_succ, roundB_eq]
    refine wpIn_seq (wpIn_seq (wpIn_region_list ?_))
    obtain ⟨env1, h1, h2, h3, h4⟩ := r1_run env (looker S1 W1).s _ e3'
    rw [← List.append_nil (opsR r1B).toArray.toList]
    refine opsA_look (fun _ => trivial) hI1 (opsR r1B) env a env1 _ (okOps_look ok1) (okOps_dst ok1) h1 he fun a1 k1 k2 k3 => wpListIn_nil ?_
    have hc : a1.eval (.tmp 8) = .bool true := by
      have := k1.val 8
      rw [h4, V_bool] at this
      have h0 : decide ((n : Int) ≥ 0) = true := decide_eq_true (by omega)
      rw [h0] at this
      exact this
    have y1 : a1.tmps.getD 0 undef = .func (.yield l) #[] #[] := (k3 0 (no_dst no0_1)).trans hy0
    refine wpIn_cond_true hc (wpIn_skip ?_)
    refine wpIn_seq (wpIn_block (wpIn_seq (wpIn_region_list ?_)))
    show wpListIn _ _ _ _ _ (opsR r3B) a1 W1
    rw [r3_split]
    refine wpListIn_plain moveB_op.2.1 fun K hK' => ?_
    refine ⟨fun f _ => trivial, ?_⟩
    have hm : (execOp a1.eval moveB).run Tryd.prog W1 = .ok (.value (.func (.yield l) #[] #[])) W1 := by
      rw [← y1]
      simp only [execOp, moveB_op.1]
      rfl
    rw [Oper.semAt_plain _ _ _ (by intro c hc; rw [moveB_op.1] at hc; cases hc), hm]
    refine hK' _ _ ?_
    have k1' : EnvV (looker S1 W1) (setO env1 (some 11) .undef) (a1.put moveB.dst (.func (.yield l) #[] #[])) 19 := by
      have := k1.put (Γ' := looker S1 W1) (.refl _) (d := moveB.dst) (r := .undef) (v := .func (.yield l) #[] #[]) (by rw [moveB_op.2.2]; intro x hx; cases hx; decide) (V_cell (by simp only [V0]))
      rwa [moveB_op.2.2] at this ⊢
    have g1 : (setO env1 (some 11) .undef) 1 = .rptr [.sl xs len g] := by simp only [setO]; rw [upd_ne _ _ (by decide), h2, e1]
    have g3 : (setO env1 (some 11) .undef) 3 = .int .i64 (n : Int) := by simp only [setO]; rw [upd_ne _ _ (by decide), h3]
    have hn' : n < len := hn
    obtain ⟨env2, f1, f2, f3, f4, f5⟩ := r3_run (setO env1 (some 11) .undef) (looker S1 W1).s xs len g hx n hn' g1 g3
    refine opsA_look (fun _ => trivial) hI1 midB _ _ env2 _ (okOps_look okm) (okOps_dst okm) f1 k1' fun a2 m1 m2 m3 => ?_
    have nm : ∀ t, t = 0 ∨ t = 11 → ∀ o ∈ midB, o.dst ≠ some t := fun t ht o ho => by
      have := List.all_eq_true.1 no0_m o ho
      simp only [Bool.and_eq_true, bne_iff_ne] at this
      rcases ht with rfl | rfl
      · exact this.1
      · exact this.2
    have hsz : 11 < a1.tmps.size := by rw [k1.size]; decide
    have y2 : a2.tmps.getD 0 undef = .func (.yield l) #[] #[] := by
      rw [m3 0 (nm 0 (.inl rfl)), moveB_op.2.2, put_get _ _ _ _ hsz, if_neg (by decide)]; exact y1
    have y11 : a2.tmps.getD 11 undef = .func (.yield l) #[] #[] := by
      rw [m3 11 (nm 11 (.inr rfl)), moveB_op.2.2, put_get _ _ _ _ hsz, if_pos rfl]
    have v12 : a2.tmps.getD 12 undef = .int .i64 (n : Int) := by have := m1.val 12; rwa [f4, V_int] at this
    obtain ⟨vs, v16, hvs⟩ : ∃ vs : List Value, a2.tmps.getD 16 undef = .agg vs.toArray ∧ VL S1 W1 (chunk xs n) vs := by
      have := m1.val 16
      rw [f5] at this
      have := (V_tree rfl).1 this
      exact this
    have d2 : a2.defers = [] := m2.trans ((put_tmps a1 moveB.dst _).1.trans (k2.trans hd))
    let x : Item S1 W0 xs len := ⟨(n, vs), hn', VL.mono hK.back _ _ hvs⟩
    refine wpListIn_plain callB_op.2.1 fun K2 hK2 => ?_
    refine roundInF callB_op.1 rfl y11 (R := fun e W' => (e = .returned (.bool true) ∧ J (pre ++ [x]) W' ∧ KpS S1 W1 W') ∨ (e = .returned (.bool false) ∧ Jx (pre ++ [x]) W')) ?_ ?_
    · have hargs : (List.map a2.eval #[Operand.tmp 12, Operand.tmp 16].toList).toArray = Item.encs x := by
        show #[a2.tmps.getD 12 undef, a2.tmps.getD 16 undef] = #[.int .i64 (n : Int), .agg vs.toArray]
        rw [v12, v16]
      show YieldAt _ _ _ _ (List.map a2.eval #[Operand.tmp 12, Operand.tmp 16].toList).toArray _ _
      rw [hargs]
      exact hY pre x W1 hJ (by omega)
    · rintro e W' (⟨rfl, hJ', hk'⟩ | ⟨rfl, hJ'⟩)
      · -- the round goes on
        refine ⟨_, rfl, hK2 _ _ ?_⟩
        rw [callB_op.2.2]
        have hI2 : Inv (looker S1 W') := looker_inv fun b o h => Nat.lt_of_lt_of_le (hS b o h) (hK.trans hk').1
        have q1 : EnvV (looker S1 W') (setO env2 (some 17) (.bool true)) (a2.put (some 17) (.bool true)) 19 := (m1.look hk').put (Γ' := looker S1 W') (.refl _) (by intro x hx; cases hx; decide) (by rw [V_bool])
        obtain ⟨env3, n1, n2, n3, n4⟩ := not_run (setO env2 (some 17) (.bool true)) (looker S1 W').s true (by simp only [setO, upd_same])
        show wpListIn _ _ _ _ _ [notB] _ _
        rw [← List.append_nil [notB]]
        refine opsA_look (fun _ => trivial) hI2 [notB] _ _ env3 _ (okOps_look okn) (okOps_dst okn) n1 q1 fun a3 p1 p2 p3 => wpListIn_nil ?_
        have hc3 : a3.eval (.tmp 18) = .bool false := by
          have := p1.val 18
          rw [n4, V_bool] at this
          exact this
        refine wpIn_cond_false hc3 (wpIn_skip ?_)
        refine wpIn_region_list ?_
        have y3 : a3.tmps.getD 0 undef = .func (.yield l) #[] #[] := by
          rw [p3 0 (by intro o ho; simp only [List.mem_singleton] at ho; subst ho; rw [notB_op.2.2]; decide), put_get _ _ _ _ (by rw [m1.size]; decide), if_neg (by decide)]; exact y2
        have h33 : env3 3 = .int .i64 (n : Int) := by rw [n3]; simp only [setO]; rw [upd_ne _ _ (by decide), f3]
        have h31 : env3 1 = .rptr [.sl xs len g] := by rw [n2]; simp only [setO]; rw [upd_ne _ _ (by decide), f2, g1]
        obtain ⟨env4, o1, o2, o3⟩ := r2_run env3 (looker S1 W').s n (by omega) h33
        rw [← List.append_nil (opsR r2B).toArray.toList]
        refine opsA_look (fun _ => trivial) hI2 (opsR r2B) _ _ env4 _ (okOps_look ok2) (okOps_dst ok2) o1 p1 fun a4 t1 t2 t3 => wpListIn_nil ?_
        refine ih (pre ++ [x]) W' a4 env4 (by omega) (by simp; omega) ?_ hJ' (hK.trans hk') t1 (by rw [o2, h31]) o3 (t2.trans (p2.trans ((put_tmps a2 _ _).1.trans d2))) ((t3 0 (no_dst no0_2)).trans y3)
        simp only [List.map_append, List.map_cons, List.map_nil, List.append_assoc]
        exact hp
      · refine ⟨_, rfl, hK2 _ _ ?_⟩
        rw [callB_op.2.2]
        -- the abstract state of no use any more: the world is read no more
        have q1 : EnvV (looker (fun _ _ => False) W') (fun t => if t = 17 then .bool false else .undef) (a2.put (some 17) (.bool false)) 19 := by
          refine ⟨(put_tmps a2 _ _).2.trans m1.size, fun t => ?_⟩
          rw [put_get _ _ _ _ (by rw [m1.size]; decide)]
          by_cases ht : t = 17
          · subst ht; simp only [if_true]; rw [V_bool]
          · simp only [if_neg ht]; exact V_cell (by simp only [V0])
        obtain ⟨env3, n1, n2, n3, n4⟩ := not_run (fun t => if t = 17 then .bool false else .undef) (looker (fun _ _ => False) W').s false rfl
        show wpListIn _ _ _ _ _ [notB] _ _
        rw [← List.append_nil [notB]]
        refine opsA_look (Γ := looker (fun _ _ => False) W') (fun _ => trivial) (looker_inv fun b o h => h.elim) [notB] _ _ env3 _ (okOps_look okn) (okOps_dst okn) n1 q1 fun a3 p1 p2 p3 => wpListIn_nil ?_
        have hc3 : a3.eval (.tmp 18) = .bool true := by
          have := p1.val 18
          rw [n4, V_bool] at this
          exact this
        refine wpIn_cond_true hc3 (wpIn_ret ?_)
        exact hstop _ _ a3 hJ' (p2.trans ((put_tmps a2 _ _).1.trans d2))
theorem act2_size (x y : Value) (k : Nat) (h : k = 19) : ((#[x] ++ #[y]) ++ Array.replicate (k - (#[x] ++ #[y] : Array Value).size) undef).size = 19 := by subst h; simp
theorem act2_get (x y : Value) (k t : Nat) : ((#[x] ++ #[y]) ++ Array.replicate (k - (#[x] ++ #[y] : Array Value).size) undef).getD t undef = if t = 0 then x else if t = 1 then y else undef := by
  have h : ((#[x] ++ #[y]) : Array Value) = #[x, y] := rfl
  rw [h, Array.getD_eq_getD_getElem?, Array.getElem?_append]
  match t with
  | 0 => rfl
  | 1 => rfl
  | t + 2 =>
    have h1 : ¬ t + 2 < (#[x, y] : Array Value).size := by simp
    have e1 : ¬ t + 2 = 0 := by omega
    have e2 : ¬ t + 2 = 1 := by omega
    rw [if_neg h1, if_neg e1, if_neg e2, Array.getElem?_replicate]
    split <;> rfl
theorem back_stops {S1 : Nat → Nat → Prop} {W0 : World} {xs : List AV} {len : Nat} {g : Grip} {bp : Value} (hlen : len ≤ 9223372036854775807) (hx : xs.length = len * 6) (hS : ∀ b o, S1 b o → b < W0.heap.size) (hb : V0 S1 W0 (.rptr [.sl xs len g]) bp) (N : Nat) :
    SeqStopsK Fence.wide N Tryd.prog 60 #[bp] (Item.encs (S := S1) (W := W0) (xs := xs) (len := len)) (KpS S1) (fun ys => ys.map (·.1.1) = downTo len) (fun _ => True) len W0 := by
  intro l J Jx W hW _ _ hY hJ
  have hK : KpS S1 W0 W := ⟨hW.size, fun b o h => hW.cell (p := ⟨b, o, none⟩) (hS b o h)⟩
  have hI : Inv (looker S1 W) := looker_inv fun b o h => Nat.lt_of_lt_of_le (hS b o h) hK.1
  have H : ∀ a : Act, a.defers = [] → EnvV (looker S1 W) (fun t => if t = 1 then .rptr [.sl xs len g] else .undef) a 19 → a.tmps.getD 0 undef = .func (.yield l) #[] #[] →
      codeB.wpIn Fence.wide N Tryd.prog (bodyPostM Fence.wide N Tryd.prog Tryd.f60 fun e W' => (∃ v, e = .returned v) ∧ ((∃ ys : List (Item S1 W0 xs len), ys.map (·.1.1) = downTo len ∧ J ys W') ∨ (∃ pre : List (Item S1 W0 xs len), True ∧ Jx pre W'))) a W := by
    intro a hd he hy
    rw [codeB_eq]
    refine wpIn_seq (wpIn_region_list ?_)
    obtain ⟨env', h1, h2, h3⟩ := r0_run (fun t => if t = 1 then .rptr [.sl xs len g] else .undef) (looker S1 W).s xs len g hlen rfl
    rw [← List.append_nil (opsR (seqL codeB)).toArray.toList]
    refine opsA_look (fun _ => trivial) hI (opsR (seqL codeB)) _ a env' _ (okOps_look ok0) (okOps_dst ok0) h1 he fun a1 k1 k2 k3 => wpListIn_nil ?_
    refine wpIn_block (wpIn_loop_rounds (len + 1) ?_)
    refine back_rounds hlen hx hS N l J Jx _ hY ?_ ?_ len [] W a1 env' (Nat.le_refl _) (by simp) (by simp) hJ hK k1 (by rw [h2]; rfl) h3 (k2.trans hd) ((k3 0 (no_dst no0_0)).trans hy)
    · intro pre W' a' hp hJ' hd'
      simp only [Exit.inBlock, if_true, bodyPostM, hd', LeavesInM, LeavesIn]
      exact ⟨_, results_none (by kernel_rfl) _ _ _, ⟨_, rfl⟩, .inl ⟨pre, hp, hJ'⟩⟩
    · intro pre W' a' hJ' hd'
      simp only [Exit.inBlock, bodyPostM, hd', LeavesInM, LeavesIn]
      exact ⟨_, results_none (by kernel_rfl) _ _ _, ⟨_, rfl⟩, .inr ⟨pre, trivial, hJ'⟩⟩
  refine callsIn_of_wp_marks (fn := Tryd.f60) (c := codeB) Tryd.func60 (by kernel_rfl) trivial (H _ rfl ?_ ?_)
  · refine ⟨act2_size _ _ _ Tryd.ntmps60, fun t => ?_⟩
    show V _ _ (Array.getD _ _ _)
    rw [act2_get]
    by_cases ht : t = 1
    · subst ht
      simp only [if_true]
      exact V_cell (V0.mono hK.stays _ _ hb)
    · simp only [if_neg ht]; exact V_cell (by simp only [V0])
  · show Array.getD _ _ _ = _
    rw [act2_get]; rfl

set_option maxHeartbeats 1000000 in
theorem backward_calls (a : Option Addr) (len cap : Nat) (w : World) :
    Calls Tryd.prog 35 #[.slice a len cap] w fun e w' => e = .returned (.func (.func 60) #[] #[.pointer (some ⟨w.heap.size, 0, none⟩)]) ∧ w' = w.alloc (.cells #[.slice a len cap] 26) := by
  refine calls_of_wp Tryd.func35 rfl ?_
  simp only [Tryd.ntmps35, List.size_toArray, List.length_cons, List.length_nil, Nat.reduceAdd, Nat.reduceSub, Array.replicate_succ, Array.replicate_zero, List.push_toArray, List.append_toArray, List.nil_append, List.cons_append]
  go_wp2
  go_ret
  exact ⟨rfl, rfl⟩

def canS (Γ1 : G) (W : World) : Nat → Nat → Prop := fun b o => Γ1.S b o ∨ (Γ1.w.heap.size ≤ b ∧ ∃ v, W.cell? ⟨b, o, none⟩ = some v)
def canG (Γ1 : G) (cur c4 : List AV) (W : World) : G := { φ := Γ1.φ, s := upd (upd Γ1.s 3 ⟨(Γ1.s 3).t, .buf cur⟩) 4 ⟨(Γ1.s 4).t, .buf c4⟩, S := canS Γ1 W, w := W }
structure Ahead (Γ1 : G) (ys zs : List AV) : Prop where
  inv : Inv Γ1
  e3 : ∃ t, Γ1.s 3 = ⟨t, .buf ys⟩
  e4 : ∃ t, Γ1.s 4 = ⟨t, .buf zs⟩
  l3 : ys.length = 6
  l4 : zs.length = 6
  rest : ∀ p, p ≠ 3 → p ≠ 4 → (Γ1.s p).c = .dead
def CI (Γ1 : G) (cur c4 : List AV) (W : World) : Prop := Inv (canG Γ1 cur c4 W) ∧ Ext Γ1 (canG Γ1 cur c4 W) ∧ cur.length = 6 ∧ c4.length = 6
theorem can3 (Γ1 : G) (cur c4 : List AV) (W : World) : (canG Γ1 cur c4 W).s 3 = ⟨(Γ1.s 3).t, .buf cur⟩ := by
  unfold canG
  dsimp only
  rw [upd_ne _ _ (by decide), upd_same]
theorem can4 (Γ1 : G) (cur c4 : List AV) (W : World) : (canG Γ1 cur c4 W).s 4 = ⟨(Γ1.s 4).t, .buf c4⟩ := by
  unfold canG
  dsimp only
  rw [upd_same]
theorem canO (Γ1 : G) (cur c4 : List AV) (W : World) {p : Nat} (h3 : p ≠ 3) (h4 : p ≠ 4) : (canG Γ1 cur c4 W).s p = Γ1.s p := by
  unfold canG
  dsimp only
  rw [upd_ne _ _ h4, upd_ne _ _ h3]
theorem len6 {l : List AV} (h : l.length = 6) : ∃ x xs, l = x :: xs := by
  cases l with
  | nil => cases h
  | cons x xs => exact ⟨x, xs, rfl⟩
theorem Ahead.solid {Γ1 : G} {ys zs : List AV} (hA : Ahead Γ1 ys zs) {cur c4 : List AV} {W : World} (h : CI Γ1 cur c4 W) : Solid (canG Γ1 cur c4 W).s := fun p => by
  by_cases h3 : p = 3
  · subst h3
    obtain ⟨x, xs, e⟩ := len6 h.2.2.1
    rw [can3, e]; exact .inr ⟨x, xs, rfl⟩
  · by_cases h4 : p = 4
    · subst h4
      obtain ⟨x, xs, e⟩ := len6 h.2.2.2
      rw [can4, e]; exact .inr ⟨x, xs, rfl⟩
    · rw [canO _ _ _ _ h3 h4]; exact .inl (hA.rest p h3 h4)
theorem Ahead.again {Γ1 Γ' : G} {ys zs : List AV} (hA : Ahead Γ1 ys zs) (hI : Inv Γ') (hE : Ext Γ1 Γ') {cur c4 : List AV} (h3 : Γ'.s 3 = ⟨(Γ1.s 3).t, .buf cur⟩) (h4 : Γ'.s 4 = ⟨(Γ1.s 4).t, .buf c4⟩) (l3 : cur.length = 6) (l4 : c4.length = 6) :
    CI Γ1 cur c4 Γ'.w ∧ (∀ b o, Here Γ'.S Γ'.w b o → canS Γ1 Γ'.w b o) ∧ Γ'.φ 3 = Γ1.φ 3 ∧ Γ'.φ 4 = Γ1.φ 4 := by
  obtain ⟨t3, e3⟩ := hA.e3
  obtain ⟨t4, e4⟩ := hA.e4
  have f3 : Γ'.φ 3 = Γ1.φ 3 := (hE.bf 3 t3 cur (by rw [e3]; exact Nat.le_refl _) (by unfold cellsAt; rw [h3, e3]; simp)).2
  have f4 : Γ'.φ 4 = Γ1.φ 4 := (hE.bf 4 t4 c4 (by rw [e4]; exact Nat.le_refl _) (by unfold cellsAt; rw [h4, e4]; simp)).2
  have rg3 : ∀ b o, Rg Γ' 3 b o ↔ b = (Γ1.φ 3).blk := fun b o => by unfold Rg; rw [h3, f3]
  have rg4 : ∀ b o, Rg Γ' 4 b o ↔ b = (Γ1.φ 4).blk := fun b o => by unfold Rg; rw [h4, f4]
  have rgA : ∀ p b o, Rg Γ1 p b o → (p = 3 ∧ b = (Γ1.φ 3).blk) ∨ (p = 4 ∧ b = (Γ1.φ 4).blk) := fun p b o h => by
    by_cases hp3 : p = 3
    · subst hp3; unfold Rg at h; rw [e3] at h; exact .inl ⟨rfl, h⟩
    · by_cases hp4 : p = 4
      · subst hp4; unfold Rg at h; rw [e4] at h; exact .inr ⟨rfl, h⟩
      · unfold Rg at h; rw [hA.rest p hp3 hp4] at h; exact h.elim
  have hsub : ∀ b o, Here Γ'.S Γ'.w b o → canS Γ1 Γ'.w b o := fun b o ⟨hs, hv⟩ => by
    rcases hE.newS b o hs with h | ⟨p, h⟩ | h
    · exact .inl h
    · exfalso
      rcases rgA p b o h with ⟨_, hb⟩ | ⟨_, hb⟩
      · exact (hI.stay b o hs).2 3 ((rg3 b o).2 hb)
      · exact (hI.stay b o hs).2 4 ((rg4 b o).2 hb)
    · exact .inr ⟨h, hv⟩
  have hst : Stays Γ1.S Γ1.w (canS Γ1 Γ'.w) Γ'.w := fun b o h => ⟨.inl h, (hE.stays b o h).2⟩
  have hmv : ∀ x v, V0 Γ'.S Γ'.w x v → V0 (canS Γ1 Γ'.w) Γ'.w x v := fun x v h => V0.mono (Stays.sub hsub) _ _ (V0.here _ _ h)
  have rgC : ∀ p b o, Rg (canG Γ1 cur c4 Γ'.w) p b o → (p = 3 ∧ b = (Γ1.φ 3).blk) ∨ (p = 4 ∧ b = (Γ1.φ 4).blk) := fun p b o h => by
    by_cases hp3 : p = 3
    · subst hp3; unfold Rg at h; rw [can3] at h; exact .inl ⟨rfl, h⟩
    · by_cases hp4 : p = 4
      · subst hp4; unfold Rg at h; rw [can4] at h; exact .inr ⟨rfl, h⟩
      · unfold Rg at h; rw [canO _ _ _ _ hp3 hp4, hA.rest p hp3 hp4] at h; exact h.elim
  have r13 : ∀ o, Rg Γ1 3 (Γ1.φ 3).blk o := fun o => by unfold Rg; rw [e3]
  have r14 : ∀ o, Rg Γ1 4 (Γ1.φ 4).blk o := fun o => by unfold Rg; rw [e4]
  have b3 : (Γ1.φ 3).blk < Γ1.w.heap.size := hA.inv.blk (r13 0)
  have b4 : (Γ1.φ 4).blk < Γ1.w.heap.size := hA.inv.blk (r14 0)
  have ne34 : (Γ1.φ 3).blk ≠ (Γ1.φ 4).blk := fun e => hA.inv.apart 3 4 _ 0 (by decide) (r13 0) (e ▸ r14 0)
  have nomix : ∀ p t xs hs, (canG Γ1 cur c4 Γ'.w).s p = ⟨t, .mix xs hs⟩ → False := fun p t xs hs h => by
    have hc : ((canG Γ1 cur c4 Γ'.w).s p).c = .mix xs hs := by rw [h]
    by_cases hp3 : p = 3
    · subst hp3; rw [can3] at hc; cases hc
    · by_cases hp4 : p = 4
      · subst hp4; rw [can4] at hc; cases hc
      · rw [canO _ _ _ _ hp3 hp4, hA.rest p hp3 hp4] at hc; cases hc
  refine ⟨⟨⟨⟨fun p => ?_, fun p q b o hpq hp hq => ?_, fun b o hs => ?_⟩, fun p t xs hs h => (nomix p t xs hs h).elim⟩, ⟨hst, hE.os, hE.tape, hE.output, hE.size, hE.block, hE.cell, hE.frzn, fun b o hs => ?_, fun p b o h => ?_, fun p => ?_, fun p t xs ht hc => ?_, fun p t e ht hc => ?_⟩, l3, l4⟩, hsub, f3, f4⟩
  · unfold EntOk
    by_cases hp3 : p = 3
    · subst hp3
      have he := hI.ent 3
      unfold EntOk at he
      rw [h3, f3] at he
      rw [can3]
      simp only [EntC] at he ⊢
      exact ⟨he.1, he.2.1, fun i x hx => by obtain ⟨v, g1, g2, g3⟩ := he.2.2.1 i x hx; exact ⟨v, g1, g2, hmv _ _ g3⟩, he.2.2.2⟩
    · by_cases hp4 : p = 4
      · subst hp4
        have he := hI.ent 4
        unfold EntOk at he
        rw [h4, f4] at he
        rw [can4]
        simp only [EntC] at he ⊢
        exact ⟨he.1, he.2.1, fun i x hx => by obtain ⟨v, g1, g2, g3⟩ := he.2.2.1 i x hx; exact ⟨v, g1, g2, hmv _ _ g3⟩, he.2.2.2⟩
      · rw [canO _ _ _ _ hp3 hp4, hA.rest p hp3 hp4]; trivial
  · rcases rgC p b o hp with ⟨rfl, h1⟩ | ⟨rfl, h1⟩ <;> rcases rgC q b o hq with ⟨rfl, h2⟩ | ⟨rfl, h2⟩
    · exact hpq rfl
    · exact ne34 (h1.symm.trans h2)
    · exact ne34 (h2.symm.trans h1)
    · exact hpq rfl
  · have hlt : b < Γ'.w.heap.size := by
      rcases hs with h | ⟨_, v, h⟩
      · exact Nat.lt_of_lt_of_le (hA.inv.stay b o h).1 hE.size
      · exact World.block_lt_of_cell? _ _ h
    refine ⟨hlt, fun p hp => ?_⟩
    rcases rgC p b o hp with ⟨_, rfl⟩ | ⟨_, rfl⟩
    · rcases hs with h | ⟨h, _⟩
      · exact (hA.inv.stay _ o h).2 3 (r13 o)
      · omega
    · rcases hs with h | ⟨h, _⟩
      · exact (hA.inv.stay _ o h).2 4 (r14 o)
      · omega
  · rcases hs with h | ⟨h, _⟩
    · exact .inl h
    · exact .inr (.inr h)
  · rcases rgC p b o h with ⟨_, rfl⟩ | ⟨_, rfl⟩
    · exact .inl ⟨3, r13 o⟩
    · exact .inl ⟨4, r14 o⟩
  · by_cases hp3 : p = 3
    · subst hp3; rw [can3]; exact Nat.le_refl _
    · by_cases hp4 : p = 4
      · subst hp4; rw [can4]; exact Nat.le_refl _
      · rw [canO _ _ _ _ hp3 hp4]; exact Nat.le_refl _
  · refine ⟨?_, rfl⟩
    by_cases hp3 : p = 3
    · subst hp3
      rcases cellsAt_cases hc with h | h | ⟨_, h⟩ <;> rw [can3] at h <;> cases h
      exact ⟨ys, by simp [cellsAt, e3], l3.trans hA.l3.symm |>.symm ▸ (l3.trans hA.l3.symm)⟩
    · by_cases hp4 : p = 4
      · subst hp4
        rcases cellsAt_cases hc with h | h | ⟨_, h⟩ <;> rw [can4] at h <;> cases h
        exact ⟨zs, by simp [cellsAt, e4], l4.trans hA.l4.symm⟩
      · refine ⟨xs, ?_, rfl⟩
        unfold cellsAt at hc ⊢
        rwa [canO _ _ _ _ hp3 hp4] at hc
  · refine ⟨?_, rfl⟩
    by_cases hp3 : p = 3
    · subst hp3; rw [can3] at hc; cases hc
    · by_cases hp4 : p = 4
      · subst hp4; rw [can4] at hc; cases hc
      · rwa [canO _ _ _ _ hp3 hp4] at hc
theorem Ahead.grown {Γ1 : G} {ys zs : List AV} (hA : Ahead Γ1 ys zs) {cur c4 : List AV} {W W' : World} (h : CI Γ1 cur c4 W) {row : Option Nat} (hg : W.grownBy W' row) (hr : ∀ r, row = some r → Γ1.w.heap.size ≤ r ∧ ∃ o : Obj, W.heap[r]? = some o ∧ o.isCells = false) :
    CI Γ1 cur c4 W' := by
  have hs : ∀ b o, (canG Γ1 cur c4 W).S b o → b < Γ1.w.heap.size ∨ ∃ v, W.cell? ⟨b, o, none⟩ = some v := fun b o h => by
    rcases h with h | ⟨_, h⟩
    · exact .inl (hA.inv.stay b o h).1
    · exact .inr h
  obtain ⟨i1, i2, _⟩ := h.1.grown h.2.1 (Nat.le_refl _) hs (hA.solid h) hg hr
  exact (hA.again i1 i2 (can3 Γ1 cur c4 W) (can4 Γ1 cur c4 W) h.2.2.1 h.2.2.2).1
theorem canS_grown {Γ1 : G} (hI : Inv Γ1) {W W' : World} (hE : Γ1.w.heap.size ≤ W.heap.size) {row : Option Nat} (hg : W.grownBy W' row) (hr : ∀ r, row = some r → Γ1.w.heap.size ≤ r ∧ ∃ o : Obj, W.heap[r]? = some o ∧ o.isCells = false) :
    Stays (canS Γ1 W) W (canS Γ1 W') W' := fun b o h => by
  rcases h with h | ⟨hb, v, h⟩
  · have hlt := (hI.stay b o h).1
    refine ⟨.inl h, cell_of_block (hg.block b (by omega) fun e => ?_) o⟩
    have := (hr b e.symm).1
    omega
  · have := cell_kept h hg fun r e => (hr r e).2
    exact ⟨.inr ⟨hb, v, this⟩, this.trans h.symm⟩

noncomputable def codeL : Code := (Tryd.f18.body).getD .skip
noncomputable def rangeL : Code := blockBody (seqR (seqL (seqR codeL)))
def asgOf : Code → Code
  | .rangeFunc _ _ a _ => a
  | _ => .skip
def bodOf : Code → Code
  | .rangeFunc _ _ _ a => a
  | _ => .skip
noncomputable def asgL : Code := asgOf rangeL
noncomputable def bodL : Code := bodOf rangeL
noncomputable def rL0 : Code := seqL codeL
noncomputable def rL1 : Code := seqL (seqL (seqR codeL))
noncomputable def rL4 : Code := seqR (seqR codeL)
theorem codeL_eq : codeL = .seq rL0 (.seq (.seq (.region 1 (opsR rL1).toArray false) (.block 0 (.rangeFunc (.tmp 8) #[9, 10] asgL bodL))) rL4) := by kernel_rfl
noncomputable def moveL : Oper := ((opsR rL1)[0]?).getD default
noncomputable def callL : Oper := ((opsR rL1)[1]?).getD default
theorem rL1_eq : opsR rL1 = [moveL] ++ [callL] := by kernel_rfl
theorem moveL_op : moveL.op = .move (.tmp 0) ∧ moveL.guard = none ∧ moveL.dst = some 7 := ⟨by kernel_rfl, by kernel_rfl, by kernel_rfl⟩
theorem callL_op : callL.op = .call ⟨.value (.func 35), #[.tmp 7], #[26]⟩ ∧ callL.guard = none ∧ callL.dst = some 8 := ⟨by kernel_rfl, by kernel_rfl, by kernel_rfl⟩
theorem okML : ∀ o ∈ [moveL], lookOp o.op = true ∧ o.guard = none := fun o ho => by
  simp only [List.mem_singleton] at ho; subst ho; exact ⟨by rw [moveL_op.1]; rfl, moveL_op.2.1⟩
def zeroT6 : List AV := [.int .i64 0, .bool false, .sl [] 0 .nil, .str [], .int .i64 0, .sl [] 0 .nil]
section
variable (env : Env) (s : St)
theorem rL0_run (n : Nat) (x : AV) (ys : List AV) (h0 : env 0 = x) (h1 : env 1 = .agg ys) (hs3 : (s 3).t = 0) (hs4 : (s 4).t = 0) : den Tryd.prog cfg0 (fun _ _ => none) n rL0 (capK fun e env' s' => e = .normal ∧ env' 0 = x ∧ env' 3 = .ptr 3 1 0 ∧ env' 4 = .ptr 4 1 0 ∧ s' = upd (upd s 3 ⟨1, .buf ys⟩) 4 ⟨1, .buf zeroT6⟩) env s = some (.tree .undef, []) := by
  simp only [rL0, codeL, seqL, Tryd.f18, Option.getD_some, simB, zbo, Nat.reduceBEq, own0, ↓reduceIte, Nat.reduceEqDiff, Nat.reduceAdd, simN, Nat.zero_add, h1, hs3, hs4, lsZero]
  refine capK_of ⟨rfl, (by simp only [zfk, ↓reduceIte, Nat.reduceEqDiff, h0]; try rfl), (by simp only [zfk, ↓reduceIte, Nat.reduceEqDiff]; try rfl), (by simp only [zfk, ↓reduceIte, Nat.reduceEqDiff]; try rfl), ?_⟩
  have e4 : ((upd s 3 ⟨0 + 1, .buf ys⟩) 4).t = 0 := by rw [upd_ne _ _ (by decide)]; exact hs4
  rfl
theorem asg_run (n : Nat) (ts : List AV) (h6 : ts.length = 6) (h10 : env 10 = .agg ts) (v3 : AV) (h3 : env 3 = v3) : den Tryd.prog cfg0 (fun _ _ => none) n asgL (capK fun e env' s' => e = .normal ∧ env' 3 = v3 ∧ env' 6 = .ptr 6 ((s 6).t + 1) 0 ∧ s' = upd (upd s 6 ⟨(s 6).t + 1, .buf zeroT6⟩) 6 ⟨(s 6).t + 1, .buf ts⟩) env s = some (.tree .undef, []) := by
  have st : ∀ st : St, st 6 = ⟨(s 6).t + 1, .buf zeroT6⟩ → storeA Tryd.prog 28 st (.ptr 6 ((s 6).t + 1) 0) (.agg ts) = some (upd st 6 ⟨(s 6).t + 1, .buf ts⟩) := fun st h => by
    have hsp : splice zeroT6 0 ts = ts := by
      simp only [splice, List.take_zero, List.nil_append, Nat.zero_add, h6]
      exact List.append_nil ts
    simp only [storeA, settle, Option.bind_some, h, ↓reduceIte, lsEsz, h6, hsp]
    rw [if_pos ⟨by trivial, by decide⟩]
  simp only [asgL, asgOf, rangeL, codeL, seqL, seqR, blockBody, Tryd.f18, Option.getD_some, simB, zbo, Nat.reduceBEq, own0, ↓reduceIte, Nat.reduceEqDiff, Nat.reduceAdd, simN, Nat.zero_add, h10, lsZero]
  rw [st _ (by simp only [zfk, ↓reduceIte, Nat.reduceEqDiff]; try rfl)]
  simp only [simB, zbo, Nat.reduceBEq, own0, ↓reduceIte, Nat.reduceEqDiff, Nat.reduceAdd]
  exact capK_of ⟨rfl, (by simp only [zfk, ↓reduceIte, Nat.reduceEqDiff, h3]; try rfl), (by simp only [zfk, ↓reduceIte, Nat.reduceEqDiff]; try rfl), rfl⟩
theorem bod_run (n : Nat) (t3 : Nat) (ts cur : List AV) (h6 : ts.length = 6) (hc : cur.length = 6) (e3 : env 3 = .ptr 3 t3 0) (e6 : env 6 = .rptr ts) (hs : s 3 = ⟨t3, .buf cur⟩) : den Tryd.prog cfg0 (fun _ _ => none) n bodL (capK fun e _ s' => e = .normal ∧ s' = upd s 3 ⟨t3, .buf (consV ts cur)⟩) env s = some (.tree .undef, []) := by
  have l6 : ∀ st, loadA Tryd.prog 28 st (.rptr ts) = some (.agg ts) := fun st => by
    simp only [loadA, partA, lsSh, List.drop_zero]
    rw [if_pos (by omega), List.take_of_length_le (by omega)]
  have l3 : ∀ st : St, st 3 = ⟨t3, .buf cur⟩ → loadA Tryd.prog 28 st (.ptr 3 t3 0) = some (.agg cur) := fun st h => by
    simp only [loadA, ldC, h, ↓reduceIte, Option.bind_some, partA, lsSh, List.drop_zero]
    rw [if_pos (by omega), List.take_of_length_le (by omega)]
  have hf : fillA (fun i => some (i * 6, 6)) (rep 2 zeroT6) [(0, .agg ts), (1, .agg cur)] = some (ts ++ cur) := by
    have a1 : splice (rep 2 zeroT6) (0 * 6) ts = ts ++ zeroT6 := by
      simp only [splice, Nat.zero_mul, List.take_zero, List.nil_append, Nat.zero_add, h6]; rfl
    have a2 : splice (ts ++ zeroT6) (1 * 6) cur = ts ++ cur := by
      simp only [splice, Nat.one_mul, hc]
      rw [List.take_append_of_le_length (by omega), List.take_of_length_le (by omega), List.drop_eq_nil_of_le (by simp [zeroT6]; omega), List.append_nil]
    simp only [fillA, settled, Option.bind_some, cellsOf]
    rw [if_pos ⟨h6, by decide⟩, a1, if_pos ⟨hc, by simp [zeroT6]; omega⟩, a2]
  have hb : ∀ (e' : Env), e' 11 = .agg ts → e' 12 = .agg cur → opA Tryd.prog cfg0 (fun _ _ => none) false ((opsR (blockBody bodL))[2]?.getD default) 13 e' s = some (.sl (ts ++ cur) 2 .tight, s) := fun e' g1 g2 => by
    have ho : ((opsR (blockBody bodL))[2]?.getD default).op = .buildSlice 26 2 #[(0, .tmp 11), (1, .tmp 12)] := by kernel_rfl
    simp only [opA, ho, lsTkK, lsEsz, lsZero, Option.bind_some, List.map_cons, List.map_nil, ev, g1, g2]
    rw [if_pos ⟨by trivial, by decide⟩]
    show (Option.map _ (fillA (fun i => some (i * 6, 6)) (rep 2 zeroT6) [(0, .agg ts), (1, .agg cur)])).map _ = _
    rw [hf]; rfl
  have hbd : buildA Tryd.prog 28 [(0, .int .i64 4), (4, .sl (ts ++ cur) 2 .tight)] = some (.agg (consV ts cur)) := by
    simp only [buildA, lsZero, lsTk, lsPl, Option.bind_some]; rfl
  have st : ∀ st : St, st 3 = ⟨t3, .buf cur⟩ → storeA Tryd.prog 28 st (.ptr 3 t3 0) (.agg (consV ts cur)) = some (upd st 3 ⟨t3, .buf (consV ts cur)⟩) := fun st h => by
    have hsp : splice cur 0 (consV ts cur) = consV ts cur := by
      simp only [splice, List.take_zero, List.nil_append, Nat.zero_add, consV_len]
      rw [List.drop_eq_nil_of_le (by omega), List.append_nil]
    simp only [storeA, settle, Option.bind_some, h, ↓reduceIte, lsEsz, consV_len, hsp]
    rw [if_pos ⟨by trivial, by omega⟩]
  have bs : ∀ (e' : Env) (q : Bool) (d : Option Tmp) (ty : TypeId) (pos : String) (af : Array Edge) (g : Option (Nat × Bool)) (t : Nat), e' 11 = .agg ts → e' 12 = .agg cur → opA Tryd.prog cfg0 (fun _ _ => none) q ⟨d, .buildSlice 26 2 #[(0, .tmp 11), (1, .tmp 12)], ty, pos, af, g⟩ t e' s = some (.sl (ts ++ cur) 2 .tight, s) := fun e' q d ty pos af g t g1 g2 => by
    simp only [opA, lsTkK, lsEsz, lsZero, Option.bind_some, List.map_cons, List.map_nil, ev, g1, g2]
    rw [if_pos ⟨by trivial, by decide⟩]
    show (Option.map _ (fillA (fun i => some (i * 6, 6)) (rep 2 zeroT6) [(0, .agg ts), (1, .agg cur)])).map _ = _
    rw [hf]; rfl
  simp only [bodL, bodOf, rangeL, codeL, seqL, seqR, blockBody, Tryd.f18, Option.getD_some, simB, zbo, Nat.reduceBEq, own0, ↓reduceIte, Nat.reduceEqDiff, Nat.reduceAdd, e3, e6, l6, l3 s hs]
  rw [bs _ _ _ _ _ _ _ _ (by simp only [zfk, ↓reduceIte, Nat.reduceEqDiff]; try rfl) (by simp only [zfk, ↓reduceIte, Nat.reduceEqDiff]; try rfl)]
  simp only [simB, zbo, Nat.reduceBEq, own0, ↓reduceIte, Nat.reduceEqDiff, Nat.reduceAdd, simN, Nat.zero_add, e3, hbd, st s hs]
  exact capK_of ⟨rfl, rfl⟩
theorem rL4_run (n : Nat) (t3 t4 : Nat) (cur c4 : List AV) (hc : cur.length = 6) (h4 : c4.length = 6) (e3 : env 3 = .ptr 3 t3 0) (e4 : env 4 = .ptr 4 t4 0) (hs : s 3 = ⟨t3, .buf cur⟩) (hs4 : s 4 = ⟨t4, .buf c4⟩) : den Tryd.prog cfg0 (fun _ _ => none) n rL4 (capK fun e env' s' => e = .ret ∧ env' 4 = .ptr 4 t4 0 ∧ s' = upd s 4 ⟨t4, .buf cur⟩) env s = some (.tree .undef, []) := by
  have l3 : ∀ st : St, st 3 = ⟨t3, .buf cur⟩ → loadA Tryd.prog 28 st (.ptr 3 t3 0) = some (.agg cur) := fun st h => by
    simp only [loadA, ldC, h, ↓reduceIte, Option.bind_some, partA, lsSh, List.drop_zero]
    rw [if_pos (by omega), List.take_of_length_le (by omega)]
  have st : ∀ st : St, st 4 = ⟨t4, .buf c4⟩ → storeA Tryd.prog 28 st (.ptr 4 t4 0) (.agg cur) = some (upd st 4 ⟨t4, .buf cur⟩) := fun st h => by
    have hsp : splice c4 0 cur = cur := by
      simp only [splice, List.take_zero, List.nil_append, Nat.zero_add, hc]
      rw [List.drop_eq_nil_of_le (by omega), List.append_nil]
    simp only [storeA, settle, Option.bind_some, h, ↓reduceIte, lsEsz, hc, hsp]
    rw [if_pos ⟨by trivial, by omega⟩]
  simp only [rL4, codeL, seqL, seqR, Tryd.f18, Option.getD_some, simB, zbo, Nat.reduceBEq, own0, ↓reduceIte, Nat.reduceEqDiff, Nat.reduceAdd, e3, e4, l3 s hs, st s hs4]
  exact capK_of ⟨rfl, (by simp only [zfk, ↓reduceIte, Nat.reduceEqDiff, e4]; try rfl), rfl⟩
end

theorem plain0 : plainC rL0 = true := by kernel_rfl
theorem plainA : plainC asgL = true := by kernel_rfl
theorem plainBo : plainC bodL = true := by kernel_rfl
theorem plain4 : plainC rL4 = true := by kernel_rfl
theorem dst0L : dstOk cfg0.keep 16 rL0 = true := by kernel_rfl
theorem dstA : dstOk cfg0.keep 16 asgL = true := by kernel_rfl
theorem dstB : dstOk cfg0.keep 16 bodL = true := by kernel_rfl
theorem dst4L : dstOk cfg0.keep 16 rL4 = true := by kernel_rfl
def AxL (Γ1 : G) {xs : List AV} {len : Nat} (x : Item Γ1.S Γ1.w xs len) (a' : Act) (W : World) : Prop :=
  a'.defers = [] ∧ a'.tmps.size = 16 ∧ a'.tmps.getD 3 undef = .pointer (some ⟨(Γ1.φ 3).blk, (Γ1.φ 3).base, none⟩) ∧ Γ1.w.heap.size ≤ W.heap.size ∧ ∃ b o, a'.tmps.getD 6 undef = .pointer (some ⟨b, o, none⟩) ∧ VC (canS Γ1 W) W (chunk xs x.1.1) b o
def curL {S : Nat → Nat → Prop} {W : World} (xs : List AV) {len : Nat} (ys : List AV) (pre : List (Item S W xs len)) : List AV := pre.foldl (fun acc x => consV (chunk xs x.1.1) acc) ys
theorem curL_snoc {S : Nat → Nat → Prop} {W : World} {xs : List AV} {len : Nat} {ys : List AV} (pre : List (Item S W xs len)) (x : Item S W xs len) : curL xs ys (pre ++ [x]) = consV (chunk xs x.1.1) (curL xs ys pre) := by
  simp [curL]
theorem curL_done {S : Nat → Nat → Prop} {W : World} {xs : List AV} {len : Nat} {ys : List AV} (pre : List (Item S W xs len)) (h : pre.map (·.1.1) = downTo len) : curL xs ys pre = lstN xs len ys := by
  rw [← fold_down, ← h, List.foldl_map]; rfl
theorem zip2 (t : Array Value) (x y : Value) (h : t.size = 16) : ((#[9, 10].zip #[x, y]).foldl (fun t (p, v) => t.setIfInBounds p v) t).size = 16 ∧ ∀ j, ((#[9, 10].zip #[x, y]).foldl (fun t (p, v) => t.setIfInBounds p v) t).getD j undef = if j = 10 then y else if j = 9 then x else t.getD j undef := by
  have e : ((#[9, 10].zip #[x, y]).foldl (fun t (p, v) => t.setIfInBounds p v) t) = (t.setIfInBounds 9 x).setIfInBounds 10 y := by simp [Array.zip]
  rw [e]
  refine ⟨by simp [h], fun j => ?_⟩
  simp only [Array.getD_eq_getD_getElem?, Array.getElem?_setIfInBounds, Array.size_setIfInBounds, h]
  by_cases h1 : j = 10
  · subst h1; simp
  · by_cases h2 : j = 9
    · subst h2; simp
    · rw [if_neg (Ne.symm h1), if_neg (Ne.symm h2), if_neg h1, if_neg h2]
set_option maxHeartbeats 4000000 in
theorem list_ok {gs : List Arg} {r : Res} {os : List (List AV)} (h : listP gs = some (r, os)) : (∃ fn c, Tryd.prog.funcs[18]? = some fn ∧ fn.name ≠ "runtime.NumGoroutine" ∧ fn.body = some c) ∧ ∀ (Γ : G) (vs : List Value), Inv Γ → ArgOk Γ gs vs →
    Calls Tryd.prog 18 vs.toArray Γ.w fun e w' => ∃ v Γ', e = .returned v ∧ Γ'.w = w' ∧ Inv Γ' ∧ Ext Γ Γ' ∧ FinOk Γ' gs r os v := by
  refine ⟨⟨_, _, Tryd.func18, by unfold Tryd.f18; decide, by unfold Tryd.f18; rfl⟩, ?_⟩
  unfold listP at h
  split at h
  · rename_i xs len g ys
    split at h
    · rename_i hc
      obtain ⟨hx, hy, hlen⟩ := hc
      cases h
      intro Γ vs hI hA
      have hl := hA.len
      obtain ⟨v0, v1, rfl⟩ : ∃ v0 v1, vs = [v0, v1] := by
        match vs, hl with
        | [v0, v1], _ => exact ⟨v0, v1, rfl⟩
      have k0 : V Γ (.sl xs len g) v0 := hA.val 0 v0 rfl
      have k1 : V Γ (.agg ys) v1 := hA.val 1 v1 rfl
      have k0 : V0 Γ.S Γ.w (.sl xs len .loose) v0 := by
        cases g with
        | tok p t => exact k0.1
        | _ =>
          have k0 : V0 Γ.S Γ.w (.sl xs len _) v0 := k0
          simp only [V0] at k0 ⊢
          obtain ⟨a, cap, hv, hcap, _, _, hr⟩ := k0
          exact ⟨a, cap, hv, hcap, (fun h => by cases h), ⟨rfl, (fun h => by cases h)⟩, hr⟩
      have hdead : ∀ p, Γ.s p = ⟨0, .dead⟩ := fun p => by
        rw [hA.s]
        match p with
        | 0 => rfl
        | 1 => rfl
        | p + 2 => rfl
      have H : ∀ a : Act, a.defers = [] → EnvV Γ (fun t => if t = 0 then .sl xs len .loose else if t = 1 then .agg ys else .undef) a 16 →
          codeL.wpIn Fence.wide 9 Tryd.prog (bodyPostM Fence.wide 9 Tryd.prog Tryd.f18 fun e w' => ∃ v Γ', e = .returned v ∧ Γ'.w = w' ∧ Inv Γ' ∧ Ext Γ Γ' ∧ FinOk Γ' [.tree (.sl xs len g), .tree (.agg ys)] (.tree (.agg (lstN xs len ys))) [[], []] v) a Γ.w := by
        intro a hd he
        rw [codeL_eq]
        refine wpIn_seq ?_
        refine den_cap (cfg := cfg0) (N := 0) (m := 16) nocall (fun _ => trivial) _ plain0 dst0L (rL0_run _ Γ.s 0 _ ys rfl rfl (by rw [hdead]) (by rw [hdead])) hI he ?_
        rintro ex env1 Γa a1 ⟨rfl, g0, g3, g4, gs⟩ hIa hEa hea hda
        have g0 : env1 0 = .sl xs len .loose := g0
        simp only [exOf, Exit.then]
        refine wpIn_seq (wpIn_seq (wpIn_region_list ?_))
        show wpListIn _ _ _ _ _ (opsR rL1) a1 Γa.w
        rw [rL1_eq]
        have hmv : opsA Tryd.prog cfg0 (fun _ _ => none) false ([moveL] ++ [callL]).toArray [moveL] env1 Γa.s = some (setO env1 (some 7) (.sl xs len .loose), Γa.s) := by
          have : opA Tryd.prog cfg0 (fun _ _ => none) false moveL (moveL.dst.getD 0) env1 Γa.s = some (.sl xs len .loose, Γa.s) := by
            simp only [opA, moveL_op.1, ev, g0]
          simp only [opsA, wantA, moveL_op.2.1]
          rw [this]
          simp only [Option.bind_some, moveL_op.2.2]
        refine opsA_look (fun _ => trivial) hIa [moveL] env1 a1 _ _ okML (fun o ho d hdd => by simp only [List.mem_singleton] at ho; subst ho; rw [moveL_op.2.2] at hdd; cases hdd; decide) hmv hea fun a2 m1 m2 m3 => ?_
        have w7 := m1.val 7
        simp only [setO, upd_same] at w7
        obtain ⟨sa, scap, hv7, hcap7, _, _, hcells⟩ := (V_tree rfl).1 w7
        refine wpListIn_plain callL_op.2.1 fun K hK => ?_
        refine callInF (c := ⟨.value (.func 35), #[.tmp 7], #[26]⟩) (caps := []) callL_op.1 rfl rfl Tryd.func35 (by unfold Tryd.f35; decide) (by unfold Tryd.f35; rfl)
          (R := fun e w' => e = .returned (.func (.func 60) #[] #[.pointer (some ⟨Γa.w.heap.size, 0, none⟩)]) ∧ w' = Γa.w.alloc (.cells #[.slice sa len scap] 26)) ?_ ?_
        · have : (List.map a2.eval #[Operand.tmp 7].toList ++ []).toArray = #[.slice sa len scap] := by
            show #[a2.tmps.getD 7 undef] = _
            rw [hv7]
          show Calls _ _ (List.map a2.eval #[Operand.tmp 7].toList ++ []).toArray _ _
          rw [this]
          exact backward_calls sa len scap Γa.w
        rintro e w' ⟨rfl, rfl⟩
        refine ⟨_, rfl, hK _ _ (wpListIn_nil ?_)⟩
        rw [callL_op.2.2]
        -- the box of the slice stays
        obtain ⟨Γ1, s1, w1, hI1, hE1, hbox⟩ := hIa.row (w' := Γa.w.alloc (.cells #[.slice sa len scap] 26)) rfl rfl rfl (by simp) (fun k hk => RowKit.Below.heap_alloc _ _ _ hk) [.sl xs len .loose] [.slice sa len scap]
          (by simp only [VL]; exact ⟨_, [], rfl, rfl, (V_tree (x := .sl xs len .loose) rfl).1 (hv7 ▸ w7), rfl⟩)
          (fun i v hv => by
            match i, hv with
            | 0, hv => cases hv; rw [World.cell?_alloc_new]; rfl)
        have hAh : Ahead Γ1 ys zeroT6 := by
          refine ⟨hI1, ⟨1, ?_⟩, ⟨1, ?_⟩, hy, rfl, fun p h3 h4 => ?_⟩
          · rw [s1, gs, upd_ne _ _ (by decide), upd_same]
          · rw [s1, gs, upd_same]
          · rw [s1, gs, upd_ne _ _ h4, upd_ne _ _ h3, hdead]
        have t13 : Γ1.s 3 = ⟨1, .buf ys⟩ := by rw [s1, gs, upd_ne _ _ (by decide), upd_same]
        have t14 : Γ1.s 4 = ⟨1, .buf zeroT6⟩ := by rw [s1, gs, upd_same]
        have hbp : V0 Γ1.S Γ1.w (.rptr [.sl xs len .loose]) (.pointer (some ⟨Γa.w.heap.size, 0, none⟩)) := ⟨_, _, rfl, hbox⟩
        generalize hbpe : (Value.pointer (some ⟨Γa.w.heap.size, 0, none⟩)) = bp at hbp
        have hS1 : ∀ b o, Γ1.S b o → b < Γ1.w.heap.size := fun b o h => (hI1.stay b o h).1
        have he3 : EnvV Γ1 (setO (setO env1 (some 7) (.sl xs len .loose)) (some 8) .undef) (a2.put (some 8) (.func (.func 60) #[] #[bp])) 16 := m1.put hE1 (by intro x hx; cases hx; decide) (V_cell (by simp only [V0]))
        have hd3 : (a2.put (some 8) (.func (.func 60) #[] #[bp])).defers = [] := (put_tmps a2 _ _).1.trans (m2.trans (hda.trans hd))
        have h8 : (a2.put (some 8) (.func (.func 60) #[] #[bp])).eval (.tmp 8) = .func (.func 60) #[] #[bp] := by
          show Array.getD _ _ _ = _
          rw [put_get _ _ _ _ (by rw [m1.size]; decide), if_pos rfl]
        have e33 : (setO (setO env1 (some 7) (.sl xs len .loose)) (some 8) .undef) 3 = .ptr 3 1 0 := by simp only [setO]; rw [upd_ne _ _ (by decide), upd_ne _ _ (by decide), g3]
        have e34 : (setO (setO env1 (some 7) (.sl xs len .loose)) (some 8) .undef) 4 = .ptr 4 1 0 := by simp only [setO]; rw [upd_ne _ _ (by decide), upd_ne _ _ (by decide), g4]
        generalize (setO (setO env1 (some 7) (.sl xs len .loose)) (some 8) .undef) = env3 at he3 e33 e34
        generalize (a2.put (some 8) (.func (.func 60) #[] #[bp])) = a3 at he3 hd3 h8
        rw [← w1]
        have hEG : Ext Γ Γ1 := hEa.trans hE1
        clear w7 hcells hmv m1 m2 m3 hea hda hEa hE1 hbox
        have hCI0 : CI Γ1 ys zeroT6 Γ1.w := (hAh.again hI1 (.refl _) (by rw [t13]) (by rw [t14]) hy rfl).1
        refine wpIn_block ?_
        refine wpIn_rangeFunc_ownH (F := Fence.wide) (n := 9) rfl (by decide) (gf := 60) (lb := #[bp]) h8 trivial ?_
          (encs := Item.encs (S := Γ1.S) (W := Γ1.w) (xs := xs) (len := len)) (Kp := KpS Γ1.S) (back_stops hlen hx hS1 hbp 8) (fun h k => h.trans k) ?_ (RowKit.Below.refl _ _) (fun _ => rfl)
          (fun pre W => CI Γ1 (curL xs ys pre) zeroT6 W) (fun _ _ _ => False) ?_ ?_ hCI0 (AxL Γ1) ?_ ?_ ?_ ?_ ?_
        · intro args w
          simp only [callFunc, Sem.run_bind, run_program, Result.andThen_ok, Tryd.func60]
          have hnm : (Tryd.f60.name == "runtime.NumGoroutine") = false := by kernel_rfl
          have hbd : Tryd.f60.body.isNone = false := by kernel_rfl
          simp only [hnm, hbd, Bool.false_eq_true, if_false, Sem.run_pure]
        · intro W l o o' hl hh _ _
          exact ⟨by simp [World.putObj], fun b q hs => cell_of_block (World.putObj_heap_other (fun e => by have := hS1 b q hs; omega)) q⟩
        · intro pre W W' row hi hg hr
          exact hAh.grown hi hg hr
        · intro c pre W W' row hi _ _
          exact hi
        · rintro x a' _ W W' row ⟨h1, h2, h3, h3', b, o, h4, h5⟩ hg hr
          exact ⟨h1, h2, h3, Nat.le_trans h3' hg.size, b, o, h4, VC.mono (canS_grown hI1 h3' hg hr) _ _ _ h5⟩
        · -- the loop's variable
          intro l pre x W K hi hK
          obtain ⟨z1, z2⟩ := zip2 a3.tmps (.int .i64 (x.1.1 : Int)) (.agg x.1.2.toArray) he3.size
          have hcl := chunk_len hx x.2.1
          have hKp0 : KpS Γ1.S Γ1.w W := ⟨hi.2.1.size, fun b o h => (hi.2.1.stays b o h).2⟩
          have heR : EnvV (canG Γ1 (curL xs ys pre) zeroT6 W) (fun t => if t = 10 then .agg (chunk xs x.1.1) else if t = 9 then .undef else env3 t) { tmps := (#[9, 10].zip (Item.encs x)).foldl (fun t (p, v) => t.setIfInBounds p v) a3.tmps, defers := [] } 16 := by
            refine ⟨z1, fun t => ?_⟩
            show V _ _ (Array.getD _ _ _)
            rw [show Item.encs x = #[.int .i64 (x.1.1 : Int), .agg x.1.2.toArray] from rfl, z2 t]
            by_cases h10 : t = 10
            · rw [if_pos h10, if_pos h10]
              refine V_cell ⟨x.1.2, rfl, ?_⟩
              exact VL.mono hi.2.1.stays _ _ x.2.2
            · rw [if_neg h10, if_neg h10]
              by_cases h9 : t = 9
              · rw [if_pos h9, if_pos h9]; exact V_cell (by simp only [V0])
              · rw [if_neg h9, if_neg h9]; exact V.ext hi.2.1 (he3.val t)
          refine den_cap (cfg := cfg0) (N := 0) (m := 16) nocall (F := Fence.wide.inRound l) (fun _ => trivial) _ plainA dstA (asg_run _ (canG Γ1 (curL xs ys pre) zeroT6 W).s 0 (chunk xs x.1.1) hcl rfl (.ptr 3 1 0) (by show env3 3 = _; exact e33)) hi.1 heR ?_
          rintro ex env4 Γ' a' ⟨rfl, f3, f6, fs⟩ hI' hE' he' hd'
          simp only [exOf, Exit.then]
          have s6 : Γ'.s 6 = ⟨((canG Γ1 (curL xs ys pre) zeroT6 W).s 6).t + 1, .buf (chunk xs x.1.1)⟩ := by rw [fs, upd_same]
          obtain ⟨hIf, hEf⟩ := hI'.freeze s6
          have hIfi := hIf.ent 6
          have hEt := hi.2.1.trans (hE'.trans hEf)
          have n3 : Γ'.s 3 = ⟨(Γ1.s 3).t, .buf (curL xs ys pre)⟩ := by rw [fs, upd_ne _ _ (by decide), upd_ne _ _ (by decide)]; exact can3 _ _ _ _
          have n4 : Γ'.s 4 = ⟨(Γ1.s 4).t, .buf zeroT6⟩ := by rw [fs, upd_ne _ _ (by decide), upd_ne _ _ (by decide)]; exact can4 _ _ _ _
          obtain ⟨c1, c2, c3, c4⟩ := hAh.again hIf hEt (by dsimp only; rw [upd_ne _ _ (by decide)]; exact n3) (by dsimp only; rw [upd_ne _ _ (by decide)]; exact n4) hi.2.2.1 rfl
          have p3 : a'.tmps.getD 3 undef = .pointer (some ⟨(Γ1.φ 3).blk, (Γ1.φ 3).base, none⟩) := by
            have := he'.val 3
            rw [f3] at this
            have := this.2 (curL xs ys pre) (by unfold cellsAt; rw [n3, t13]; simp)
            have c3' : Γ'.φ 3 = Γ1.φ 3 := c3
            rw [c3'] at this
            exact this
          have p6 := he'.val 6
          rw [f6] at p6
          have p6 := p6.2 (chunk xs x.1.1) (by unfold cellsAt; rw [s6]; simp)
          have q6 : VC (canS Γ1 Γ'.w) Γ'.w (chunk xs x.1.1) (Γ'.φ 6).blk (Γ'.φ 6).base := by
            unfold EntOk at hIfi
            simp only [upd_same, EntC] at hIfi
            exact VC.mono (Stays.sub c2) _ _ _ (VC.here _ _ _ hIfi)
          refine hK a' Γ'.w ((others_of_ext hi.1 (hAh.solid hi) hE').from _) ⟨hE'.size, fun b o h => (hE'.stays b o (.inl h)).2⟩ c1 ⟨hd', he'.size, p3, hEt.size, _, _, p6, q6⟩
        · -- the body
          rintro l pre x a' W _ _ hi ⟨h1, h2, h3, h3', b, o, h4, h5⟩ _
          have heR : EnvV (canG Γ1 (curL xs ys pre) zeroT6 W) (fun t => if t = 3 then .ptr 3 1 0 else if t = 6 then .rptr (chunk xs x.1.1) else .undef) a' 16 := by
            refine ⟨h2, fun t => ?_⟩
            by_cases e3 : t = 3
            · subst e3
              rw [if_pos rfl, h3]
              refine ⟨?_, fun zs _ => rfl⟩
              rw [can3, t13]; exact Nat.le_refl _
            · rw [if_neg e3]
              by_cases e6 : t = 6
              · subst e6
                rw [if_pos rfl, h4]
                exact V_cell ⟨b, o, rfl, h5⟩
              · rw [if_neg e6]; exact V_cell (by simp only [V0])
          refine den_cap (cfg := cfg0) (N := 0) (m := 16) nocall (F := Fence.wide.inRound l) (fun _ => trivial) _ plainBo dstB (bod_run _ (canG Γ1 (curL xs ys pre) zeroT6 W).s 0 1 (chunk xs x.1.1) (curL xs ys pre) (chunk_len hx x.2.1) hi.2.2.1 rfl rfl (by rw [can3, t13])) hi.1 heR ?_
          rintro ex env4 Γ' a4 ⟨rfl, fs⟩ hI' hE' he' hd'
          simp only [exOf, ownPostG]
          obtain ⟨c1, _⟩ := hAh.again hI' (hi.2.1.trans hE') (cur := consV (chunk xs x.1.1) (curL xs ys pre)) (c4 := zeroT6) (by rw [fs, upd_same, t13]) (by rw [fs, upd_ne _ _ (by decide)]; exact can4 _ _ _ _) (consV_len _ _) rfl
          refine ⟨(others_of_ext hi.1 (hAh.solid hi) hE').from _, ⟨hE'.size, fun b o h => (hE'.stays b o (.inl h)).2⟩, ?_⟩
          rw [curL_snoc]
          exact c1
        · -- behind the loop
          intro D pre W hD hpre hi hDo
          rw [curL_done pre hpre] at hi
          simp only [Exit.inBlock, Exit.then]
          have heR : EnvV (canG Γ1 (lstN xs len ys) zeroT6 W) env3 { a3 with defers := { target := .collected D, args := #[] } :: a3.defers } 16 := ⟨he3.size, fun t => V.ext hi.2.1 (he3.val t)⟩
          refine den_cap (cfg := cfg0) (N := 0) (m := 16) nocall (F := Fence.wide) (fun _ => trivial) _ plain4 dst4L (rL4_run _ (canG Γ1 (lstN xs len ys) zeroT6 W).s 0 1 1 (lstN xs len ys) zeroT6 hi.2.2.1 rfl e33 e34 (by rw [can3, t13]) (by rw [can4, t14])) hi.1 heR ?_
          rintro ex env5 Γ' a5 ⟨rfl, f4, fs⟩ hI' hE' he' hd'
          obtain ⟨c1, c2, c3, c4⟩ := hAh.again hI' (hi.2.1.trans hE') (cur := lstN xs len ys) (c4 := lstN xs len ys) (by rw [fs, upd_ne _ _ (by decide)]; exact can3 _ _ _ _) (by rw [fs, upd_same, t14]) hi.2.2.1 hi.2.2.1
          have hDo' : Γ'.w.heap[D]? = some (.deferred (some [])) := (others_of_ext hi.1 (hAh.solid hi) hE').same D _ hDo rfl
          have c5 : CI Γ1 (lstN xs len ys) (lstN xs len ys) (Γ'.w.putObj D (.deferred none)) := hAh.grown c1 (grownBy_putObj' _ D (.deferred none)) (fun r e => by cases e; exact ⟨hD, _, hDo', rfl⟩)
          have p4 : a5.tmps.getD 4 undef = .pointer (some ⟨(Γ1.φ 4).blk, (Γ1.φ 4).base, none⟩) := by
            have := he'.val 4
            rw [f4] at this
            have := this.2 (lstN xs len ys) (by unfold cellsAt; rw [fs, upd_same]; simp)
            rw [c4] at this
            exact this
          have hvv : ∀ t, V (canG Γ1 (lstN xs len ys) (lstN xs len ys) (Γ'.w.putObj D (.deferred none))) ((fun t => if t = 4 then .ptr 4 1 0 else .undef : Env) t) (a5.tmps.getD t undef) := fun t => by
            by_cases e4 : t = 4
            · subst e4
              simp only [if_true]
              rw [p4]
              refine ⟨?_, fun zs _ => rfl⟩
              rw [can4, t14]; exact Nat.le_refl _
            · simp only [if_neg e4]; exact V_cell (by simp only [V0])
          have hld : rvA Tryd.prog (canG Γ1 (lstN xs len ys) (lstN xs len ys) (Γ'.w.putObj D (.deferred none))).s (fun t => if t = 4 then .ptr 4 1 0 else .undef : Env) (.cell 4 28) = some (.agg (lstN xs len ys)) := by
            have h4 := can4 Γ1 (lstN xs len ys) (lstN xs len ys) (Γ'.w.putObj D (.deferred none))
            rw [t14] at h4
            have hlc := c1.2.2.1
            simp only [rvA, if_true, loadA, ldC, h4, Option.bind_some, partA, lsSh, List.drop_zero]
            rw [if_pos (by omega), List.take_of_length_le (by omega)]
          obtain ⟨u, hu1, hu2⟩ := rv_ok c5.1 hld hvv
          simp only [exOf, bodyPostM, hd', hd3, LeavesInM, LeavesIn]
          refine ⟨by simp, .inl ⟨D, _, rfl, run_takeDeferred hDo', ?_⟩⟩
          have hres : Tryd.f18.results = #[.cell 4 28] := by kernel_rfl
          refine ⟨u, results_one hres a5.tmps hu1, u, _, rfl, rfl, c5.1, hEG.trans c5.2.1, ⟨fun j a ha hm => ?_, (V_tree rfl).1 hu2⟩⟩
          match j, ha with
          | 0, ha => cases ha; cases hm
          | 1, ha => cases ha; cases hm
        · intro D c pre W _ _ hix
          exact hix.elim
      refine (callsIn_wide (n := 9)).1 ?_
      refine callsIn_of_wp_marks (fn := Tryd.f18) (c := codeL) Tryd.func18 (by kernel_rfl) trivial (H _ rfl ?_)
      have hn := Tryd.ntmps18
      refine ⟨?_, fun t => ?_⟩
      · show Array.size _ = 16
        rw [hn]; rfl
      · show V _ _ (Array.getD _ _ _)
        rw [show ([v0, v1].toArray : Array Value) = #[v0] ++ #[v1] from rfl, act2_get]
        by_cases h0 : t = 0
        · subst h0; exact V_cell k0
        · by_cases h1 : t = 1
          · subst h1; exact k1
          · simp only [if_neg h0, if_neg h1]; exact V_cell (by simp only [V0])
    · cases h
  · cases h
end Go.Ab

/- strings.Join at this program, by the library's contract. No conditions. -/
namespace Go.Proofs.AbSh
open Go.Shelf
def ren : Go.Shelf.Ren := ⟨fun | 156 => 28 | 165 => 54 | 166 => 55 | 167 => 29 | 169 => 30 | 240 => 56 | 241 => 89 | 276 => 90 | 277 => 111| n => n, fun | 31 => 55 | 9 => 9 | 3 => 3 | 4 => 4 | 0 => 0 | 20 => 20 | 72 => 60 | 76 => 93 | 70 => 57 | 37 => 58 | 75 => 62 | 127 => 95 | 164 => 122 | 5 => 5 | 80 => 65 | n => n, fun n => n⟩
theorem lays : Lays.n156 Tryd.prog ren := {
  mixed := by kernel_rfl
  f156 := Tryd.func28.trans (congrArg some (by kernel_rfl))
  f165 := Tryd.func54.trans (congrArg some (by kernel_rfl))
  f166 := Tryd.func55.trans (congrArg some (by kernel_rfl))
  f169 := Tryd.func30.trans (congrArg some (by kernel_rfl))
  f240 := Tryd.func56.trans (congrArg some (by kernel_rfl))
  f241 := Tryd.func89.trans (congrArg some (by kernel_rfl))
  f276 := Tryd.func90.trans (congrArg some (by kernel_rfl))
  f277 := Tryd.func111.trans (congrArg some (by kernel_rfl))
  t0 := Tryd.underlying0
  a0 := Tryd.isAgg0
  z0 := Tryd.sizeOf0
  v0 := Tryd.zeroValue0
  t3 := Tryd.underlying3
  a3 := Tryd.isAgg3
  z3 := Tryd.sizeOf3
  v3 := Tryd.zeroValue3
  t4 := Tryd.underlying4
  a4 := Tryd.isAgg4
  z4 := Tryd.sizeOf4
  v4 := Tryd.zeroValue4
  t9 := Tryd.underlying9
  a9 := Tryd.isAgg9
  z9 := Tryd.sizeOf9
  v9 := Tryd.zeroValue9
  t20 := Tryd.underlying20
  a20 := Tryd.isAgg20
  z20 := Tryd.sizeOf20
  v20 := Tryd.zeroValue20
  t31 := Tryd.underlying55
  a31 := Tryd.isAgg55
  z31 := Tryd.sizeOf55
  v31 := Tryd.zeroValue55
  t37 := Tryd.underlying58
  a37 := Tryd.isAgg58
  z37 := Tryd.sizeOf58
  v37 := Tryd.zeroValue58
  t70 := Tryd.underlying57
  a70 := Tryd.isAgg57
  z70 := Tryd.sizeOf57
  v70 := Tryd.zeroValue57
  t72 := Tryd.underlying60
  a72 := Tryd.isAgg60
  z72 := Tryd.sizeOf60
  v72 := Tryd.zeroValue60
  t75 := Tryd.underlying62
  a75 := Tryd.isAgg62
  z75 := Tryd.sizeOf62
  v75 := Tryd.zeroValue62
  t76 := Tryd.underlying93
  a76 := Tryd.isAgg93
  z76 := Tryd.sizeOf93
  v76 := Tryd.zeroValue93
  t127 := Tryd.underlying95
  a127 := Tryd.isAgg95
  z127 := Tryd.sizeOf95
  v127 := Tryd.zeroValue95
  t164 := Tryd.underlying122
  a164 := Tryd.isAgg122
  z164 := Tryd.sizeOf122
  v164 := Tryd.zeroValue122 }
theorem ext : Builder.Extra Tryd.prog ren := { sizeBuilder := by kernel_rfl, liesBuilder := by kernel_rfl, t5 := Tryd.underlying5, a5 := Tryd.isAgg5, z5 := Tryd.sizeOf5, v5 := Tryd.zeroValue5, infoByte := by kernel_rfl, cellsByte := by kernel_rfl, sizeByte := by kernel_rfl, neB5 := by decide }
end Go.Proofs.AbSh
namespace Go.Ab
open Go.Proofs
theorem joinC : JoinC Tryd.prog 28 where
  here := ⟨_, _, Tryd.func28, by unfold Tryd.f28; decide, by unfold Tryd.f28; rfl⟩
  empty := fun a c sep w => Any.strings_Join_none AbSh.lays AbSh.ext a c sep w
  full := fun bk o c xs sep w h1 h2 h3 h4 h5 => Any.strings_Join AbSh.lays AbSh.ext bk o c xs sep w h1 h2 h3 h4 h5
theorem prim0_ok : FnOk Tryd.prog prim0 := fun f xs r os h => by
  unfold prim0 at h
  split at h
  · rename_i hf
    rw [beq_iff_eq] at hf
    subst hf
    exact join_ok joinC h
  · split at h
    · rename_i hf
      rw [beq_iff_eq] at hf
      subst hf
      exact list_ok h
    · cases h
end Go.Ab

/- Lists of limbs out of a statement's reading. No conditions. -/
namespace Go.Ab
open Go.Proofs Go.RowKit
theorem mixed : Tryd.prog.follows .mixedOrders = true := by kernel_rfl
end Go.Ab

/- Numbers out of a statement's reading. No conditions. -/
namespace Go.Ab
open Go.Proofs Go.RowKit Go.ChangeShapes Go.WideShapes Go.ChangeAt
end Go.Ab

/- A number that may be, or 0; a number of a sign and limbs. Conditions: limbs in range. -/
namespace Go.Ab
open Go.Proofs
set_option maxRecDepth 100000
set_option linter.unusedSimpArgs false

abbrev canA (g : Gk) (z : Int) : AV := encA (decide (z < 0)) g (digs z.natAbs)
def gz (neg : Bool) (g : Gk) (l : List Nat) : Gk := if chkN neg l = true then g else .n
theorem cCheck (n d : Nat) (neg : Bool) (g : Gk) (l : List Nat) (hl : Limbs l) (D : Nat) (s : St) : callA cfg0 (evalFn Tryd.prog cfg0 n (d+1)) D s 69 [encA neg g l] = some (.bool (chkN neg l), s) :=
  callA_trees rfl (check_eq n d neg g l hl)
theorem canA_of {neg : Bool} {g : Gk} {l : List Nat} (hl : Limbs l) (h : chkN neg l = true) : canA (gz neg g l) (numZ neg l) = encA neg g l := by
  obtain ⟨h1, h2, h3⟩ := numZ_is hl h
  unfold canA
  rw [h2, h3, gz, if_pos h]
theorem canA_no {neg : Bool} {g : Gk} {l : List Nat} (h : chkN neg l = false) : canA (gz neg g l) (numZ neg l) = encA false .n [] := by
  unfold canA
  rw [numZ_not h, gz, if_neg (by rw [h]; decide)]
  simp [digs_0]
set_option maxHeartbeats 2000000 in
theorem of_eq (n d : Nat) (neg : Bool) (g : Gk) (l : List Nat) (hl : Limbs l) : evalFn Tryd.prog cfg0 n (d+2) 50 [.tree (encA neg g l)] = some (.tree (canA (gz neg g l) (numZ neg l)), [[]]) := by
  rw [evalFn_go _ Tryd.func50 (by unfold Tryd.f50; rfl) (by unfold Tryd.f50; decide) (Nat.le_of_ble_eq_true (by unfold Tryd.f50; rfl)) (by kernel_rfl)]
  have c1 := fun D s => cCheck n d neg g l hl D s
  cases h : chkN neg l with
  | false =>
    rw [canA_no h]
    simp only [simB, zbo, Nat.reduceBEq, own0, ↓reduceIte, Nat.reduceEqDiff, Nat.reduceAdd, simA, simL, simN, Nat.zero_add, st0_1, c1, h, unA_not', Bool.not_false]
    exact finish_c _ _ 2 2 1 _ _ _ _ _ (by simp only [zfk, ↓reduceIte, Nat.reduceEqDiff]) (by simp only [zfk, ↓reduceIte, Nat.reduceEqDiff]) rfl
  | true =>
    rw [canA_of hl h]
    simp only [simB, zbo, Nat.reduceBEq, own0, ↓reduceIte, Nat.reduceEqDiff, Nat.reduceAdd, simA, simL, simN, Nat.zero_add, st0_1, c1, h, unA_not', Bool.not_true]
    exact finish_c _ _ 2 2 1 _ _ _ _ _ (by simp only [zfk, ↓reduceIte, Nat.reduceEqDiff]) (by simp only [zfk, ↓reduceIte, Nat.reduceEqDiff]) rfl
def IsN (w : AV) (z : Int) : Prop := ∃ neg g l, w = encA neg g l ∧ Limbs l ∧ numZ neg l = z
theorem isN_A (neg : Bool) (g : Gk) (l : List Nat) (hl : Limbs l) : IsN (encA neg g l) (numZ neg l) := ⟨neg, g, l, rfl, hl, rfl⟩
theorem numZ_can (z : Int) (h : z.natAbs < B ^ 12) : numZ (decide (z < 0)) (digs z.natAbs) = z := by
  have hc : chkN (decide (z < 0)) (digs z.natAbs) = true := by
    rw [chk_digs _ _ (fun h0 => decide_eq_false (by omega)), decide_eq_true h]
  rw [numZ, if_pos hc, val_digs]
  exact sgn_of z
theorem isN_can (g : Gk) (z : Int) (h : z.natAbs < B ^ 12) : IsN (canA g z) z := ⟨_, g, _, rfl, limbs_digs _, numZ_can z h⟩
theorem isN_Z (z : Int) (h : z.natAbs < B ^ 12) : IsN (encZ z) z := isN_can _ z h
theorem IsN.lt {w : AV} {z : Int} (h : IsN w z) : z.natAbs < B ^ 12 := by
  obtain ⟨neg, g, l, _, hl, rfl⟩ := h
  exact numZ_lt neg l hl
theorem IsN.tree {w : AV} {z : Int} (h : IsN w z) : isTree w = true := by
  obtain ⟨neg, g, l, rfl, _⟩ := h; rfl
theorem cOf (n d : Nat) {w : AV} {z : Int} (h : IsN w z) : ∃ g, ∀ D s, callA cfg0 (evalFn Tryd.prog cfg0 n (d+2)) D s 50 [w] = some (canA g z, s) := by
  obtain ⟨neg, g, l, rfl, hl, rfl⟩ := h
  exact ⟨_, fun D s => callA_trees rfl (of_eq n d neg g l hl)⟩
theorem num_can (g : Gk) (z : Int) (h : z.natAbs < B ^ 12) : Num (encL g (digs z.natAbs)) z.natAbs := ⟨_, sh_L g _, limbs_digs _, Nat.le_trans (digs_len _ 12 h) (by decide), val_digs _⟩
end Go.Ab

/- Numbers of ints, negatives, bits, sums. Conditions: limbs in range. -/
namespace Go.Ab
open Go.Proofs
set_option maxRecDepth 100000
set_option linter.unusedSimpArgs false

theorem callA_bS (call : FuncId → List Arg → Option Out) (d : Nat) (s : St) (f : FuncId) {w : AV} {l : List Nat} (h : Sh w l) (b : Bool) (v : AV) (hc : ∀ g, call f [.tree (.bool b), .tree (encL g l)] = some (.tree v, [[], []])) : callA cfg0 call d s f [.bool b, w] = some (v, s) := by
  obtain ⟨g, e⟩ := h.arg f s 1
  have e0 : argA cfg0 f s 0 (.bool b) = some (.tree (.bool b)) := rfl
  have g0 : ∀ a, givesOf (.bool b) a = none := fun a => by cases a <;> rfl
  have l0 : ∀ a, lendsOf (.bool b) a = none := fun a => by cases a <;> rfl
  simp [callA, argsA, e, e0, g0, l0, givesL, lendsL, h.gives, h.lends, hc, backA, resA]
section
variable (n d : Nat) (hn : 100000 ≤ n) (D : Nat) (s : St)
include hn
end
theorem conv3_55 (s : St) (z : Int) (h : -9223372036854775808 ≤ z) (h' : z ≤ 9223372036854775807) : convA Tryd.prog 3 111 s (.int .i64 z) = some (.int .u64 (((if z < 0 then 18446744073709551616 - z.natAbs else z.natAbs : Nat)) : Int)) := by
  simp only [convA, tk3, tk40, IntKind.wrap, IntKind.bits, IntKind.signed]
  congr 2
  simp only [Bool.false_and, Bool.false_eq_true, if_false]
  rw [show (2 : Int) ^ 64 = 18446744073709551616 from rfl]
  split <;> omega
theorem un_neg64 (x : Nat) (h : x < 18446744073709551616) : unA .neg (.int .u64 (x : Int)) = some (.int .u64 (((18446744073709551616 - x) % 18446744073709551616 : Nat) : Int)) := by
  simp only [unA, IntKind.wrap, IntKind.bits, IntKind.signed]
  congr 2
  simp; omega
def two22 (v w : AV) : Option AV := (fillA (fun i => some (i * 1, 1)) (rep 2 [AV.int .u32 0]) [(0, v), (1, w)]).map (AV.sl · 2 .tight)
theorem two22_int (x y : Int) : two22 (.int .u32 x) (.int .u32 y) = some (.sl [.int .u32 x, .int .u32 y] 2 .tight) := rfl
theorem opA_two (call : FuncId → List Arg → Option Out) (q : Bool) (d : Option Tmp) (ty : TypeId) (pos : String) (af : Array Edge) (g : Option (Nat × Bool)) (t : Nat) (env : Env) (s : St) (x y : Operand) :
    opA Tryd.prog cfg0 call q ⟨d, .buildSlice 23 2 #[(0, x), (1, y)], ty, pos, af, g⟩ t env s = (two22 (ev env x) (ev env y)).map (·, s) := by
  rw [opA_bs]
  simp only [tk22, esz31, zero31, Option.bind_some, List.map_cons, List.map_nil]
  rfl
theorem B12_big : 18446744073709551616 ≤ B ^ 12 := by
  have : B ^ 2 ≤ B ^ 12 := Nat.pow_le_pow_right (by decide) (by decide)
  have e : B ^ 2 = 18446744073709551616 := by decide
  omega
theorem ext_0 (a b : AV) : extA 0 (.tup [a, b]) = some a := rfl
theorem ext_1 (a b : AV) : extA 1 (.tup [a, b]) = some b := rfl
end Go.Ab

/- Bits of a number, the compare, sums. Conditions: limbs in range. -/
namespace Go.Ab
open Go.Proofs
set_option maxRecDepth 100000
set_option linter.unusedSimpArgs false

theorem finish_i (k : Bool) (xs : List Arg) (t : Nat) (env : Env) (s : St) (z : Int) (os : List (List AV)) (hv : env t = .int .i64 z) (ho : outsA s 0 xs = some os) : finishP Tryd.prog k xs #[.tmp t] env s = some (.tree (.int .i64 z), os) :=
  finish_tree _ _ _ _ _ _ (.int .i64 z) _ _ hv rfl ho
theorem finish_b (k : Bool) (xs : List Arg) (t : Nat) (env : Env) (s : St) (b : Bool) (os : List (List AV)) (hv : env t = .bool b) (ho : outsA s 0 xs = some os) : finishP Tryd.prog k xs #[.tmp t] env s = some (.tree (.bool b), os) :=
  finish_tree _ _ _ _ _ _ (.bool b) _ _ hv rfl ho
theorem bool_eql (t : TypeId) (ht : tkOf Tryd.prog t = .bool) (a b : Bool) : binA Tryd.prog .eql t (.bool a) (.bool b) = some (.bool (a == b)) := by
  simp only [binA, ht]
theorem bool_neq (t : TypeId) (ht : tkOf Tryd.prog t = .bool) (a b : Bool) : binA Tryd.prog .neq t (.bool a) (.bool b) = some (.bool (!(a == b))) := by
  simp only [binA, ht]
end Go.Ab

/- Op: sums, differences, products, quotients. Conditions: numbers that are shown. -/
namespace Go.Ab
open Go.Proofs
set_option maxRecDepth 100000
set_option linter.unusedSimpArgs false

theorem st0_3' (u v w : AV) : st0 [.tree u, .tree v, .tree w] = dead := by
  funext j
  match j with
  | 0 | 1 | 2 | _ + 3 => simp [st0, dead]

section
variable (n d : Nat) (hn : 100000 ≤ n) {w w' : AV} {z z' : Int} (hw : IsN w z) (hw' : IsN w' z')
include hn hw hw'
set_option maxHeartbeats 8000000
end
end Go.Ab

/- A number as an int, if it is one. Conditions: numbers that are shown. -/
namespace Go.Ab
open Go.Proofs
set_option maxRecDepth 100000
set_option linter.unusedSimpArgs false

def isI64 (z : Int) : Bool := decide (-9223372036854775808 ≤ z) && decide (z < 9223372036854775808)
def intZ (z : Int) : AV := if isI64 z = true then .tup [.int .i64 z, .bool true] else .tup [.int .i64 0, .bool false]
theorem finish_ib (k : Bool) (xs : List Arg) (t u : Nat) (env : Env) (s : St) (z : Int) (b : Bool) (os : List (List AV)) (hv : env t = .int .i64 z) (hu : env u = .bool b) (ho : outsA s 0 xs = some os) :
    finishP Tryd.prog k xs #[.tmp t, .tmp u] env s = some (.tree (.tup [.int .i64 z, .bool b]), os) := by
  simp only [finishP_t2, finish, List.mapM_cons, List.mapM_nil, hv, hu, Option.pure_def, Option.bind_eq_bind, Option.bind_some, settleL, settle, Option.map_some, ho]
theorem conv55_3 (s : St) (x : Nat) (h : x < 18446744073709551616) : convA Tryd.prog 111 3 s (.int .u64 (x : Int)) = some (.int .i64 (if x < 9223372036854775808 then (x : Int) else (x : Int) - 18446744073709551616)) := by
  have e : IntKind.i64.wrap (x : Int) = if x < 9223372036854775808 then (x : Int) else (x : Int) - 18446744073709551616 := by
    simp [IntKind.wrap, IntKind.bits, IntKind.signed]
    (repeat' split) <;> omega
  simp only [convA, tk3, tk40, e]
theorem len2_val (l : List Nat) (hl : Limbs l) (h : l.length ≤ 2) : val l < 18446744073709551616 := by
  have := val_lt l hl
  have h2 : B ^ l.length ≤ B ^ 2 := Nat.pow_le_pow_right (by decide) h
  have e : B ^ 2 = 18446744073709551616 := by decide
  omega
set_option maxHeartbeats 4000000 in
theorem int_eq (n d : Nat) (hn : 100000 ≤ n) {w : AV} {z : Int} (hw : IsN w z) : evalFn Tryd.prog cfg0 n (d+3) 52 [.tree w] = some (.tree (intZ z), [[]]) := by
  obtain ⟨g, c1⟩ := cOf n d hw
  have hlt := hw.lt
  obtain ⟨neg0, g0, l0, rfl, _, _⟩ := hw
  rw [evalFn_go _ Tryd.func52 (by unfold Tryd.f52; rfl) (by unfold Tryd.f52; decide) (Nat.le_of_ble_eq_true (by unfold Tryd.f52; rfl)) (by kernel_rfl)]
  have hl := limbs_digs z.natAbs
  have hv := val_digs z.natAbs
  have hdl : ∀ k, (digs z.natAbs).length ≤ k ↔ z.natAbs < B ^ k := digs_len_le z.natAbs
  obtain ⟨l, hle⟩ : ∃ l, digs z.natAbs = l := ⟨_, rfl⟩
  rw [hle] at hl hv hdl
  by_cases h2 : (l.length : Int) > 2
  · have hb : ¬ z.natAbs < B ^ 2 := fun h => by have := (hdl 2).mpr h; omega
    have e : B ^ 2 = 18446744073709551616 := by decide
    rw [e] at hb
    have hi : isI64 z = false := by
      unfold isI64
      by_cases hz : z < 0
      · rw [decide_eq_false (show ¬ -9223372036854775808 ≤ z by omega)]; rfl
      · rw [decide_eq_false (show ¬ z < 9223372036854775808 by omega), Bool.and_false]
    rw [intZ, if_neg (by rw [hi]; decide)]
    simp only [simB, zbo, Nat.reduceBEq, own0, ↓reduceIte, Nat.reduceEqDiff, Nat.reduceAdd, simA, simL, simN, Nat.zero_add, st0_1, c1, hle, h2]
    exact finish_ib _ _ _ _ _ _ _ _ _ (by simp only [zfk, ↓reduceIte, Nat.reduceEqDiff]) (by simp only [zfk, ↓reduceIte, Nat.reduceEqDiff]) rfl
  have hx64 : z.natAbs < 18446744073709551616 := by rw [← hv]; exact len2_val l hl (by omega)
  simp only [simB, zbo, Nat.reduceBEq, own0, ↓reduceIte, Nat.reduceEqDiff, Nat.reduceAdd, simA, simL, simN, Nat.zero_add, st0_1, c1, hle, h2, den_loop]
  refine loop_ends (X := Nat) (fun i env s => env 1 = .ptr 1 1 0 ∧ s 1 = ⟨1, .buf [.bool (decide (z < 0)), encL g l]⟩ ∧ env 14 = encL g l ∧ env 15 = .int .i64 (l.length : Int) ∧ env 16 = .int .i64 (i : Int) ∧ env 4 = .int .u64 (val (l.take i) : Int) ∧ i ≤ l.length ∧ outsA s 0 [.tree (encA neg0 g0 l0)] = some [[]]) (fun i => l.length - i) (fun _ => (.tree (intZ z), [[]])) ?_ n 0 _ _ (by omega) ⟨rfl, rfl, rfl, rfl, rfl, rfl, Nat.zero_le _, rfl⟩
  intro k i hx ih env s ⟨e1, hs, e14, e15, e16, e4, hi, ho⟩
  by_cases hp : i = l.length
  · subst hp
    have q1 : ¬ ((l.length : Int) < (l.length : Int)) := by omega
    rw [List.take_length, hv] at e4
    by_cases hz : z < 0
    · by_cases hr : z.natAbs ≤ 9223372036854775808
      · have hr' : (z.natAbs : Int) ≤ 9223372036854775808 := by omega
        have u := un_neg64 z.natAbs (by omega)
        rw [Nat.mod_eq_of_lt (by omega)] at u
        have c2 := conv55_3 s (18446744073709551616 - z.natAbs) (by omega)
        rw [if_neg (by omega), show ((18446744073709551616 - z.natAbs : Nat) : Int) - 18446744073709551616 = z by omega] at c2
        have hi : isI64 z = true := by
          unfold isI64
          rw [decide_eq_true (show -9223372036854775808 ≤ z by omega), decide_eq_true (show z < 9223372036854775808 by omega)]; rfl
        rw [intZ, if_pos hi]
        simp only [simB, zbo, Nat.reduceBEq, own0, ↓reduceIte, Nat.reduceEqDiff, Nat.reduceAdd, simL, simN, Nat.zero_add, e1, hs, e14, e15, e16, e4, q1, hz, hr', u, c2]
        exact finish_ib _ _ _ _ _ _ _ _ _ (by simp only [zfk, ↓reduceIte, Nat.reduceEqDiff]) (by simp only [zfk, ↓reduceIte, Nat.reduceEqDiff]) ho
      · have hr' : ¬ (z.natAbs : Int) ≤ 9223372036854775808 := by omega
        have hi : isI64 z = false := by
          unfold isI64
          rw [decide_eq_false (show ¬ -9223372036854775808 ≤ z by omega)]; rfl
        rw [intZ, if_neg (by rw [hi]; decide)]
        simp only [simB, zbo, Nat.reduceBEq, own0, ↓reduceIte, Nat.reduceEqDiff, Nat.reduceAdd, simL, simN, Nat.zero_add, e1, hs, e14, e15, e16, e4, q1, hz, hr', unA_not', Bool.not_true, Bool.not_false]
        exact finish_ib _ _ _ _ _ _ _ _ _ (by simp only [zfk, ↓reduceIte, Nat.reduceEqDiff]) (by simp only [zfk, ↓reduceIte, Nat.reduceEqDiff]) ho
    · by_cases hr : z.natAbs < 9223372036854775808
      · have hr' : (z.natAbs : Int) < 9223372036854775808 := by omega
        have c2 := conv55_3 s z.natAbs (by omega)
        rw [if_pos hr, show ((z.natAbs : Nat) : Int) = z by omega] at c2
        have hi : isI64 z = true := by
          unfold isI64
          rw [decide_eq_true (show -9223372036854775808 ≤ z by omega), decide_eq_true (show z < 9223372036854775808 by omega)]; rfl
        rw [intZ, if_pos hi]
        rw [show ((z.natAbs : Nat) : Int) = z by omega] at e4 hr'
        simp only [simB, zbo, Nat.reduceBEq, own0, ↓reduceIte, Nat.reduceEqDiff, Nat.reduceAdd, simL, simN, Nat.zero_add, e1, hs, e14, e15, e16, e4, q1, hz, hr', c2, unA_not', Bool.not_true, Bool.not_false]
        exact finish_ib _ _ _ _ _ _ _ _ _ (by simp only [zfk, ↓reduceIte, Nat.reduceEqDiff]) (by simp only [zfk, ↓reduceIte, Nat.reduceEqDiff]) ho
      · have hr' : ¬ (z.natAbs : Int) < 9223372036854775808 := by omega
        have hi : isI64 z = false := by
          unfold isI64
          rw [decide_eq_false (show ¬ z < 9223372036854775808 by omega), Bool.and_false]
        rw [intZ, if_neg (by rw [hi]; decide)]
        simp only [simB, zbo, Nat.reduceBEq, own0, ↓reduceIte, Nat.reduceEqDiff, Nat.reduceAdd, simL, simN, Nat.zero_add, e1, hs, e14, e15, e16, e4, q1, hz, hr', unA_not', Bool.not_true, Bool.not_false]
        exact finish_ib _ _ _ _ _ _ _ _ _ (by simp only [zfk, ↓reduceIte, Nat.reduceEqDiff]) (by simp only [zfk, ↓reduceIte, Nat.reduceEqDiff]) ho
  · have q1 : (i : Int) < (l.length : Int) := by omega
    have q2 : (0 : Int) ≤ (i : Int) := by omega
    have q3 : i < l.length := by omega
    have hxi := getD_lt l hl i
    have hti := val_take_lt l hl i
    have hst := val_take_succ' l i
    have m1 := i_mul Tryd.prog 3 32 (i : Int) (by omega) (by omega)
    have hi1 : i = 0 ∨ i = 1 := by omega
    have m2 := u_shl Tryd.prog 111 (l.getD i 0) .i64 (32 * (i : Int)) (by omega) (by omega)
    rw [show (32 * (i : Int)).toNat = 32 * i by omega] at m2
    have hB : B ^ i = 2 ^ (32 * i) := B_pow i
    have hsm : l.getD i 0 * 2 ^ (32 * i) < 18446744073709551616 := by
      rcases hi1 with rfl | rfl
      · omega
      · have : (2 : Nat) ^ (32 * 1) = 4294967296 := by decide
        omega
    rw [Nat.mod_eq_of_lt hsm] at m2
    have hor := shl_or (l.getD i 0) (val (l.take i)) (32 * i) (by rw [← hB]; exact hti)
    have hnew : val (l.take i) + l.getD i 0 * 2 ^ (32 * i) = val (l.take (i + 1)) := by rw [hst, hB, Nat.mul_comm]
    have hb64 : val (l.take i) < 18446744073709551616 := len2_val _ (hl.take i) (by rw [List.length_take]; omega)
    have m3 := u_or Tryd.prog 111 (val (l.take i)) (l.getD i 0 * 2 ^ (32 * i)) hb64 hsm
    rw [hor, hnew] at m3
    have f4 := i_add Tryd.prog 3 (i : Int) 1 (by omega) (by omega)
    simp only [simB, zbo, Nat.reduceBEq, own0, ↓reduceIte, Nat.reduceEqDiff, Nat.reduceAdd, simL, simN, Nat.zero_add, e1, e14, e15, e16, e4, q1, q2, q3, Int.toNat_natCast, hxi, m1, m2, m3, f4]
    refine ih (i + 1) _ _ (by omega) rfl ⟨?_, hs, ?_, ?_, ?_, ?_, by omega, ho⟩
    · simp only [zfk, ↓reduceIte, Nat.reduceEqDiff, e1]
    · simp only [zfk, ↓reduceIte, Nat.reduceEqDiff, e14]
    · simp only [zfk, ↓reduceIte, Nat.reduceEqDiff, e15]
    · simp only [zfk, ↓reduceIte, Nat.reduceEqDiff]; rfl
    · simp only [zfk, ↓reduceIte, Nat.reduceEqDiff]
theorem cInt (n d : Nat) (hn : 100000 ≤ n) {w : AV} {z : Int} (hw : IsN w z) (D : Nat) (s : St) : callA cfg0 (evalFn Tryd.prog cfg0 n (d+3)) D s 52 [w] = some (intZ z, s) :=
  callA_trees (by simp [hw.tree]) (int_eq n d hn hw)
end Go.Ab

/- Shifts of numbers with signs: plain arithmetic. -/
namespace Go.Ab
def shZ (z k : Int) : Int := if 0 ≤ k then z * 2 ^ k.toNat else z.fdiv (2 ^ (-k).toNat)
theorem shZ_0 (k : Int) : shZ 0 k = 0 := by
  unfold shZ; split <;> simp
theorem shZ_down (z : Int) (N : Nat) : shZ z (-(N : Int)) = z.fdiv (2 ^ N) := by
  unfold shZ
  split
  · have : N = 0 := by omega
    subst this; simp
  · rw [Int.neg_neg, Int.toNat_natCast]
theorem shZ_up (z : Int) (N : Nat) : shZ z (N : Int) = z * 2 ^ N := by
  unfold shZ
  rw [if_pos (by omega), Int.toNat_natCast]
theorem fdiv_neg_pow (x : Nat) (hx : 0 < x) (N : Nat) : (-(x : Int)).fdiv (2 ^ N) = -(((x - 1) / 2 ^ N + 1 : Nat) : Int) := by
  obtain ⟨y, rfl⟩ : ∃ y, x = y + 1 := ⟨x - 1, by omega⟩
  have e : ((2 : Int) ^ N) = ((2 ^ N : Nat) : Int) := by simp
  have hp : 0 < 2 ^ N := Nat.two_pow_pos N
  rw [e, Int.fdiv_eq_ediv_of_nonneg _ (by omega)]
  generalize 2 ^ N = p at *
  rw [Nat.add_sub_cancel]
  have h := Nat.div_add_mod y p
  have hm := Nat.mod_lt y hp
  generalize y / p = q at *
  generalize y % p = r at *
  subst h
  have e1 : -((p * q + r + 1 : Nat) : Int) = -((q : Int) + 1) * (p : Int) + ((p : Int) - 1 - r) := by
    push_cast
    rw [Int.neg_mul, Int.add_mul, Int.one_mul, Int.mul_comm (p : Int)]
    omega
  rw [e1, Int.add_comm, Int.add_mul_ediv_right _ _ (by omega), Int.ediv_eq_zero_of_lt (by omega) (by omega)]
  omega
theorem fdiv_pos_pow (x : Nat) (N : Nat) : (x : Int).fdiv (2 ^ N) = ((x / 2 ^ N : Nat) : Int) := by
  have e : ((2 : Int) ^ N) = ((2 ^ N : Nat) : Int) := by simp
  rw [e, Int.fdiv_eq_ediv_of_nonneg _ (Int.natCast_nonneg _)]; rfl
theorem down_neg (z : Int) (N : Nat) (h : z < 0) : sgn true ((z.natAbs - 1) / 2 ^ N + 1) = shZ z (-(N : Int)) := by
  rw [shZ_down]
  have h1 : z = -(z.natAbs : Int) := by omega
  generalize hx : z.natAbs = x at *
  subst h1
  rw [fdiv_neg_pow x (by omega)]; rfl
theorem down_pos (z : Int) (N : Nat) (h : ¬ z < 0) : sgn false (z.natAbs / 2 ^ N) = shZ z (-(N : Int)) := by
  rw [shZ_down]
  have h1 : z = (z.natAbs : Int) := by omega
  generalize hx : z.natAbs = x at *
  subst h1
  rw [fdiv_pos_pow]; rfl
theorem up_sgn (z : Int) (N : Nat) : sgn (decide (z < 0)) (z.natAbs * 2 ^ N) = shZ z (N : Int) := by
  rw [shZ_up]
  have e : ((2 : Int) ^ N) = ((2 ^ N : Nat) : Int) := by simp
  rw [e]
  generalize 2 ^ N = p
  unfold sgn
  by_cases h : z < 0
  · rw [decide_eq_true h, if_pos rfl]
    have h1 : z = -(z.natAbs : Int) := by omega
    generalize z.natAbs = x at *
    subst h1
    rw [Int.neg_mul]; simp
  · rw [decide_eq_false h, if_neg (by decide)]
    have h1 : z = (z.natAbs : Int) := by omega
    generalize z.natAbs = x at *
    subst h1
    simp
theorem B_le (k N : Nat) (h : 32 * k ≤ N) : B ^ k ≤ 2 ^ N := by rw [B_pow]; exact Nat.pow_le_pow_right (by decide) h
theorem far_up0 (z : Int) (N : Nat) (h0 : z ≠ 0) (hN : 384 < N) : ¬ (shZ z (N : Int)).natAbs < B ^ 12 := by
  have hp : B ^ 12 ≤ 2 ^ N := B_le 12 N (by omega)
  rw [← up_sgn, sgn_abs]
  have : 1 * 2 ^ N ≤ z.natAbs * 2 ^ N := Nat.mul_le_mul_right _ (by omega)
  omega
end Go.Ab

/- Shifts of numbers. Conditions: numbers that are shown. -/
namespace Go.Ab
open Go.Proofs
set_option maxRecDepth 100000
set_option linter.unusedSimpArgs false

theorem un_negi (x : Int) (h : -9223372036854775807 ≤ x) (h' : x ≤ 9223372036854775807) : unA .neg (.int .i64 x) = some (.int .i64 (-x)) := by
  have := i64_wrap (0 - x) (by omega) (by omega)
  simp only [unA, this]
  congr 2; omega
end Go.Ab

/- Shifts of numbers, however far. Conditions: numbers that are shown. -/
namespace Go.Ab
open Go.Proofs
set_option maxRecDepth 100000
set_option linter.unusedSimpArgs false

end Go.Ab

/- What the number statements ask besides. Conditions: limbs in range. -/
namespace Go.Ab
open Go.Proofs
set_option maxRecDepth 100000
set_option linter.unusedSimpArgs false

set_option maxHeartbeats 2000000 in
theorem rcheck_eq (n d : Nat) (neg : Bool) (g : Gk) (l : List Nat) (hl : Limbs l) : evalFn Tryd.prog cfg0 n (d+1) 94 [.tree (encA neg g l)] = some (.tree (.bool (chkN neg l)), [[]]) := by
  rw [evalFn_go _ Tryd.func94 (by unfold Tryd.f94; rfl) (by unfold Tryd.f94; decide) (Nat.le_of_ble_eq_true (by unfold Tryd.f94; rfl)) (by kernel_rfl)]
  unfold chkN
  by_cases h : (l.length : Int) ≤ 12
  rotate_left
  · have e1 : decide (l.length ≤ 12) = false := decide_eq_false (by omega)
    simp only [simB, zbo, Nat.reduceBEq, own0, ↓reduceIte, Nat.reduceEqDiff, Nat.reduceAdd, simA, simL, simN, Nat.zero_add, st0_1, h, e1, Bool.false_and]
    exact finish_tree _ _ _ _ _ _ (.bool false) _ _ (by simp only [zfk, ↓reduceIte]) rfl rfl
  have e1 : decide (l.length ≤ 12) = true := decide_eq_true (by omega)
  by_cases hz : l = []
  · subst hz
    have p1 : (((([] : List Nat).length : Nat) : Int) == 0) = true := rfl
    cases neg with
    | false =>
      simp only [simB, zbo, Nat.reduceBEq, own0, ↓reduceIte, Nat.reduceEqDiff, Nat.reduceAdd, simA, simL, simN, Nat.zero_add, st0_1, h, p1, unA_not', Bool.not_false]
      exact finish_tree _ _ _ _ _ _ (.bool true) _ _ (by simp only [zfk, ↓reduceIte]) rfl rfl
    | true =>
      have p2 : ¬ ((([] : List Nat).length : Nat) : Int) > 0 := by simp
      simp only [simB, zbo, Nat.reduceBEq, own0, ↓reduceIte, Nat.reduceEqDiff, Nat.reduceAdd, simA, simL, simN, Nat.zero_add, st0_1, h, p1, p2, unA_not', Bool.not_true]
      exact finish_tree _ _ _ _ _ _ (.bool false) _ _ (by simp only [zfk, ↓reduceIte]) rfl rfl
  · have hp : 0 < l.length := List.length_pos_iff.mpr hz
    have p1 : ((l.length : Int) == 0) = false := by rw [beq_eq_false_iff_ne]; omega
    have p2 : (l.length : Int) > 0 := by omega
    have p3 := i_sub Tryd.prog 3 (l.length : Int) 1 (by omega) (by omega)
    have p4 : (0 : Int) ≤ (l.length : Int) - 1 := by omega
    have p5 : (l.length : Int) - 1 < l.length := by omega
    have p6 : ((l.length : Int) - 1).toNat = l.length - 1 := by omega
    have p7 : l.length - 1 < l.length := by omega
    have q1 : decide (l.length = 0) = false := decide_eq_false (by omega)
    have q2 : decide (0 < l.length) = true := decide_eq_true hp
    simp only [simB, zbo, Nat.reduceBEq, own0, ↓reduceIte, Nat.reduceEqDiff, Nat.reduceAdd, simA, simL, simN, Nat.zero_add, st0_1, h, p1, p2, p3, p4, p5, p6, p7, e1, q1, q2, neq0, Bool.false_and, Bool.false_or, Bool.true_and]
    exact finish_tree _ _ _ _ _ _ (.bool (decide (l.getD (l.length - 1) 0 ≠ 0))) _ _ (by simp only [zfk, ↓reduceIte]) rfl rfl
theorem cRcheck (n d : Nat) (neg : Bool) (g : Gk) (l : List Nat) (hl : Limbs l) (D : Nat) (s : St) : callA cfg0 (evalFn Tryd.prog cfg0 n (d+1)) D s 94 [encA neg g l] = some (.bool (chkN neg l), s) :=
  callA_trees rfl (rcheck_eq n d neg g l hl)
section
variable (n d : Nat) (hn : 100000 ≤ n)
include hn
end
end Go.Ab

/- Terms as structs: their cells, read and written. No conditions. -/
namespace Go.Ab
open Go.Proofs
set_option maxRecDepth 100000
set_option linter.unusedSimpArgs false

theorem tkT : tkOf Tryd.prog 28 = .st := by kernel_rfl
theorem eszT : esz Tryd.prog 28 = some 6 := by kernel_rfl
theorem shT : shOf Tryd.prog 28 = some (true, 6) := by kernel_rfl
theorem zeroT : zeroOf Tryd.prog 28 = some [.int .i64 0, .bool false, .sl [] 0 .nil, .str [], .int .i64 0, .sl [] 0 .nil] := by kernel_rfl
theorem plT : placesA Tryd.prog 28 = some [(0, 1), (1, 2), (3, 1), (4, 1), (5, 1)] := by kernel_rfl
theorem fdT0 : fieldOf Tryd.prog 28 0 = some (3, 0) := by kernel_rfl
theorem fdT1 : fieldOf Tryd.prog 28 1 = some (25, 1) := by kernel_rfl
theorem fdT2 : fieldOf Tryd.prog 28 2 = some (9, 3) := by kernel_rfl
theorem fdT3 : fieldOf Tryd.prog 28 3 = some (3, 4) := by kernel_rfl
theorem fdT4 : fieldOf Tryd.prog 28 4 = some (26, 5) := by kernel_rfl
theorem eszTi : esz Tryd.prog 3 = some 1 := by kernel_rfl
theorem eszTs : esz Tryd.prog 9 = some 1 := by kernel_rfl
theorem eszTk : esz Tryd.prog 26 = some 1 := by kernel_rfl
theorem shTi : shOf Tryd.prog 3 = some (false, 1) := by kernel_rfl
theorem shTs : shOf Tryd.prog 9 = some (false, 1) := by kernel_rfl
theorem shTk : shOf Tryd.prog 26 = some (false, 1) := by kernel_rfl
theorem tkTk : tkOf Tryd.prog 26 = .sl 28 := by kernel_rfl
theorem faT_0 (s : St) (p k off : Nat) : fieldAddrA Tryd.prog 28 s (.ptr p k off) 0 = faE (s p) p k off := by
  simp only [fieldAddrA, fdT0, eszTi, live, cellsAt_E, faE, Nat.add_zero]
theorem faT_1 (s : St) (p k off : Nat) : fieldAddrA Tryd.prog 28 s (.ptr p k off) 1 = faE (s p) p k (off + 1) := by
  simp only [fieldAddrA, fdT1, esz24, live, cellsAt_E, faE]
theorem faT_2 (s : St) (p k off : Nat) : fieldAddrA Tryd.prog 28 s (.ptr p k off) 2 = faE (s p) p k (off + 3) := by
  simp only [fieldAddrA, fdT2, eszTs, live, cellsAt_E, faE]
theorem faT_3 (s : St) (p k off : Nat) : fieldAddrA Tryd.prog 28 s (.ptr p k off) 3 = faE (s p) p k (off + 4) := by
  simp only [fieldAddrA, fdT3, eszTi, live, cellsAt_E, faE]
theorem faT_4 (s : St) (p k off : Nat) : fieldAddrA Tryd.prog 28 s (.ptr p k off) 4 = faE (s p) p k (off + 5) := by
  simp only [fieldAddrA, fdT4, eszTk, live, cellsAt_E, faE]
section
variable (t k : Nat) (a b c d e f : AV)
theorem ldT_a : ldE Tryd.prog 28 ⟨t, .buf [a, b, c, d, e, f]⟩ k 0 = if t = k then some (.agg [a, b, c, d, e, f]) else none := by
  rw [ldE_buf, cellsE_buf]
  by_cases h : t = k
  · simp [h, partA, shT]
  · simp [h]
theorem ldT_0 : ldE Tryd.prog 3 ⟨t, .buf [a, b, c, d, e, f]⟩ k 0 = if t = k then some a else none := by
  rw [ldE_buf, cellsE_buf]
  by_cases h : t = k
  · simp [h, partA, shTi]
  · simp [h]
theorem ldT_1 : ldE Tryd.prog 25 ⟨t, .buf [a, b, c, d, e, f]⟩ k 1 = if t = k then some (.agg [b, c]) else none := by
  rw [ldE_buf, cellsE_buf]
  by_cases h : t = k
  · simp [h, partA, sh24]
  · simp [h]
theorem ldT_2 : ldE Tryd.prog 9 ⟨t, .buf [a, b, c, d, e, f]⟩ k 3 = if t = k then some d else none := by
  rw [ldE_buf, cellsE_buf]
  by_cases h : t = k
  · simp [h, partA, shTs]
  · simp [h]
theorem ldT_3 : ldE Tryd.prog 3 ⟨t, .buf [a, b, c, d, e, f]⟩ k 4 = if t = k then some e else none := by
  rw [ldE_buf, cellsE_buf]
  by_cases h : t = k
  · simp [h, partA, shTi]
  · simp [h]
theorem ldT_4 : ldE Tryd.prog 26 ⟨t, .buf [a, b, c, d, e, f]⟩ k 5 = if t = k then some f else none := by
  rw [ldE_buf, cellsE_buf]
  by_cases h : t = k
  · simp [h, partA, shTk]
  · simp [h]
end
def stT (e : Ent) (p k : Nat) (s : St) (ys : List AV) : Option St :=
  match e with | ⟨t', .buf xs⟩ => if t' = k then (if ys.length ≤ xs.length then some (upd s p ⟨t', .buf (splice xs 0 ys)⟩) else none) else none | _ => none
theorem st_T (s : St) (p k : Nat) (a b c d e f : AV) : storeA Tryd.prog 28 s (.ptr p k 0) (.agg [a, b, c, d, e, f]) = stT (s p) p k s [a, b, c, d, e, f] := by
  simp only [storeA, settle, Option.bind_some, stT]
  cases h : s p with
  | mk t c => cases c <;> simp [eszT]
theorem bdT_1 (k : Int) (b : Bool) (g : Gk) (l : List Nat) : buildA Tryd.prog 28 [(0, .int .i64 k), (1, .agg [.bool b, encL g l])] = some (.agg [.int .i64 k, .bool b, encL g l, .str [], .int .i64 0, .sl [] 0 .nil]) := by
  simp only [buildA, zeroT, tkT, plT, Option.bind_some]; rfl
theorem bdT_2 (k : Int) (s : List UInt8) : buildA Tryd.prog 28 [(0, .int .i64 k), (2, .str s)] = some (.agg [.int .i64 k, .bool false, .sl [] 0 .nil, .str s, .int .i64 0, .sl [] 0 .nil]) := by
  simp only [buildA, zeroT, tkT, plT, Option.bind_some]; rfl
theorem lenTk (s : St) (xs : List AV) (m : Nat) (g : Grip) : lenA Tryd.prog 26 s (.sl xs m g) = some (.int .i64 (m : Int)) := by simp only [lenA, tkTk]
end Go.Ab

/- The term statements' own example, by the kernel's own reckoning. No conditions. -/
namespace Go.Ab
open Go.Proofs
def isOkT : Option Out → Bool
  | some (.tree (.bool true), []) => true
  | _ => false
theorem isOkT_eq {o : Option Out} (h : isOkT o = true) : o = some (.tree (.bool true), []) := by
  unfold isOkT at h
  split at h
  · rfl
  · cases h
theorem awakeT_eq : evalFn Tryd.prog cfg0 100000 14 12 [] = some (.tree (.bool true), []) := isOkT_eq (by kernel_rfl)
end Go.Ab

/- Terms of each kind: compared, the same. Conditions: limbs in range. -/
namespace Go.Ab
open Go.Proofs
set_option maxRecDepth 100000
set_option linter.unusedSimpArgs false

section
variable (b : Bool) (g : Gk) (l : List Nat) (s : List UInt8)
end
end Go.Ab

/- A term of each kind beside itself. Conditions: limbs in range. -/
namespace Go.Ab
open Go.Proofs
set_option maxRecDepth 100000
set_option linter.unusedSimpArgs false

theorem s_eqlS (P : Program) (t : TypeId) (a b : List UInt8) : binA P .eql t (.str a) (.str b) = some (.bool (a == b)) := rfl
section
variable (b : Bool) (g : Gk) (l : List Nat) (s : List UInt8)
set_option maxHeartbeats 8000000
end
end Go.Ab

/- Terms as trees: their cells; how deep, how many; what term.check asks. No conditions. -/
namespace Go.Ab
open Go.Proofs
set_option maxRecDepth 100000
set_option linter.unusedSimpArgs false

inductive T where
  | mk (k : Int) (b : Bool) (lg : Gk) (l : List Nat) (s : List UInt8) (n : Int) (kg : Gk) (ks : List T)
mutual
def cellsT : T → List AV
  | .mk k b lg l s n kg ks => [.int .i64 k, .bool b, encL lg l, .str s, .int .i64 n, .sl (cellsK ks) ks.length (gr kg)]
def cellsK : List T → List AV
  | [] => []
  | t :: r => cellsT t ++ cellsK r
end
def encT (t : T) : AV := .agg (cellsT t)
mutual
def nodT : T → Nat
  | .mk _ _ _ _ _ _ _ ks => nodK ks + 1
def nodK : List T → Nat
  | [] => 0
  | t :: r => nodT t + nodK r
end
mutual
def htT : T → Nat
  | .mk _ _ _ _ _ _ _ ks => htK ks + 1
def htK : List T → Nat
  | [] => 0
  | t :: r => max (htT t) (htK r)
end
theorem cellsT_len (t : T) : (cellsT t).length = 6 := by cases t; simp only [cellsT]; rfl
theorem cellsK_len : ∀ ks : List T, (cellsK ks).length = ks.length * 6
  | [] => rfl
  | t :: r => by simp only [cellsK, List.length_append, cellsT_len, cellsK_len r, List.length_cons]; omega
theorem cellsK_drop : ∀ (ks : List T) (i : Nat), (cellsK ks).drop (i * 6) = cellsK (ks.drop i)
  | [], i => by simp [cellsK]
  | t :: r, 0 => by simp
  | t :: r, i + 1 => by
    have h : (i + 1) * 6 = (cellsT t).length + i * 6 := by rw [cellsT_len]; omega
    simp only [cellsK, List.drop_succ_cons]
    rw [h, ← List.drop_drop, List.drop_left, cellsK_drop r i]
theorem cellsK_take : ∀ (ks : List T) (i : Nat), (cellsK ks).take (i * 6) = cellsK (ks.take i)
  | [], i => by simp [cellsK]
  | t :: r, 0 => by simp [cellsK]
  | t :: r, i + 1 => by
    have h : (i + 1) * 6 = (cellsT t).length + i * 6 := by rw [cellsT_len]; omega
    simp only [cellsK, List.take_succ_cons]
    rw [h, List.take_length_add_append, cellsK_take r i]
theorem cellsK_append (a b : List T) : cellsK (a ++ b) = cellsK a ++ cellsK b := by
  induction a with
  | nil => rfl
  | cons t r ih => simp only [List.cons_append, cellsK, ih, List.append_assoc]
theorem ia_K (s : St) (ks : List T) (g : Grip) (i : Nat) (h : i < ks.length) : indexAddrA Tryd.prog 26 s (.sl (cellsK ks) ks.length g) (.int .i64 (i : Int)) = some (.rptr (cellsK (ks.drop i))) := by
  simp only [indexAddrA, tkTk, eszT, Option.bind_some, Int.toNat_natCast]
  rw [if_pos ⟨by omega, by omega⟩, cellsK_drop]
theorem ld_K (s : St) (t : T) (r : List T) : loadA Tryd.prog 28 s (.rptr (cellsK (t :: r))) = some (encT t) := by
  have h : (cellsT t ++ cellsK r).take 6 = cellsT t := by rw [← cellsT_len t]; simp
  have h2 : 6 ≤ (cellsT t ++ cellsK r).length := by rw [List.length_append, cellsT_len]; omega
  simp only [loadA, partA, shT, cellsK, Nat.zero_add, h2, ↓reduceIte, List.drop_zero, h, encT]
theorem nod_pos (t : T) : 0 < nodT t := by cases t; simp [nodT]
mutual
def wfT : T → Prop
  | .mk _ _ _ l _ _ _ ks => Limbs l ∧ wfK ks
def wfK : List T → Prop
  | [] => True
  | t :: r => wfT t ∧ wfK r
end
theorem nodK_len : ∀ ks : List T, ks.length ≤ nodK ks
  | [] => Nat.le_refl _
  | t :: r => by have := nod_pos t; have := nodK_len r; simp only [nodK, List.length_cons]; omega
theorem kids_ht : ∀ (ks : List T) (i : Nat) (t : T) (r : List T), ks.drop i = t :: r → htT t ≤ htK ks
  | [], i, t, r, h => by simp at h
  | a :: q, 0, t, r, h => by simp only [List.drop_zero, List.cons.injEq] at h; obtain ⟨rfl, rfl⟩ := h; simp only [htK]; omega
  | a :: q, i + 1, t, r, h => by have := kids_ht q i t r (by simpa using h); simp only [htK]; omega
theorem kids_nod : ∀ (ks : List T) (i : Nat) (t : T) (r : List T), ks.drop i = t :: r → nodT t ≤ nodK ks
  | [], i, t, r, h => by simp at h
  | a :: q, 0, t, r, h => by simp only [List.drop_zero, List.cons.injEq] at h; obtain ⟨rfl, rfl⟩ := h; simp only [nodK]; omega
  | a :: q, i + 1, t, r, h => by have := kids_nod q i t r (by simpa using h); simp only [nodK]; omega
theorem kids_wf : ∀ (ks : List T) (i : Nat) (t : T) (r : List T), ks.drop i = t :: r → wfK ks → wfT t
  | [], i, t, r, h, _ => by simp at h
  | a :: q, 0, t, r, h, hw => by simp only [List.drop_zero, List.cons.injEq] at h; obtain ⟨rfl, rfl⟩ := h; simp only [wfK] at hw; exact hw.1
  | a :: q, i + 1, t, r, h, hw => by simp only [wfK] at hw; exact kids_wf q i t r (by simpa using h) hw.2
theorem drop_next {α : Type} {ks : List α} {i : Nat} {t : α} {r : List α} (h : ks.drop i = t :: r) : ks.drop (i + 1) = r := by
  rw [← List.drop_drop, h]; rfl
end Go.Ab

/- Strings: short things. No conditions. -/
namespace Go.Ab
open Go.Proofs
set_option maxRecDepth 100000
set_option linter.unusedSimpArgs false

theorem len9 (s : St) (b : List UInt8) : lenA Tryd.prog 9 s (.str b) = some (.int .i64 (b.length : Int)) := by simp only [lenA, tk9]
theorem ix9 (b : List UInt8) (k : IntKind) (i : Int) : indexA Tryd.prog 9 (.str b) (.int k i) = if 0 ≤ i ∧ i < b.length then some (.int .u8 ((b.getD i.toNat 0).toNat : Int)) else none := by simp only [indexA, tk9]
theorem zey (P : Program) (t : TypeId) (a b : List UInt8) : binA P .eql t (.str a) (.str b) = some (.bool (a == b)) := rfl
theorem zez (P : Program) (t : TypeId) (a b : List UInt8) : binA P .neq t (.str a) (.str b) = some (.bool (!(a == b))) := rfl
theorem s_addS (P : Program) (t : TypeId) (a b : List UInt8) (h : a.length + b.length ≤ 9223372036854775807) : binA P .add t (.str a) (.str b) = some (.str (a ++ b)) := if_pos h
theorem zfa (s : St) (b : List UInt8) (k : IntKind) (i : Int) : sliceA Tryd.prog 9 s (.str b) (some (.int k i)) none none = if 0 ≤ i ∧ i ≤ b.length then some (.str (b.drop i.toNat)) else none := by
  simp only [sliceA, tk9, boundA, Option.isSome_none, Bool.false_eq_true, if_false, Option.bind_some]
  split
  · rw [Option.bind_some, List.take_length]
  · rfl
theorem zfb (s : St) (b : List UInt8) (k : IntKind) (i : Int) : sliceA Tryd.prog 9 s (.str b) none (some (.int k i)) none = if 0 ≤ i ∧ i ≤ b.length then some (.str (b.take i.toNat)) else none := by
  simp only [sliceA, tk9, boundA, Option.isSome_none, Bool.false_eq_true, if_false, Option.bind_some]
  split
  · rfl
  · rfl
theorem finish_s (k : Bool) (xs : List Arg) (t : Nat) (env : Env) (s : St) (v : List UInt8) (os : List (List AV)) (hv : env t = .str v) (ho : outsA s 0 xs = some os) :
    finishP Tryd.prog k xs #[.tmp t] env s = some (.tree (.str v), os) := finish_tree _ _ _ _ _ _ (.str v) _ _ hv rfl ho
def nilE (s : St) : AV → Option (AV × St)
  | .ptr p t off => if live s p t then some (.ptr p t off, s) else none
  | .rptr xs => some (.rptr xs, s)
  | _ => none
theorem opA_nilc {P : Program} {cfg : Cfg} {call : FuncId → List Arg → Option Out} {q : Bool} {d : Option Tmp} {ty : TypeId} {pos : String} {af : Array Edge} {g : Option (Nat × Bool)} {t : Nat} {env : Env} {s : St} (x : Operand) : opA P cfg call q ⟨d, .nilCheck x, ty, pos, af, g⟩ t env s = nilE s (ev env x) := by
  simp only [opA, nilE]
  cases ev env x <;> rfl
theorem nilE_ptr (s : St) (p t off : Nat) : nilE s (.ptr p t off) = if (cellsE (s p) t).isSome = true then some (.ptr p t off, s) else none := by simp only [nilE, live, cellsAt_E]
end Go.Ab

/- Of a term by itself: is it right? No conditions but limbs in range. -/
namespace Go.Ab
open Go.Proofs
set_option maxRecDepth 100000
set_option linter.unusedSimpArgs false

def zeroB (b : Bool) (l : List Nat) : Bool := !b && decide (l.length = 0)
theorem zeroN_eq (n d : Nat) (b : Bool) (g : Gk) (l : List Nat) : evalFn Tryd.prog cfg0 n (d+1) 68 [.tree (encA b g l)] = some (.tree (.bool (zeroB b l)), [[]]) := by
  rw [evalFn_go _ Tryd.func68 (by unfold Tryd.f68; rfl) (by unfold Tryd.f68; decide) (Nat.le_of_ble_eq_true (by unfold Tryd.f68; rfl)) (by kernel_rfl)]
  have e : ((l.length : Int) == 0) = decide (l.length = 0) := by rw [Bool.eq_iff_iff, beq_iff_eq, decide_eq_true_eq]; omega
  cases b
  · simp only [simB, zbo, Nat.reduceBEq, own0, ↓reduceIte, Nat.reduceEqDiff, Nat.reduceAdd, simA, simL, simN, Nat.zero_add, encA, unA_not', Bool.not_false, Bool.not_true, e]
    exact finish_b _ _ _ _ _ _ _ ((by simp only [zfk, ↓reduceIte, Nat.reduceEqDiff]; try rfl)) rfl
  · simp only [simB, zbo, Nat.reduceBEq, own0, ↓reduceIte, Nat.reduceEqDiff, Nat.reduceAdd, simA, simL, simN, Nat.zero_add, encA, unA_not', Bool.not_false, Bool.not_true]
    exact finish_b _ _ _ _ _ _ _ ((by simp only [zfk, ↓reduceIte, Nat.reduceEqDiff]; try rfl)) rfl
def okC (c : UInt8) : Bool := decide (33 ≤ c.toNat) && decide (c.toNat ≤ 126)
def nameB (s : List UInt8) : Bool := decide (1 ≤ s.length) && decide (s.length ≤ 40) && s.all okC
theorem name_eq (n d : Nat) (hn : 100 ≤ n) (s : List UInt8) : evalFn Tryd.prog cfg0 n (d+1) 70 [.tree (.str s)] = some (.tree (.bool (nameB s)), [[]]) := by
  rw [evalFn_go _ Tryd.func70 (by unfold Tryd.f70; rfl) (by unfold Tryd.f70; decide) (Nat.le_of_ble_eq_true (by unfold Tryd.f70; rfl)) (by kernel_rfl)]
  by_cases h1 : (s.length : Int) < 1
  · have e : nameB s = false := by unfold nameB; rw [decide_eq_false (by omega)]; rfl
    rw [e]
    simp only [simB, zbo, Nat.reduceBEq, own0, ↓reduceIte, Nat.reduceEqDiff, Nat.reduceAdd, simA, simL, zex, List.toList_toArray, len9, ix9, zey, zez, zfa, zfb, zfc, h1]
    exact finish_b _ _ _ _ _ _ _ ((by simp only [zfk, ↓reduceIte, Nat.reduceEqDiff]; try rfl)) rfl
  by_cases h2 : (s.length : Int) > 40
  · have e : nameB s = false := by unfold nameB; rw [decide_eq_false (p := s.length ≤ 40) (by omega)]; simp
    rw [e]
    simp only [simB, zbo, Nat.reduceBEq, own0, ↓reduceIte, Nat.reduceEqDiff, Nat.reduceAdd, simA, simL, zex, List.toList_toArray, len9, ix9, zey, zez, zfa, zfb, zfc, h1, h2]
    exact finish_b _ _ _ _ _ _ _ ((by simp only [zfk, ↓reduceIte, Nat.reduceEqDiff]; try rfl)) rfl
  have e : nameB s = s.all okC := by unfold nameB; rw [decide_eq_true (by omega), decide_eq_true (by omega)]; rfl
  rw [e]
  simp only [simB, zbo, Nat.reduceBEq, own0, ↓reduceIte, Nat.reduceEqDiff, Nat.reduceAdd, simA, simL, zex, List.toList_toArray, len9, ix9, zey, zez, zfa, zfb, zfc, h1, h2, den_loop]
  refine loop_ends (X := Nat) (fun i env s' => env 0 = .str s ∧ env 13 = .int .i64 (s.length : Int) ∧ env 14 = .int .i64 (i : Int) ∧ i ≤ s.length ∧ (s.take i).all okC = true) (fun i => s.length - i) (fun _ => (.tree (.bool (s.all okC)), [[]])) ?_ n 0 _ _ (by omega) ⟨by simp only [zfk, ↓reduceIte, Nat.reduceEqDiff, simA], by simp only [zfk, ↓reduceIte, Nat.reduceEqDiff], by simp only [zfk, ↓reduceIte, Nat.reduceEqDiff]; rfl, Nat.zero_le _, rfl⟩
  intro k i hx ih env st ⟨e0, e1, e2, hi, ha⟩
  by_cases hp : i = s.length
  · subst hp
    have q1 : ¬ ((s.length : Int) < (s.length : Int)) := by omega
    rw [List.take_length] at ha
    rw [ha]
    simp only [simB, zbo, Nat.reduceBEq, own0, ↓reduceIte, Nat.reduceEqDiff, Nat.reduceAdd, simL, zex, List.toList_toArray, len9, ix9, zey, zez, zfa, zfb, zfc, e0, e1, e2, q1]
    exact finish_b _ _ _ _ _ _ _ ((by simp only [zfk, ↓reduceIte, Nat.reduceEqDiff]; try rfl)) rfl
  · have q1 : (i : Int) < (s.length : Int) := by omega
    have q2 : (0 : Int) ≤ (i : Int) ∧ (i : Int) < (s.length : Int) := by omega
    have f4 := i_add Tryd.prog 3 (i : Int) 1 (by omega) (by omega)
    have hs : s.take (i + 1) = s.take i ++ [s.getD i 0] := by
      rw [List.take_add_one, List.getD, List.getElem?_eq_getElem (by omega)]; rfl
    have ha1 : ∀ c, s.getD i 0 = c → okC c = true → (s.take (i + 1)).all okC = true := by
      intro c hc ho
      rw [hs, hc, List.all_append, ha]; simp [ho]
    have ha0 : ∀ c, s.getD i 0 = c → okC c = false → s.all okC = false := by
      intro c hc ho
      rw [List.all_eq_false]
      refine ⟨c, ?_, by rw [ho]; decide⟩
      rw [← hc, List.getD, List.getElem?_eq_getElem (by omega)]
      exact List.getElem_mem _
    generalize hc : s.getD i 0 = c at ha1 ha0
    replace ha1 := ha1 c rfl
    replace ha0 := ha0 c rfl
    by_cases c1 : (c.toNat : Int) < 33
    · rw [ha0 (by unfold okC; rw [decide_eq_false (by omega)]; rfl)]
      simp only [simB, zbo, Nat.reduceBEq, own0, ↓reduceIte, Nat.reduceEqDiff, Nat.reduceAdd, simL, zex, List.toList_toArray, len9, ix9, zey, zez, zfa, zfb, zfc, e0, e1, e2, q1, q2, and_self, Int.toNat_natCast, hc, c1]
      exact finish_b _ _ _ _ _ _ _ ((by simp only [zfk, ↓reduceIte, Nat.reduceEqDiff]; try rfl)) rfl
    by_cases c2 : (c.toNat : Int) > 126
    · rw [ha0 (by unfold okC; rw [decide_eq_false (p := c.toNat ≤ 126) (by omega)]; simp)]
      simp only [simB, zbo, Nat.reduceBEq, own0, ↓reduceIte, Nat.reduceEqDiff, Nat.reduceAdd, simL, zex, List.toList_toArray, len9, ix9, zey, zez, zfa, zfb, zfc, e0, e1, e2, q1, q2, and_self, Int.toNat_natCast, hc, c1, c2]
      exact finish_b _ _ _ _ _ _ _ ((by simp only [zfk, ↓reduceIte, Nat.reduceEqDiff]; try rfl)) rfl
    · have ha1 := ha1 (by unfold okC; rw [decide_eq_true (by omega), decide_eq_true (by omega)]; rfl)
      simp only [simB, zbo, Nat.reduceBEq, own0, ↓reduceIte, Nat.reduceEqDiff, Nat.reduceAdd, simL, zex, List.toList_toArray, len9, ix9, zey, zez, zfa, zfb, zfc, e0, e1, e2, q1, q2, and_self, Int.toNat_natCast, hc, c1, c2, f4]
      refine ih (i + 1) _ _ (by omega) rfl ⟨?_, ?_, ?_, by omega, ha1⟩
      · simp only [zfk, ↓reduceIte, Nat.reduceEqDiff, e0]
      · simp only [zfk, ↓reduceIte, Nat.reduceEqDiff, e1]
      · simp only [zfk, ↓reduceIte, Nat.reduceEqDiff]; rfl

def ownT : T → Bool
  | .mk k b _ l s n _ ks => decide (1 ≤ k ∧ k ≤ 6) && ((if k = 1 then chkN b l else zeroB b l) && (if k = 2 then nameB s else if k = 6 then decide (s.length ≤ 400) else s == []) && (if k = 4 then decide (ks.length = 2) else if k = 5 then decide (ks.length ≤ 40) else decide (ks.length = 0)) && decide (n = 0))
def limT : T → List Nat
  | .mk _ _ _ l _ _ _ _ => l
theorem natEq (x y : Nat) : ((x : Int) == (y : Int)) = decide (x = y) := by rw [Bool.eq_iff_iff, beq_iff_eq, decide_eq_true_eq]; omega
theorem natEq0 (x : Nat) : ((x : Int) == 0) = decide (x = 0) := natEq x 0
theorem natEq2 (x : Nat) : ((x : Int) == 2) = decide (x = 2) := natEq x 2
theorem intEq0 (x : Int) : (x == 0) = decide (x = 0) := by rw [Bool.eq_iff_iff, beq_iff_eq, decide_eq_true_eq]
theorem i_eqlV (x y : Int) : binA Tryd.prog .eql 3 (.int .i64 x) (.int .i64 y) = some (.bool (x == y)) := rfl
theorem i_leqV (x y : Int) : binA Tryd.prog .leq 3 (.int .i64 x) (.int .i64 y) = some (.bool (decide (x ≤ y))) := rfl
section
variable {P : Program} {cfg : Cfg} {call : FuncId → List Arg → Option Out} {n : Nat}
theorem den_assoc (a b c : Code) (K : Kont) (env : Env) (s : St) : den P cfg call n (.seq a (.seq b c)) K env s = den P cfg call n (.seq (.seq a b) c) K env s := by
  rw [zaa, zaa, zaa]
  congr 1
  funext e env s
  cases e <;> rfl
theorem seq_cut {a b : Code} {K : Kont} {env : Env} {s : St} {out : Option Out} (I : Env → St → Prop) (h2 : ∀ env s, I env s → den P cfg call n b K env s = out)
    (h1 : ∀ K' : Kont, (∀ env s, I env s → K' .normal env s = out) → (∀ env s, K' .ret env s = K .ret env s) → (∀ i env s, K' (.exit i) env s = K (.exit i) env s) → den P cfg call n a K' env s = out) : den P cfg call n (.seq a b) K env s = out :=
  h1 (seqK P cfg call n b K) (fun env s h => h2 env s h) (fun _ _ => rfl) (fun _ _ _ => rfl)
end
set_option maxHeartbeats 8000000 in
theorem own_eq (n d : Nat) (hn : 100 ≤ n) (k : Int) (b : Bool) (lg : Gk) (l : List Nat) (hl : Limbs l) (s : List UInt8) (m : Int) (kg : Gk) (ks : List T) :
    evalFn Tryd.prog cfg0 n (d+2) 46 [.tree (encT (.mk k b lg l s m kg ks))] = some (.tree (.bool (ownT (.mk k b lg l s m kg ks))), [[]]) := by
  rw [evalFn_go _ Tryd.func46 (by unfold Tryd.f46; rfl) (by unfold Tryd.f46; decide) (Nat.le_of_ble_eq_true (by unfold Tryd.f46; rfl)) (by kernel_rfl)]
  have c1 := callQ_trees (f := 68) (vs := [.agg [.bool b, encL lg l]]) rfl (zeroN_eq n d b lg l)
  have c2 := fun D st => callA_trees (cfg := cfg0) (d := D) (s := st) (f := 68) (vs := [.agg [.bool b, encL lg l]]) rfl (zeroN_eq n d b lg l)
  have c3 := fun D st => callA_trees (cfg := cfg0) (d := D) (s := st) (f := 69) (vs := [.agg [.bool b, encL lg l]]) rfl (check_eq n d b lg l hl)
  have c4 := fun D st => callA_trees (cfg := cfg0) (d := D) (s := st) (f := 70) (vs := [.str s]) rfl (name_eq n d hn s)
  by_cases hk : 1 ≤ k ∧ k ≤ 6
  · rw [den_assoc, den_assoc]
    refine seq_cut (fun env st => env 1 = .ptr 1 1 0 ∧ st 1 = ⟨1, .buf (cellsT (.mk k b lg l s m kg ks))⟩ ∧ env 3 = .bool (if k = 1 then chkN b l else zeroB b l) ∧ env 4 = .bool (if k = 2 then nameB s else if k = 6 then decide (s.length ≤ 400) else s == []) ∧ env 5 = .bool (if k = 4 then decide (ks.length = 2) else if k = 5 then decide (ks.length ≤ 40) else decide (ks.length = 0))) ?_ ?_
    · intro env st ⟨e1, j1, e3, e4, e5⟩
      have hr : ownT (.mk k b lg l s m kg ks) = ((if k = 1 then chkN b l else zeroB b l) && (if k = 2 then nameB s else if k = 6 then decide (s.length ≤ 400) else s == []) && (if k = 4 then decide (ks.length = 2) else if k = 5 then decide (ks.length ≤ 40) else decide (ks.length = 0)) && decide (m = 0)) := by
        simp only [ownT]; rw [decide_eq_true hk, Bool.true_and]
      rw [hr]
      generalize (if k = 1 then chkN b l else zeroB b l) = x3 at *
      generalize (if k = 2 then nameB s else if k = 6 then decide (s.length ≤ 400) else s == []) = x4 at *
      generalize (if k = 4 then decide (ks.length = 2) else if k = 5 then decide (ks.length ≤ 40) else decide (ks.length = 0)) = x5 at *
      cases x3 <;> cases x4 <;> cases x5 <;>
      · simp only [simB, zbo, Nat.reduceBEq, own0, ↓reduceIte, Nat.reduceEqDiff, Nat.reduceAdd, simA, simL, zex, List.toList_toArray, len9, ix9, zey, zez, zfa, zfb, zfc, simN, Nat.zero_add, e1, j1, e3, e4, e5, cellsT, faT_0, faT_1, faT_2, faT_3, faT_4, ldT_0, ldT_1, ldT_2, ldT_3, ldT_4, i_eqlV, intEq0]
        exact finish_b _ _ _ _ _ _ _ ((by simp only [zfk, ↓reduceIte, Nat.reduceEqDiff]; try rfl)) rfl
    · intro K hN hR hE
      have hc : k = 1 ∨ k = 2 ∨ k = 3 ∨ k = 4 ∨ k = 5 ∨ k = 6 := by omega
      rcases hc with rfl | rfl | rfl | rfl | rfl | rfl <;>
      · simp only [simB, zbo, Nat.reduceBEq, own0, ↓reduceIte, Nat.reduceEqDiff, Nat.reduceAdd, simA, simL, zex, List.toList_toArray, len9, ix9, zey, zez, zfa, zfb, zfc, simN, Nat.zero_add, encT, cellsT, faT_0, faT_1, faT_2, faT_3, faT_4, ldT_0, ldT_1, ldT_2, ldT_3, ldT_4, c1, c2, c3, c4, lenTk, i_eqlV, i_leqV, Int.reduceBEq]
        refine hN _ _ ⟨(by simp only [zfk, ↓reduceIte, Nat.reduceEqDiff]; try rfl), (by simp only [zfk, ↓reduceIte, Nat.reduceEqDiff]; try rfl), ?_, ?_, ?_⟩
        · first | (simp only [zfk, ↓reduceIte, Nat.reduceEqDiff, Int.reduceEq]; done) | (simp only [zfk, ↓reduceIte, Nat.reduceEqDiff, Int.reduceEq]; rfl)
        · first | (simp only [zfk, ↓reduceIte, Nat.reduceEqDiff, Int.reduceEq, natEq0, natEq2]; done) | (simp only [zfk, ↓reduceIte, Nat.reduceEqDiff, Int.reduceEq, natEq0, natEq2]; rfl) | (simp [zfk]; done) | (simp [zfk]; omega)
        · first | (simp only [zfk, ↓reduceIte, Nat.reduceEqDiff, Int.reduceEq, natEq0, natEq2]; done) | (simp only [zfk, ↓reduceIte, Nat.reduceEqDiff, Int.reduceEq, natEq0, natEq2]; rfl) | (simp [zfk, natEq0, natEq2]; done) | (simp [zfk, natEq0, natEq2]; omega)
  · have hr : ownT (.mk k b lg l s m kg ks) = false := by simp only [ownT]; rw [decide_eq_false hk, Bool.false_and]
    rw [hr]
    have n1 : (k == 1) = false := by rw [beq_eq_false_iff_ne]; omega
    have n2 : (k == 2) = false := by rw [beq_eq_false_iff_ne]; omega
    have n3 : (k == 3) = false := by rw [beq_eq_false_iff_ne]; omega
    have n4 : (k == 4) = false := by rw [beq_eq_false_iff_ne]; omega
    have n5 : (k == 5) = false := by rw [beq_eq_false_iff_ne]; omega
    have n6 : (k == 6) = false := by rw [beq_eq_false_iff_ne]; omega
    simp only [simB, zbo, Nat.reduceBEq, own0, ↓reduceIte, Nat.reduceEqDiff, Nat.reduceAdd, simA, simL, zex, List.toList_toArray, len9, ix9, zey, zez, zfa, zfb, zfc, simN, Nat.zero_add, encT, cellsT, faT_0, faT_1, faT_2, faT_3, faT_4, ldT_0, ldT_1, ldT_2, ldT_3, ldT_4, c1, c2, c3, c4, lenTk, i_eqlV, n1, n2, n3, n4, n5, n6]
    exact finish_b _ _ _ _ _ _ _ ((by simp only [zfk, ↓reduceIte, Nat.reduceEqDiff]; try rfl)) rfl
end Go.Ab

/- term.check. Conditions: limbs in range; so many nodes at most. -/
namespace Go.Ab
open Go.Proofs
set_option maxRecDepth 100000
set_option linter.unusedSimpArgs false

mutual
def chkT : T → Int → Int → Bool × Int
  | .mk k b lg l s n kg ks, deep, left =>
    if left - 1 < 0 ∨ deep > 60 ∨ ownT (.mk k b lg l s n kg ks) = false then (false, left - 1)
    else if k = 4 then chkC ks deep (left - 1) else chkK ks (deep + 1) (left - 1)
def chkC : List T → Int → Int → Bool × Int
  | [], _, left => (false, left)
  | h :: r, deep, left => if (chkT h (deep + 1) left).1 = true then chkL r deep (chkT h (deep + 1) left).2 else chkT h (deep + 1) left
def chkL : List T → Int → Int → Bool × Int
  | [], _, left => (false, left)
  | t :: _, deep, left => chkT t deep left
def chkK : List T → Int → Int → Bool × Int
  | [], _, left => (true, left)
  | t :: r, deep, left => if (chkT t deep left).1 = true then chkK r deep (chkT t deep left).2 else chkT t deep left
end
theorem own_kids {k : Int} {b : Bool} {lg : Gk} {l : List Nat} {s : List UInt8} {n : Int} {kg : Gk} {ks : List T} (h : ownT (.mk k b lg l s n kg ks) = true) (hk : k = 4) : ∃ x y, ks = [x, y] := by
  subst hk
  simp only [ownT, ↓reduceIte, Bool.and_eq_true, decide_eq_true_eq] at h
  match ks, h.2.1.2 with
  | [x, y], _ => exact ⟨x, y, rfl⟩
mutual
theorem chkT_nod : ∀ (t : T) (deep left : Int), (chkT t deep left).1 = true → (chkT t deep left).2 = left - nodT t ∧ 0 ≤ (chkT t deep left).2
  | .mk k b lg l s n kg ks, deep, left => by
    simp only [chkT, nodT]
    split
    · intro h; cases h
    · rename_i h
      split
      · rename_i hk
        have ho : ownT (.mk k b lg l s n kg ks) = true := by
          cases h0 : ownT (.mk k b lg l s n kg ks)
          · exact absurd (.inr (.inr h0)) h
          · rfl
        obtain ⟨x, y, rfl⟩ := own_kids ho hk
        intro hc
        have := chkC_nod [x, y] deep (left - 1) rfl hc
        omega
      · intro hc
        have := chkK_nod ks (deep + 1) (left - 1) (by omega) hc
        omega
theorem chkC_nod : ∀ (ks : List T) (deep left : Int), ks.length = 2 → (chkC ks deep left).1 = true → (chkC ks deep left).2 = left - nodK ks ∧ 0 ≤ (chkC ks deep left).2
  | [], deep, left, _ => by intro h; cases h
  | h :: r, deep, left, hl => by
    simp only [chkC, nodK]
    split
    · rename_i h1
      have a := chkT_nod h (deep + 1) left h1
      intro h2
      have b := chkL_nod r deep _ (by simpa using hl) h2
      omega
    · rename_i h1; intro h2; exact absurd h2 h1
theorem chkL_nod : ∀ (ks : List T) (deep left : Int), ks.length = 1 → (chkL ks deep left).1 = true → (chkL ks deep left).2 = left - nodK ks ∧ 0 ≤ (chkL ks deep left).2
  | [], deep, left, _ => by intro h; cases h
  | t :: r, deep, left, hl => by
    have hr : r = [] := by
      cases r with
      | nil => rfl
      | cons _ _ => simp at hl
    subst hr
    simp only [chkL, nodK, Nat.add_zero]
    exact chkT_nod t deep left
theorem chkK_nod : ∀ (ks : List T) (deep left : Int), 0 ≤ left → (chkK ks deep left).1 = true → (chkK ks deep left).2 = left - nodK ks ∧ 0 ≤ (chkK ks deep left).2
  | [], deep, left, h0 => by intro _; simp only [chkK, nodK]; omega
  | t :: r, deep, left, h0 => by
    simp only [chkK, nodK]
    split
    · rename_i h1
      have a := chkT_nod t deep left h1
      intro h2
      have b := chkK_nod r deep _ a.2 h2
      omega
    · rename_i h1; intro h2; exact absurd h2 h1
end
end Go.Ab

/- term.check, walked. Conditions: limbs in range; so many nodes at most. -/
namespace Go.Ab
open Go.Proofs
set_option maxRecDepth 100000
set_option linter.unusedSimpArgs false

theorem ldI1 (t k : Nat) (a : AV) : ldE Tryd.prog 3 ⟨t, .buf [a]⟩ k 0 = if t = k then some a else none := by
  rw [ldE_buf, cellsE_buf]
  by_cases h : t = k
  · simp [h, partA, shTi]
  · simp [h]
def stI (e : Ent) (p k : Nat) (s : St) (v : AV) : Option St :=
  match e with | ⟨t', .buf xs⟩ => if t' = k then (if 0 < xs.length then some (upd s p ⟨t', .buf (xs.set 0 v)⟩) else none) else none | _ => none
theorem st_I (s : St) (p k : Nat) (kd : IntKind) (z : Int) : storeA Tryd.prog 3 s (.ptr p k 0) (.int kd z) = stI (s p) p k s (.int kd z) := by
  simp only [storeA, settle, Option.bind_some, stI]
  cases h : s p with
  | mk t c => cases c <;> simp [eszTi, cellOk]
theorem stI_buf (t k p : Nat) (s : St) (a v : AV) : stI ⟨t, .buf [a]⟩ p k s v = if t = k then some (upd s p ⟨t, .buf [v]⟩) else none := by
  simp [stI]
theorem sl_K1 (s : St) (h u : T) (g : Grip) : sliceA Tryd.prog 26 s (.sl (cellsK [h, u]) 2 g) none (some (.int .i64 1)) none = some (.sl (cellsK [h]) 1 .loose) := by
  have e : (cellsK [h, u]).length = 2 * 6 := cellsK_len [h, u]
  have e2 : (cellsK [h, u]).take (1 * 6) = cellsK [h] := cellsK_take [h, u] 1
  simp only [sliceA, tkTk, boundA, eszT, Option.isSome_none, Bool.false_eq_true, false_and, if_false, Option.bind_some]
  rw [if_pos (by decide)]
  simp only [Option.bind_some, e, ↓reduceIte]
  have e3 : (Int.toNat 1) * 6 = 1 * 6 := rfl
  rw [e3, e2]
  simp
theorem stT_len (e : Ent) (p k : Nat) (s : St) (ys : List AV) (t : Nat) (xs : List AV) (he : e = ⟨t, .buf xs⟩) (h1 : xs.length = 6) (h2 : ys.length = 6) : stT e p k s ys = if t = k then some (upd s p ⟨t, .buf ys⟩) else none := by
  subst he
  have h3 : splice xs 0 ys = ys := by
    simp only [splice, List.take_zero, List.nil_append, Nat.zero_add, h2]
    rw [List.drop_eq_nil_of_le (by omega), List.append_nil]
  simp only [stT, h1, h2, Nat.le_refl, ↓reduceIte, h3]
theorem st_Tt (s : St) (p k : Nat) (u : T) : storeA Tryd.prog 28 s (.ptr p k 0) (.agg (cellsT u)) = stT (s p) p k s (cellsT u) := by
  obtain ⟨a, b, c, d, e, f, g, h⟩ := u
  simp only [cellsT]
  exact st_T s p k _ _ _ _ _ _
theorem stT_6 (t k p : Nat) (s : St) (a b c d e f : AV) (u : T) : stT ⟨t, .buf [a, b, c, d, e, f]⟩ p k s (cellsT u) = if t = k then some (upd s p ⟨t, .buf (cellsT u)⟩) else none :=
  stT_len _ _ _ _ _ _ _ rfl rfl (cellsT_len u)
theorem ldT_u (t k : Nat) (u : T) : ldE Tryd.prog 28 ⟨t, .buf (cellsT u)⟩ k 0 = if t = k then some (.agg (cellsT u)) else none := by
  obtain ⟨a, b, c, d, e, f, g, h⟩ := u
  simp only [cellsT]
  exact ldT_a _ _ _ _ _ _ _ _
theorem callA_tip {cfg : Cfg} {call : FuncId → List Arg → Option Out} {D : Nat} {f : FuncId} {xs ys o : List AV} {kd : IntKind} {z : Int} {r : AV} (hc : call f [.tree (.agg ys), .tree (.int kd z), .ptr xs 0] = some (.tree r, [[], [], o])) (s : St) (p t : Nat) (hs : s p = ⟨t, .buf xs⟩) :
    callA cfg call D s f [.agg ys, .int kd z, .ptr p t 0] = some (r, upd s p ⟨t, .buf o⟩) := by
  simp [callA, argsA, argA, hs, givesL, givesOf, lendsL, lendsOf, hc, backA, resA]
theorem outs_3 (a b : AV) (xs ys : List AV) (s : St) (h : s 2 = ⟨0, .buf ys⟩) : outsA s 0 [.tree a, .tree b, .ptr xs 0] = some [[], [], ys] := by
  simp only [outsA, h, Option.bind_some, Option.map_some]
set_option maxHeartbeats 16000000 in
theorem tcheck_eq (n : Nat) (hn : 100 ≤ n) (hn2 : n ≤ 1000000) : ∀ (d : Nat) (t0 : T) (deep l0 : Int), htT t0 ≤ d → nodT t0 < n → wfT t0 → 0 ≤ deep → deep ≤ 1000 → 0 ≤ l0 → l0 ≤ 1000000 →
    evalFn Tryd.prog cfg0 n (d+3) 24 [.tree (encT t0), .tree (.int .i64 deep), .ptr [.int .i64 l0] 0] = some (.tree (.bool (chkT t0 deep l0).1), [[], [], [.int .i64 (chkT t0 deep l0).2]])
  | d, t0, deep, l0, hd, hnd, hw, h1, h2, h3, h4 => by
    have IH : ∀ (t : T) (deep l0 : Int), htT t + 1 ≤ d → nodT t < n → wfT t → 0 ≤ deep → deep ≤ 1000 → 0 ≤ l0 → l0 ≤ 1000000 →
      evalFn Tryd.prog cfg0 n (d+2) 24 [.tree (encT t), .tree (.int .i64 deep), .ptr [.int .i64 l0] 0] = some (.tree (.bool (chkT t deep l0).1), [[], [], [.int .i64 (chkT t deep l0).2]]) := by
      intro t deep l0 g1 g2 g3 g4 g5 g6 g7
      match d, g1 with
      | d + 1, g1 => exact tcheck_eq n hn hn2 d t deep l0 (by omega) g2 g3 g4 g5 g6 g7
    rw [evalFn_go _ Tryd.func24 (by unfold Tryd.f24; rfl) (by unfold Tryd.f24; decide) (Nat.le_of_ble_eq_true (by unfold Tryd.f24; rfl)) (by kernel_rfl)]
    simp only [simB, zbo, Nat.reduceBEq, own0, ↓reduceIte, Nat.reduceEqDiff, Nat.reduceAdd, simA, simN, Nat.zero_add, encT, den_loop]
    refine loop_ends (X := T × Int) (fun x env s => env 1 = .int .i64 deep ∧ env 2 = .ptr 2 0 0 ∧ env 3 = .ptr 3 1 0 ∧ s 3 = ⟨1, .buf (cellsT x.1)⟩ ∧ s 2 = ⟨0, .buf [.int .i64 x.2]⟩ ∧ htT x.1 ≤ d ∧ nodT x.1 < n ∧ wfT x.1 ∧ 0 ≤ x.2 ∧ x.2 ≤ 1000000) (fun x => nodT x.1) (fun x => (.tree (.bool (chkT x.1 deep x.2).1), [[], [], [.int .i64 (chkT x.1 deep x.2).2]])) ?_ n (t0, l0) _ _ hnd ⟨(by simp only [zfk, ↓reduceIte, Nat.reduceEqDiff]; try rfl), (by simp only [zfk, ↓reduceIte, Nat.reduceEqDiff]; try rfl), (by simp only [zfk, ↓reduceIte, Nat.reduceEqDiff]; try rfl), (by simp only [zfk, ↓reduceIte, Nat.reduceEqDiff]; try rfl), (by simp only [zfk, ↓reduceIte, Nat.reduceEqDiff]; try rfl), hd, hnd, hw, h3, h4⟩
    rintro rd ⟨t, left⟩ hrd ih env st ⟨e1, e2, e3, j3, j2, hht, hnod, hwf, hl0, hl1⟩
    simp only at j3 j2 hht hnod hwf hl0 hl1
    obtain ⟨k, b, lg, l, s, m, kg, ks⟩ := t
    have hL : Limbs l := by simp only [wfT] at hwf; exact hwf.1
    have f0 := i_sub Tryd.prog 3 left 1 (by omega) (by omega)
    have co := fun D st => callA_trees (cfg := cfg0) (d := D) (s := st) (f := 46) (vs := [encT (.mk k b lg l s m kg ks)]) rfl (own_eq n d hn k b lg l hL s m kg ks)
    simp only [encT, cellsT] at co
    simp only [cellsT] at j3
    by_cases g1 : left - 1 < 0
    · have hr : chkT (.mk k b lg l s m kg ks) deep left = (false, left - 1) := by simp only [chkT]; rw [if_pos (.inl g1)]
      simp only [hr]
      simp only [simB, zbo, Nat.reduceBEq, own0, ↓reduceIte, Nat.reduceEqDiff, Nat.reduceAdd, simL, simN, Nat.zero_add, opA_nilc, nilE_ptr, cellsE_buf, Option.isSome_some, e1, e2, e3, j2, j3, ldI1, st_I, stI_buf, f0, g1]
      exact finish_b _ _ _ _ _ _ _ (by simp only [zfk, ↓reduceIte, Nat.reduceEqDiff]; try rfl) (outs_3 _ _ _ _ _ (by simp only [zfk, ↓reduceIte, Nat.reduceEqDiff]; try rfl))
    by_cases g2 : deep > 60
    · have hr : chkT (.mk k b lg l s m kg ks) deep left = (false, left - 1) := by simp only [chkT]; rw [if_pos (.inr (.inl g2))]
      simp only [hr]
      simp only [simB, zbo, Nat.reduceBEq, own0, ↓reduceIte, Nat.reduceEqDiff, Nat.reduceAdd, simL, simN, Nat.zero_add, opA_nilc, nilE_ptr, cellsE_buf, Option.isSome_some, e1, e2, e3, j2, j3, ldI1, st_I, stI_buf, f0, g1, g2]
      exact finish_b _ _ _ _ _ _ _ (by simp only [zfk, ↓reduceIte, Nat.reduceEqDiff]; try rfl) (outs_3 _ _ _ _ _ (by simp only [zfk, ↓reduceIte, Nat.reduceEqDiff]; try rfl))
    cases g3 : ownT (.mk k b lg l s m kg ks) with
    | false =>
      have hr : chkT (.mk k b lg l s m kg ks) deep left = (false, left - 1) := by simp only [chkT]; rw [if_pos (.inr (.inr g3))]
      rw [g3] at co
      simp only [hr]
      simp only [simB, zbo, Nat.reduceBEq, own0, ↓reduceIte, Nat.reduceEqDiff, Nat.reduceAdd, simL, simN, Nat.zero_add, opA_nilc, nilE_ptr, cellsE_buf, Option.isSome_some, e1, e2, e3, j2, j3, ldI1, st_I, stI_buf, f0, g1, g2, ldT_a, co, unA_not', Bool.not_false]
      exact finish_b _ _ _ _ _ _ _ (by simp only [zfk, ↓reduceIte, Nat.reduceEqDiff]; try rfl) (outs_3 _ _ _ _ _ (by simp only [zfk, ↓reduceIte, Nat.reduceEqDiff]; try rfl))
    | true =>
      rw [g3] at co
      have hg : ¬ (left - 1 < 0 ∨ deep > 60 ∨ ownT (.mk k b lg l s m kg ks) = false) := by rw [g3]; simp only [g1, g2, false_or]; decide
      have hgo : ∀ (K : Kont) (env : Env) (st : St) (i : Nat) (kid : T) (r : List T) (kl : List T), kl.drop i = kid :: r → i < kl.length := by
        intro K env st i kid r kl hd
        have := congrArg List.length hd
        simp only [List.length_drop, List.length_cons] at this
        omega
      by_cases hk : k = 4
      · obtain ⟨x, y, rfl⟩ := own_kids g3 hk
        subst hk
        have hwk : wfK [x, y] := by simp only [wfT] at hwf; exact hwf.2
        simp only [wfK, and_true] at hwk
        have hhk : max (htT x) (htT y) + 1 ≤ d := by simp only [htT, htK] at hht; omega
        have hnk : nodT x + nodT y + 1 < n := by simp only [nodT, nodK] at hnod; omega
        have hnk2 : nodT (.mk 4 b lg l s m kg [x, y]) = nodT x + nodT y + 1 := by simp only [nodT, nodK]; omega
        have hr : chkT (.mk 4 b lg l s m kg [x, y]) deep left = if (chkT x (deep + 1) (left - 1)).1 = true then chkT y deep (chkT x (deep + 1) (left - 1)).2 else chkT x (deep + 1) (left - 1) := by
          simp only [chkT]; rw [if_neg hg]; simp only [↓reduceIte, chkC, chkL]
        have hk' : ((4 : Int) == 4) = true := rfl
        simp only [List.length_cons, List.length_nil, Nat.zero_add, Nat.reduceAdd] at co
        have hk2 : ((4 : Int) != 4) = false := rfl
        have s1 := fun st => sl_K1 st x y (gr kg)
        have w1 : ∀ st, lenA Tryd.prog 26 st (.sl (cellsK [x]) 1 .loose) = some (.int .i64 1) := fun st => lenTk st _ 1 _
        simp only [simB, zbo, Nat.reduceBEq, own0, ↓reduceIte, Nat.reduceEqDiff, Nat.reduceAdd, simL, simN, Nat.zero_add, opA_nilc, nilE_ptr, cellsE_buf, Option.isSome_some, e1, e2, e3, j2, j3, ldI1, st_I, stI_buf, f0, g1, g2, ldT_a, co, unA_not', Bool.not_true, faT_0, faT_4, ldT_0, ldT_4, i_eqlV, hk', s1, w1, lenTk, den_loop, List.length_cons, List.length_nil, Nat.zero_add, Nat.reduceAdd]
        refine loop_ends (X := Bool) (fun z env s' => env 1 = .int .i64 deep ∧ env 2 = .ptr 2 0 0 ∧ env 3 = .ptr 3 1 0 ∧ env 35 = .sl (cellsK [x]) 1 .loose ∧ env 36 = .int .i64 1 ∧ env 37 = .int .i64 (if z = true then 1 else 0) ∧ s' 3 = ⟨1, .buf (cellsT (.mk 4 b lg l s m kg [x, y]))⟩ ∧ s' 2 = ⟨0, .buf [.int .i64 (if z = true then (chkT x (deep + 1) (left - 1)).2 else left - 1)]⟩ ∧ (z = true → (chkT x (deep + 1) (left - 1)).1 = true)) (fun z => if z = true then 0 else 1) (fun _ => (.tree (.bool (chkT (.mk 4 b lg l s m kg [x, y]) deep left).1), [[], [], [.int .i64 (chkT (.mk 4 b lg l s m kg [x, y]) deep left).2]])) ?_ n false _ _ (by simp only [Bool.false_eq_true, ↓reduceIte]; omega) ⟨(by simp only [zfk, ↓reduceIte, Nat.reduceEqDiff, e1]; try rfl), (by simp only [zfk, ↓reduceIte, Nat.reduceEqDiff, e2]; try rfl), (by simp only [zfk, ↓reduceIte, Nat.reduceEqDiff, e3]; try rfl), (by simp only [zfk, ↓reduceIte, Nat.reduceEqDiff]; try rfl), (by simp only [zfk, ↓reduceIte, Nat.reduceEqDiff]; try rfl), (by simp only [zfk, ↓reduceIte, Nat.reduceEqDiff]; try rfl), by simp only [cellsT]; exact (by simp only [zfk, ↓reduceIte, Nat.reduceEqDiff, j3]; try rfl), (by simp only [zfk, ↓reduceIte, Nat.reduceEqDiff]; try rfl), by intro h; cases h⟩
        rintro rr (_ | _) hrr ih2 env st ⟨e1, e2, e3, e35, e36, e37, j3, j2, hz⟩
        · simp only [Bool.false_eq_true, ↓reduceIte] at e37 j2
          have q1 : (0 : Int) < 1 := by decide
          have f5 := i_add Tryd.prog 3 0 1 (by omega) (by omega)
          have f6 := i_add Tryd.prog 3 deep 1 (by omega) (by omega)
          have cc := fun D => callA_tip (cfg := cfg0) (D := D) (IH x (deep + 1) (left - 1) (by omega) (by omega) hwk.1 (by omega) (by omega) (by omega) (by omega))
          have ia : ∀ st, indexAddrA Tryd.prog 26 st (.sl (cellsK [x]) 1 .loose) (.int .i64 0) = some (.rptr (cellsK [x])) := fun st => ia_K st [x] .loose 0 (Nat.zero_lt_succ _)
          have ld := fun st => ld_K st x []
          simp only [encT] at ld
          cases hx : (chkT x (deep + 1) (left - 1)).1 with
          | false =>
            rw [hx] at hr cc
            simp only [Bool.false_eq_true, ↓reduceIte] at hr
            rw [hr, hx]
            simp only [simB, zbo, Nat.reduceBEq, own0, ↓reduceIte, Nat.reduceEqDiff, Nat.reduceAdd, simL, simN, Nat.zero_add, opA_nilc, nilE_ptr, cellsE_buf, Option.isSome_some, e1, e2, e3, e35, e36, e37, j2, j3, q1, ia, ld, zeroT, st_Tt, stT_6, ldT_u, f6, cc, unA_not', Bool.not_false]
            exact finish_b _ _ _ _ _ _ _ (by simp only [zfk, ↓reduceIte, Nat.reduceEqDiff]; try rfl) (outs_3 _ _ _ _ _ (by simp only [zfk, ↓reduceIte, Nat.reduceEqDiff]; try rfl))
          | true =>
            rw [hx] at cc
            simp only [simB, zbo, Nat.reduceBEq, own0, ↓reduceIte, Nat.reduceEqDiff, Nat.reduceAdd, simL, simN, Nat.zero_add, opA_nilc, nilE_ptr, cellsE_buf, Option.isSome_some, e1, e2, e3, e35, e36, e37, j2, j3, q1, ia, ld, zeroT, st_Tt, stT_6, ldT_u, f6, cc, unA_not', Bool.not_true, f5]
            exact ih2 true _ _ (by decide) rfl ⟨(by simp only [zfk, ↓reduceIte, Nat.reduceEqDiff, e1]; try rfl), (by simp only [zfk, ↓reduceIte, Nat.reduceEqDiff, e2]; try rfl), (by simp only [zfk, ↓reduceIte, Nat.reduceEqDiff, e3]; try rfl), (by simp only [zfk, ↓reduceIte, Nat.reduceEqDiff, e35]; try rfl), (by simp only [zfk, ↓reduceIte, Nat.reduceEqDiff, e36]; try rfl), (by simp only [zfk, ↓reduceIte, Nat.reduceEqDiff]; try rfl), (by simp only [zfk, ↓reduceIte, Nat.reduceEqDiff, j3]; try rfl), (by simp only [zfk, ↓reduceIte, Nat.reduceEqDiff]; try rfl), fun _ => hx⟩
        · simp only [↓reduceIte] at e37 j2
          have hx := hz rfl
          have hcn := chkT_nod x (deep + 1) (left - 1) hx
          rw [hx] at hr
          simp only [↓reduceIte] at hr
          have q1 : ¬ (1 : Int) < 1 := by decide
          have ia : ∀ st, indexAddrA Tryd.prog 26 st (.sl (cellsK [x, y]) 2 (gr kg)) (.int .i64 1) = some (.rptr (cellsK [y])) := fun st => ia_K st [x, y] (gr kg) 1 (Nat.lt_succ_self _)
          have ld := fun st => ld_K st y []
          simp only [encT] at ld
          simp only [cellsT] at j3
          simp only [simB, zbo, Nat.reduceBEq, own0, ↓reduceIte, Nat.reduceEqDiff, Nat.reduceAdd, simL, simN, Nat.zero_add, opA_nilc, nilE_ptr, cellsE_buf, Option.isSome_some, e1, e2, e3, e35, e36, e37, j2, j3, q1, faT_0, faT_4, ldT_0, ldT_4, hk2, ia, ld, st_Tt, stT_6, List.length_cons, List.length_nil, Nat.zero_add, Nat.reduceAdd]
          exact ih (y, (chkT x (deep + 1) (left - 1)).2) _ _ (by simp only; omega) (by simp only [hr]) ⟨(by simp only [zfk, ↓reduceIte, Nat.reduceEqDiff, e1]; try rfl), (by simp only [zfk, ↓reduceIte, Nat.reduceEqDiff, e2]; try rfl), (by simp only [zfk, ↓reduceIte, Nat.reduceEqDiff, e3]; try rfl), (by simp only [zfk, ↓reduceIte, Nat.reduceEqDiff]; try rfl), (by simp only [zfk, ↓reduceIte, Nat.reduceEqDiff, j2]; try rfl), by simp only; omega, by simp only; omega, hwk.2, by simp only; omega, by simp only; omega⟩
      · have hr : chkT (.mk k b lg l s m kg ks) deep left = chkK ks (deep + 1) (left - 1) := by simp only [chkT]; rw [if_neg hg, if_neg hk]
        have hk' : (k == 4) = false := by rw [beq_eq_false_iff_ne]; exact hk
        have hk2 : (k != 4) = true := by rw [bne, hk']; rfl
        have hwk : wfK ks := by simp only [wfT] at hwf; exact hwf.2
        have hhk : htK ks + 1 ≤ d := by simp only [htT] at hht; exact hht
        have hnk : nodK ks + 1 < n := by simp only [nodT] at hnod; exact hnod
        simp only [hr]
        generalize hR : chkK ks (deep + 1) (left - 1) = R
        simp only [simB, zbo, Nat.reduceBEq, own0, ↓reduceIte, Nat.reduceEqDiff, Nat.reduceAdd, simL, simN, Nat.zero_add, opA_nilc, nilE_ptr, cellsE_buf, Option.isSome_some, e1, e2, e3, j2, j3, ldI1, st_I, stI_buf, f0, g1, g2, ldT_a, co, unA_not', Bool.not_true, faT_0, faT_4, ldT_0, ldT_4, i_eqlV, hk', lenTk, den_loop]
        refine loop_ends (X := Nat × Int) (fun x env s' => env 1 = .int .i64 deep ∧ env 2 = .ptr 2 0 0 ∧ env 3 = .ptr 3 1 0 ∧ env 35 = .sl (cellsK ks) ks.length (gr kg) ∧ env 36 = .int .i64 (ks.length : Int) ∧ env 37 = .int .i64 (x.1 : Int) ∧ s' 3 = ⟨1, .buf (cellsT (.mk k b lg l s m kg ks))⟩ ∧ s' 2 = ⟨0, .buf [.int .i64 x.2]⟩ ∧ x.1 ≤ ks.length ∧ 0 ≤ x.2 ∧ x.2 ≤ 1000000 ∧ chkK (ks.drop x.1) (deep + 1) x.2 = R) (fun x => ks.length - x.1) (fun _ => (.tree (.bool R.1), [[], [], [.int .i64 R.2]])) ?_ n (0, left - 1) _ _ (by have := nodK_len ks; simp only; omega) ⟨(by simp only [zfk, ↓reduceIte, Nat.reduceEqDiff, e1]; try rfl), (by simp only [zfk, ↓reduceIte, Nat.reduceEqDiff, e2]; try rfl), (by simp only [zfk, ↓reduceIte, Nat.reduceEqDiff, e3]; try rfl), (by simp only [zfk, ↓reduceIte, Nat.reduceEqDiff]; try rfl), (by simp only [zfk, ↓reduceIte, Nat.reduceEqDiff]; try rfl), (by simp only [zfk, ↓reduceIte, Nat.reduceEqDiff]; try rfl), by simp only [cellsT]; exact (by simp only [zfk, ↓reduceIte, Nat.reduceEqDiff, j3]; try rfl), (by simp only [zfk, ↓reduceIte, Nat.reduceEqDiff]; try rfl), Nat.zero_le _, by simp only; omega, by simp only; omega, hR⟩
        rintro rr ⟨i, lf⟩ hrr ih2 env st ⟨e1, e2, e3, e35, e36, e37, j3, j2, hi, hlf0, hlf1, hc⟩
        simp only at e37 j2 hi hlf0 hlf1 hc
        cases hd : ks.drop i with
        | nil =>
          have hil : i = ks.length := by have := congrArg List.length hd; simp only [List.length_drop, List.length_nil] at this; omega
          rw [hd] at hc
          simp only [chkK] at hc
          subst hc
          have q1 : ¬ ((i : Int) < (ks.length : Int)) := by omega
          simp only [cellsT] at j3
          simp only [simB, zbo, Nat.reduceBEq, own0, ↓reduceIte, Nat.reduceEqDiff, Nat.reduceAdd, simL, simN, Nat.zero_add, opA_nilc, nilE_ptr, cellsE_buf, Option.isSome_some, e1, e2, e3, e35, e36, e37, j2, j3, q1, faT_0, faT_4, ldT_0, ldT_4, hk2]
          exact finish_b _ _ _ _ _ _ _ (by simp only [zfk, ↓reduceIte, Nat.reduceEqDiff]; try rfl) (outs_3 _ _ _ _ _ (by simp only [zfk, ↓reduceIte, Nat.reduceEqDiff, j2]; try rfl))
        | cons kid r =>
          have hil : i < ks.length := by have := congrArg List.length hd; simp only [List.length_drop, List.length_cons] at this; omega
          rw [hd] at hc
          simp only [chkK] at hc
          have q1 : (i : Int) < (ks.length : Int) := by omega
          have f5 := i_add Tryd.prog 3 (i : Int) 1 (by omega) (by have := nodK_len ks; omega)
          have f6 := i_add Tryd.prog 3 deep 1 (by omega) (by omega)
          have kh := kids_ht ks i kid r hd
          have kn := kids_nod ks i kid r hd
          have kw := kids_wf ks i kid r hd hwk
          have cc := fun D => callA_tip (cfg := cfg0) (D := D) (IH kid (deep + 1) lf (by omega) (by omega) kw (by omega) (by omega) hlf0 hlf1)
          have ia := fun st => ia_K st ks (gr kg) i hil
          rw [hd] at ia
          have ld := fun st => ld_K st kid r
          simp only [encT] at ld
          cases hx : (chkT kid (deep + 1) lf).1 with
          | false =>
            rw [hx] at hc cc
            simp only [Bool.false_eq_true, ↓reduceIte] at hc
            rw [← hc, hx]
            simp only [simB, zbo, Nat.reduceBEq, own0, ↓reduceIte, Nat.reduceEqDiff, Nat.reduceAdd, simL, simN, Nat.zero_add, opA_nilc, nilE_ptr, cellsE_buf, Option.isSome_some, e1, e2, e3, e35, e36, e37, j2, j3, q1, ia, ld, zeroT, st_Tt, stT_6, ldT_u, f6, cc, unA_not', Bool.not_false]
            exact finish_b _ _ _ _ _ _ _ (by simp only [zfk, ↓reduceIte, Nat.reduceEqDiff]; try rfl) (outs_3 _ _ _ _ _ (by simp only [zfk, ↓reduceIte, Nat.reduceEqDiff]; try rfl))
          | true =>
            rw [hx] at hc cc
            simp only [↓reduceIte] at hc
            have hcn := chkT_nod kid (deep + 1) lf hx
            simp only [simB, zbo, Nat.reduceBEq, own0, ↓reduceIte, Nat.reduceEqDiff, Nat.reduceAdd, simL, simN, Nat.zero_add, opA_nilc, nilE_ptr, cellsE_buf, Option.isSome_some, e1, e2, e3, e35, e36, e37, j2, j3, q1, ia, ld, zeroT, st_Tt, stT_6, ldT_u, f6, cc, unA_not', Bool.not_true, f5]
            refine ih2 (i + 1, (chkT kid (deep + 1) lf).2) _ _ (by simp only; omega) rfl ⟨?_, ?_, ?_, ?_, ?_, ?_, ?_, ?_, by simp only; omega, by simp only; omega, by simp only; omega, by simp only; rw [drop_next hd]; exact hc⟩
            · simp only [zfk, ↓reduceIte, Nat.reduceEqDiff, e1]
            · simp only [zfk, ↓reduceIte, Nat.reduceEqDiff, e2]
            · simp only [zfk, ↓reduceIte, Nat.reduceEqDiff, e3]
            · simp only [zfk, ↓reduceIte, Nat.reduceEqDiff, e35]
            · simp only [zfk, ↓reduceIte, Nat.reduceEqDiff, e36]
            · simp only [zfk, ↓reduceIte, Nat.reduceEqDiff]; rfl
            · simp only [zfk, ↓reduceIte, Nat.reduceEqDiff, j3]
            · simp only [zfk, ↓reduceIte, Nat.reduceEqDiff]
end Go.Ab

/- term.Check, term.Nodes. Conditions: limbs in range; so many nodes at most. -/
namespace Go.Ab
open Go.Proofs
set_option maxRecDepth 100000
set_option linter.unusedSimpArgs false

theorem zeroI : zeroOf Tryd.prog 3 = some [.int .i64 0] := by kernel_rfl
theorem tCheck_eq (n : Nat) (hn : 100 ≤ n) (hn2 : n ≤ 1000000) (d : Nat) (t : T) (hd : htT t ≤ d) (hnd : nodT t < n) (hw : wfT t) :
    evalFn Tryd.prog cfg0 n (d+4) 10 [.tree (encT t)] = some (.tree (.bool (chkT t 1 2000).1), [[]]) := by
  rw [evalFn_go _ Tryd.func10 (by unfold Tryd.f10; rfl) (by unfold Tryd.f10; decide) (Nat.le_of_ble_eq_true (by unfold Tryd.f10; rfl)) (by kernel_rfl)]
  have cc := fun D => callA_tip (cfg := cfg0) (D := D) (tcheck_eq n hn hn2 d t 1 2000 hd hnd hw (by decide) (by decide) (by decide) (by decide))
  simp only [simB, zbo, Nat.reduceBEq, own0, ↓reduceIte, Nat.reduceEqDiff, Nat.reduceAdd, simA, simN, Nat.zero_add, encT, zeroI, st_I, stI_buf, ldT_u, cc]
  exact finish_b _ _ _ _ _ _ _ (by simp only [zfk, ↓reduceIte, Nat.reduceEqDiff]; try rfl) rfl
end Go.Ab

/- What comparing terms needs. No conditions but limbs in range. -/
namespace Go.Ab
open Go.Proofs
set_option maxRecDepth 100000
set_option linter.unusedSimpArgs false

def three (a b : Int) : Int := if a < b then -1 else if b < a then 1 else 0
theorem ld33 (s : St) (x : AV) (r : List AV) : loadA Tryd.prog 3 s (.rptr (x :: r)) = some x := by
  simp only [loadA, partA, shTi]
  rfl
theorem finish_cT (k : Bool) (xs : List Arg) (a p e : Nat) (u : T) (env : Env) (s : St) (os : List (List AV)) (ha : env a = .ptr p e 0) (hs : s p = ⟨e, .buf (cellsT u)⟩) (ho : outsA s 0 xs = some os) :
    finishP Tryd.prog k xs #[.cell a 28] env s = some (.tree (encT u), os) := by
  have hl : loadA Tryd.prog 28 s (env a) = some (.agg (cellsT u)) := by rw [ha, zeo, hs, ldT_u, if_pos rfl]
  simp [finishP, isTmpR, hl, settle, ho, encT]
theorem kid_eq (n d : Nat) (k : Int) (b : Bool) (lg : Gk) (l : List Nat) (s : List UInt8) (m : Int) (kg : Gk) (ks : List T) (i : Nat) (t : T) (r : List T) (hi : ks.drop i = t :: r) :
    evalFn Tryd.prog cfg0 n (d+1) 27 [.tree (encT (.mk k b lg l s m kg ks)), .tree (.int .i64 (i : Int))] = some (.tree (encT t), [[], []]) := by
  rw [evalFn_go _ Tryd.func27 (by unfold Tryd.f27; rfl) (by unfold Tryd.f27; decide) (Nat.le_of_ble_eq_true (by unfold Tryd.f27; rfl)) (by kernel_rfl)]
  have hil : i < ks.length := by have := congrArg List.length hi; simp only [List.length_drop, List.length_cons] at this; omega
  have q1 : (i : Int) < (ks.length : Int) := by omega
  have ia := fun st => ia_K st ks (gr kg) i hil
  rw [hi] at ia
  have ld := fun st => ld_K st t r
  simp only [encT] at ld
  simp only [simB, zbo, Nat.reduceBEq, own0, ↓reduceIte, Nat.reduceEqDiff, Nat.reduceAdd, simA, simL, simN, Nat.zero_add, encT, cellsT, zeroT, faT_4, ldT_4, lenTk, q1, ia, ld, st_Tt, stT_6]
  exact finish_cT _ _ _ _ _ t _ _ _ (by simp only [zfk, ↓reduceIte, Nat.reduceEqDiff]; try rfl) (by simp only [zfk, ↓reduceIte, Nat.reduceEqDiff]; try rfl) rfl
end Go.Ab

/- term.Cmp upon terms that may be. Conditions: terms that may be; so many nodes at most. -/
namespace Go.Ab
open Go.Proofs
set_option maxRecDepth 100000
set_option linter.unusedSimpArgs false

def kindT : T → Int
  | .mk k _ _ _ _ _ _ _ => k
def strT : T → List UInt8
  | .mk _ _ _ _ s _ _ _ => s
def kidsT : T → List T
  | .mk _ _ _ _ _ _ _ ks => ks
end Go.Ab

/- term.Cmp upon terms that may be, walked. Conditions: terms that may be; so many nodes at most. -/
namespace Go.Ab
open Go.Proofs
set_option maxRecDepth 100000
set_option linter.unusedSimpArgs false

end Go.Ab
