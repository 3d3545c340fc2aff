/- Several texts put together: AbbPr, AbbL1, AbM1, AbM2, AbbL2, AbbL3, AbbL4, AbM3, AbbL5, AbbL6, AbM4, AbbL7, AbM5, AbbL8, AbM6, AbbL9, AbM7, AbbL10, AbM8, AbbLg, AbMn1, AbbA1, AbFe. Conditions: as each part says. -/
import Derived.Test.YtpgnjcckmmkmkaaDoorAbBTuplesZ02
import Derived.Test.YtpgnjcckmmkmkaaDoorProg
import Derived.KernelRfl
import Derived.LoopNIn
import Derived.TacticsIn
import Derived.OwnWalkIn
import Derived.RangeFuncFrom
import Derived.RangeFuncLeaves
/- How the abstract run takes this program's functions; what is known of functions that are not run: strings.Join, term.List; bif.one of reverse by a run of its own, in which the terms of a list stay writable. No conditions. -/
namespace Go.Ab
open Go.Proofs
def primA (f : FuncId) (xs : List Arg) : Option Out := if f == 30 then joinP xs else if f == 55 then listP xs else none
/-- The run in which the terms of a list stay writable. -/
def cfg1 : Cfg := ⟨fun f j => f == 54 && j == 0, fun _ => false, primA, fun p => p == "term.go:236" || p == "relict/term.Items"⟩
def isRev : List Arg → Bool
  | [.tree (.str s), _] => s == [114, 101, 118, 101, 114, 115, 101]
  | _ => false
noncomputable def prim0 (f : FuncId) (xs : List Arg) : Option Out := if f == 30 then joinP xs else if f == 55 then listP xs else if f == 34 && isRev xs then evalFn Tryd.prog cfg1 100000 40 f xs else none
noncomputable def cfg0 : Cfg := ⟨fun _ _ => false, fun _ => false, prim0, fun _ => false⟩
theorem own0 (p : String) : cfg0.ownAt p = false := rfl
theorem zbo (f : FuncId) : cfg0.keep f = false := rfl
end Go.Ab

/- Lists of limbs as trees, and the operations upon them. Conditions: lengths and places in range. -/
namespace Go.Ab
open Go.Proofs
def encC (l : List Nat) : List AV := l.map fun (x : Nat) => .int .u32 (x : Int)
/-- What is known of the room behind a list: none, nothing, the list is nil. -/
inductive Gk where
  | t | l | n
def gr : Gk → Grip
  | .t => .tight
  | .l => .loose
  | .n => .nil
def encL (b : Gk) (l : List Nat) : AV := .sl (encC l) l.length (gr b)
theorem encC_len (l : List Nat) : (encC l).length = l.length := by simp [encC]
theorem encC_app (l m : List Nat) : encC (l ++ m) = encC l ++ encC m := by simp [encC]
theorem encC_get (l : List Nat) (i : Nat) (h : i < l.length) : (encC l)[i]? = some (.int .u32 ((l.getD i 0 : Nat) : Int)) := by
  simp [encC, List.getD, List.getElem?_eq_getElem h]
theorem encC_drop (l : List Nat) (i : Nat) : (encC l).drop i = encC (l.drop i) := by simp [encC]
theorem encC_take (l : List Nat) (i : Nat) : (encC l).take i = encC (l.take i) := by simp [encC]
theorem tk3 : tkOf Tryd.prog 3 = .int .i64 := by kernel_rfl
theorem tk4 : tkOf Tryd.prog 4 = .bool := by kernel_rfl
theorem tk22 : tkOf Tryd.prog 25 = .sl 49 := by kernel_rfl
theorem tk31 : tkOf Tryd.prog 49 = .int .u32 := by kernel_rfl
theorem tk40 : tkOf Tryd.prog 79 = .int .u64 := by kernel_rfl
theorem esz31 : esz Tryd.prog 49 = some 1 := by kernel_rfl
theorem by31 : byOf Tryd.prog 49 = 4 := by kernel_rfl
theorem sh31 : shOf Tryd.prog 49 = some (false, 1) := by kernel_rfl
theorem zero31 : zeroOf Tryd.prog 49 = some [.int .u32 0] := by kernel_rfl

/-! ### Operations on lists of limbs -/
theorem zdv (s : St) (b : Gk) (l : List Nat) : lenA Tryd.prog 25 s (encL b l) = some (.int .i64 (l.length : Int)) := by
  simp only [lenA, tk22, encL]
theorem zdw (s : St) (g : Grip) (xs : List AV) (n : Nat) : lenA Tryd.prog 25 s (.sl xs n g) = some (.int .i64 (n : Int)) := by
  simp only [lenA, tk22]
theorem ia22 (s : St) (b : Gk) (l : List Nat) (k : IntKind) (i : Int) (h0 : 0 ≤ i) (h : i < l.length) : indexAddrA Tryd.prog 25 s (encL b l) (.int k i) = some (.rptr (encC (l.drop i.toNat))) := by
  simp only [indexAddrA, tk22, encL, esz31, Option.bind_some, h0, h, and_self, if_true, Nat.mul_one, encC_drop]
theorem ld31 (s : St) (l : List Nat) (i : Nat) (h : i < l.length) : loadA Tryd.prog 49 s (.rptr (encC (l.drop i))) = some (.int .u32 ((l.getD i 0 : Nat) : Int)) := by
  simp only [loadA, partA, sh31]
  rw [encC_get _ _ (by simp; omega)]
  simp [List.getD, List.getElem?_drop]
theorem zed (s : St) (x : Nat) (h : x < 4294967296) : convA Tryd.prog 49 79 s (.int .u32 (x : Int)) = some (.int .u64 (x : Int)) := by
  simp only [convA, tk31, tk40, IntKind.wrap, IntKind.bits, IntKind.signed]
  congr 2
  simp; omega
theorem zee (s : St) (x : Nat) : convA Tryd.prog 79 49 s (.int .u64 (x : Int)) = some (.int .u32 ((x % 4294967296 : Nat) : Int)) := by
  simp only [convA, tk31, tk40, IntKind.wrap, IntKind.bits, IntKind.signed]
  congr 2

/-! ### Arithmetic -/
section
variable (P : Program) (t : TypeId)
theorem i64_wrap (a : Int) (h : -9223372036854775808 ≤ a) (h' : a ≤ 9223372036854775807) : IntKind.i64.wrap a = a := by
  simp [IntKind.wrap, IntKind.bits, IntKind.signed]
  split <;> omega
theorem i_add (a b : Int) (h : -9223372036854775808 ≤ a + b) (h' : a + b ≤ 9223372036854775807) : binA P .add t (.int .i64 a) (.int .i64 b) = some (.int .i64 (a + b)) := by
  simp [binA, intA, i64_wrap _ h h']
theorem i_sub (a b : Int) (h : -9223372036854775808 ≤ a - b) (h' : a - b ≤ 9223372036854775807) : binA P .sub t (.int .i64 a) (.int .i64 b) = some (.int .i64 (a - b)) := by
  simp [binA, intA, i64_wrap _ h h']
theorem i_mul (a b : Int) (h : -9223372036854775808 ≤ a * b) (h' : a * b ≤ 9223372036854775807) : binA P .mul t (.int .i64 a) (.int .i64 b) = some (.int .i64 (a * b)) := by
  simp [binA, intA, i64_wrap _ h h']
theorem zdx (k : IntKind) (a b : Int) : binA P .lss t (.int k a) (.int k b) = some (.bool (decide (a < b))) := by simp [binA, intA]
theorem zdy (k : IntKind) (a b : Int) : binA P .leq t (.int k a) (.int k b) = some (.bool (decide (a ≤ b))) := by simp [binA, intA]
theorem zdz (k : IntKind) (a b : Int) : binA P .gtr t (.int k a) (.int k b) = some (.bool (decide (a > b))) := by simp [binA, intA]
theorem zea (k : IntKind) (a b : Int) : binA P .geq t (.int k a) (.int k b) = some (.bool (decide (a ≥ b))) := by simp [binA, intA]
theorem zeb (k : IntKind) (a b : Int) : binA P .eql t (.int k a) (.int k b) = some (.bool (a == b)) := by simp [binA, intA]
theorem zec (k : IntKind) (a b : Int) : binA P .neq t (.int k a) (.int k b) = some (.bool (a != b)) := by simp [binA, intA]
theorem u64_wrap (x : Nat) : IntKind.u64.wrap (x : Int) = ((x % 18446744073709551616 : Nat) : Int) := by
  simp [IntKind.wrap, IntKind.bits, IntKind.signed]
theorem u_shr (a : Nat) (k : IntKind) (z : Int) (h : 0 ≤ z) (h' : z ≤ 64) : binA P .shr t (.int .u64 (a : Int)) (.int k z) = some (.int .u64 ((a / 2 ^ z.toNat : Nat) : Int)) := by
  simp only [binA, shA, if_neg (Int.not_lt.mpr h), IntKind.bits]
  rw [Nat.min_eq_left (by omega)]
  congr 2
  rw [Int.fdiv_eq_ediv_of_nonneg _ (by exact Int.le_of_lt (Int.pow_pos (by decide)))]
  simp
theorem u_shl (a : Nat) (k : IntKind) (z : Int) (h : 0 ≤ z) (h' : z ≤ 64) : binA P .shl t (.int .u64 (a : Int)) (.int k z) = some (.int .u64 (((a * 2 ^ z.toNat) % 18446744073709551616 : Nat) : Int)) := by
  simp only [binA, shA, if_neg (Int.not_lt.mpr h), IntKind.bits]
  rw [Nat.min_eq_left (by omega), ← u64_wrap]
  congr 3
theorem u_or (a b : Nat) (h : a < 18446744073709551616) (h' : b < 18446744073709551616) : binA P .or t (.int .u64 (a : Int)) (.int .u64 (b : Int)) = some (.int .u64 (((a ||| b) : Nat) : Int)) := by
  have h1 : (BitVec.ofInt 64 (a : Int) ||| BitVec.ofInt 64 (b : Int)).toNat = a ||| b := by
    rw [BitVec.toNat_or, BitVec.ofInt_natCast, BitVec.ofInt_natCast, BitVec.toNat_ofNat, BitVec.toNat_ofNat, Nat.mod_eq_of_lt h, Nat.mod_eq_of_lt h']
  have := Nat.or_lt_two_pow (n := 64) h h'
  show some (AV.int .u64 (IntKind.u64.wrap ((BitVec.ofInt 64 (a : Int) ||| BitVec.ofInt 64 (b : Int)).toNat : Int))) = _
  rw [h1, u64_wrap, Nat.mod_eq_of_lt this]
end
end Go.Ab

/- Numbers as lists of limbs: plain arithmetic, no program in sight. -/
namespace Go.Ab
abbrev B : Nat := 4294967296
def Limbs (l : List Nat) : Prop := ∀ x ∈ l, x < 4294967296
def val : List Nat → Nat
  | [] => 0
  | x :: r => x + B * val r
def digs (v : Nat) : List Nat := if _h : v = 0 then [] else (v % B) :: digs (v / B)
termination_by v
decreasing_by exact Nat.div_lt_self (by omega) (by decide)
theorem digs_0 : digs 0 = [] := by rw [digs]; simp
theorem digs_pos (v : Nat) (h : v ≠ 0) : digs v = (v % B) :: digs (v / B) := by rw [digs]; simp [h]
theorem limbs_nil : Limbs [] := by intro x h; cases h
theorem limbs_cons {x : Nat} {l : List Nat} (h : x < B) (hl : Limbs l) : Limbs (x :: l) := by
  intro y hy
  rcases List.mem_cons.mp hy with rfl | hy
  · exact h
  · exact hl y hy
theorem Limbs.tail {x : Nat} {l : List Nat} (h : Limbs (x :: l)) : Limbs l := fun y hy => h y (List.mem_cons_of_mem _ hy)
theorem Limbs.head {x : Nat} {l : List Nat} (h : Limbs (x :: l)) : x < B := h x (List.mem_cons_self ..)
theorem Limbs.take {l : List Nat} (h : Limbs l) (k : Nat) : Limbs (l.take k) := fun x hx => h x (List.mem_of_mem_take hx)
theorem Limbs.drop {l : List Nat} (h : Limbs l) (k : Nat) : Limbs (l.drop k) := fun x hx => h x (List.mem_of_mem_drop hx)
theorem limbs_one {x : Nat} (h : x < B) : Limbs [x] := limbs_cons h limbs_nil
theorem limbs_digs (v : Nat) : Limbs (digs v) := by
  induction v using Nat.strongRecOn with
  | _ v ih =>
    by_cases h : v = 0
    · subst h; rw [digs_0]; exact limbs_nil
    · rw [digs_pos v h]
      exact limbs_cons (Nat.mod_lt _ (by decide)) (ih _ (Nat.div_lt_self (by omega) (by decide)))
theorem val_digs (v : Nat) : val (digs v) = v := by
  induction v using Nat.strongRecOn with
  | _ v ih =>
    by_cases h : v = 0
    · subst h; rw [digs_0]; rfl
    · rw [digs_pos v h, val, ih _ (Nat.div_lt_self (by omega) (by decide))]
      exact Nat.mod_add_div v B
theorem val_app (l m : List Nat) : val (l ++ m) = val l + B ^ l.length * val m := by
  induction l with
  | nil => simp [val]
  | cons x l ih =>
    simp only [List.cons_append, val, ih, List.length_cons, Nat.pow_succ]
    rw [Nat.mul_add, Nat.add_assoc, Nat.mul_comm (B ^ l.length) B, Nat.mul_assoc]
theorem val_lt (l : List Nat) (h : Limbs l) : val l < B ^ l.length := by
  induction l with
  | nil => simp [val]
  | cons x l ih =>
    have h1 := ih h.tail
    have h2 := h.head
    simp only [val, List.length_cons, Nat.pow_succ]
    have : B * (val l + 1) ≤ B * B ^ l.length := Nat.mul_le_mul_left _ h1
    rw [Nat.mul_comm (B ^ l.length) B]
    have e : B * (val l + 1) = B * val l + B := by rw [Nat.mul_add, Nat.mul_one]
    omega
theorem digs_val (l : List Nat) (h : Limbs l) (hc : ∀ x, l.getLast? = some x → x ≠ 0) : digs (val l) = l := by
  induction l with
  | nil => exact digs_0
  | cons x l ih =>
    have hx := h.head
    have h2 : (x + B * val l) / B = val l := by
      rw [Nat.add_mul_div_left _ _ (by decide), Nat.div_eq_of_lt hx, Nat.zero_add]
    have h1 : (x + B * val l) % B = x := by
      rw [Nat.add_mul_mod_self_left, Nat.mod_eq_of_lt hx]
    have hne : x + B * val l ≠ 0 := by
      cases l with
      | nil =>
        have := hc x rfl
        omega
      | cons y l =>
        intro h0
        have hv : val (y :: l) = 0 := by
          rcases Nat.eq_zero_or_pos (val (y :: l)) with h | h
          · exact h
          · have : B * 1 ≤ B * val (y :: l) := Nat.mul_le_mul_left _ h
            simp only [B] at *
            omega
        have := ih h.tail (by intro z hz; exact hc z (by simpa [List.getLast?_cons] using hz))
        rw [hv, digs_0] at this
        cases this
    show digs (x + B * val l) = x :: l
    rw [digs_pos _ hne, h1, h2]
    cases l with
    | nil => simp [val, digs_0]
    | cons y l => rw [ih h.tail (by intro z hz; exact hc z (by simpa [List.getLast?_cons] using hz))]
theorem digs_len (v k : Nat) (h : v < B ^ k) : (digs v).length ≤ k := by
  induction k generalizing v with
  | zero => have : v = 0 := by simpa using h
            subst this; rw [digs_0]; simp
  | succ k ih =>
    by_cases h0 : v = 0
    · subst h0; rw [digs_0]; simp
    · rw [digs_pos v h0, List.length_cons]
      have : v / B < B ^ k := by
        rw [Nat.div_lt_iff_lt_mul (by decide)]
        rwa [Nat.pow_succ] at h
      have := ih _ this
      omega
theorem val_take_succ (l : List Nat) (k : Nat) (h : k < l.length) : val (l.take (k + 1)) = val (l.take k) + B ^ k * l.getD k 0 := by
  rw [List.take_succ_eq_append_getElem h, val_app]
  simp [val, Nat.min_eq_left (Nat.le_of_lt h), List.getD, List.getElem?_eq_getElem h]
theorem getD_of_ge (l : List Nat) (k : Nat) (h : l.length ≤ k) : l.getD k 0 = 0 := by
  rw [List.getD_eq_getElem?_getD, List.getElem?_eq_none h]; rfl
/-- The first k limbs, 0 where there is none. -/
theorem val_take_succ' (l : List Nat) (k : Nat) : val (l.take (k + 1)) = val (l.take k) + B ^ k * l.getD k 0 := by
  by_cases h : k < l.length
  · exact val_take_succ l k h
  · rw [getD_of_ge l k (by omega), List.take_of_length_le (by omega), List.take_of_length_le (by omega)]
    simp
end Go.Ab

/- Comparing numbers by limbs from the top: plain arithmetic. -/
namespace Go.Ab
theorem val_take_lt (l : List Nat) (hl : Limbs l) (k : Nat) : val (l.take k) < B ^ k := by
  have h := val_lt _ (hl.take k)
  have h2 : (l.take k).length ≤ k := by rw [List.length_take]; omega
  exact Nat.lt_of_lt_of_le h (Nat.pow_le_pow_right (by decide) h2)
end Go.Ab

/- The program's number lists: reading, comparing, what their functions compute. Conditions: lengths and places in range. -/
namespace Go.Ab
open Go.Proofs
set_option maxRecDepth 100000
set_option linter.unusedSimpArgs false

theorem getD_lt (l : List Nat) (hl : ∀ x ∈ l, x < 4294967296) (i : Nat) : l.getD i 0 < 4294967296 := by
  by_cases h : i < l.length
  · rw [List.getD_eq_getElem?_getD, List.getElem?_eq_getElem h]
    exact hl _ (List.getElem_mem h)
  · rw [List.getD_eq_getElem?_getD, List.getElem?_eq_none (by omega)]; decide

theorem argA_L (cfg : Cfg) (f : FuncId) (s : St) (j : Nat) (b : Gk) (l : List Nat) : argA cfg f s j (encL b l) = some (.tree (encL b l)) := by
  cases b <;> rfl
theorem gives_L (b : Gk) (l : List Nat) (a : Arg) : givesOf (encL b l) a = none := by cases b <;> cases a <;> rfl
theorem lends_L (b : Gk) (l : List Nat) (a : Arg) : lendsOf (encL b l) a = none := by cases b <;> cases a <;> rfl
theorem callA_L1 (call : FuncId → List Arg → Option Out) (d : Nat) (s : St) (f : FuncId) (b : Gk) (l : List Nat) (v : AV) (hc : call f [.tree (encL b l)] = some (.tree v, [[]])) : callA cfg0 call d s f [encL b l] = some (v, s) := by
  simp [callA, argsA, argA_L, givesL, lendsL, gives_L, lends_L, hc, backA, resA]
end Go.Ab

/- What the program's Norm computes. Conditions: limbs in range, not too many. -/
namespace Go.Ab
open Go.Proofs
set_option maxRecDepth 100000
set_option linter.unusedSimpArgs false

def encR (v : Nat) : AV := encL (if v = 0 then .n else .l) (digs v)
def dead : St := fun _ => ⟨0, .dead⟩
theorem st0_1 (v : AV) : st0 [.tree v] = dead := by
  funext j; cases j <;> simp [st0, dead]
theorem st0_2 (v w : AV) : st0 [.tree v, .tree w] = dead := by
  funext j
  match j with
  | 0 | 1 | _ + 2 => simp [st0, dead]
theorem finish_tree (k : Bool) (xs : List Arg) (t : Nat) (env : Env) (s s' : St) (v v' : AV) (os : List (List AV)) (hv : env t = v) (hf : finish1 k xs.length s v = some (.tree v', s')) (ho : outsA s' 0 xs = some os) :
    finishP Tryd.prog k xs #[.tmp t] env s = some (.tree v', os) := by
  simp only [finishP_t1, finishP_t2, finish, hv, hf, ho, Option.bind_some, Option.map_some]

end Go.Ab

/- What the program's Cmp, Len compute. Conditions: limbs in range, not too many. -/
namespace Go.Ab
open Go.Proofs
set_option maxRecDepth 100000
set_option linter.unusedSimpArgs false

end Go.Ab

/- Sums and differences limb by limb: plain arithmetic. -/
namespace Go.Ab
end Go.Ab

/- What the program's Add, Sub compute. Conditions: limbs in range, not too many. -/
namespace Go.Ab
open Go.Proofs
set_option maxRecDepth 100000
set_option linter.unusedSimpArgs false

/-- A list that is being made by appends: its value, and the room behind it. -/
def Hold (s : St) (v : AV) (o : List Nat) : Prop := (o = [] ∧ v = .sl [] 0 .nil) ∨ (∃ p t, v = .sl (encC o) o.length (.tok p t) ∧ s p = ⟨t, .tok 1⟩) ∨ ∃ p t, v = .own p t 0 o.length 1 ∧ s p = ⟨t, .buf (encC o)⟩
theorem hold_nil (s : St) : Hold s (.sl [] 0 .nil) [] := .inl ⟨rfl, rfl⟩
theorem append22t (d : Nat) (s : St) (v : AV) (o m : List Nat) (b : Gk) (h : Hold s v o) (hl : o.length + m.length ≤ 10000000) :
    ∃ s' p t, appendA Tryd.prog #[25, 25] d s v (encL b m) = some (.sl (encC (o ++ m)) (o ++ m).length (.tok p t), s') ∧ s' p = ⟨t, .tok 1⟩ := by
  have e1 : (#[25, 25] : Array TypeId)[0]? = some 25 := rfl
  have e2 : (#[25, 25] : Array TypeId)[1]? = some 25 := rfl
  have hc : (o.length + m.length) * 4 ≤ 140737488355328 ∧ o.length + m.length ≤ 9223372036854775807 ∧ (zeroOf Tryd.prog 49).map List.length = some 1 := ⟨by omega, by omega, by rw [zero31]; rfl⟩
  rcases h with ⟨rfl, rfl⟩ | ⟨p, t, rfl, hp⟩ | ⟨p, t, rfl, hp⟩
  · refine ⟨upd s d ⟨(s d).t + 1, .tok 1⟩, d, (s d).t + 1, ?_, by simp [upd]⟩
    simp only [appendA, e1, e2, Option.map_some, tk22, esz31, Option.bind_some, moreA, encL, encC_len, Nat.mul_one, if_true, baseA, by31, List.length_nil, Nat.zero_mul, List.nil_append, Nat.zero_add]
    rw [if_pos (by simpa using hc)]
  · refine ⟨upd (upd s p ⟨t, .dead⟩) d ⟨((upd s p ⟨t, .dead⟩) d).t + 1, .tok 1⟩, d, ((upd s p ⟨t, .dead⟩) d).t + 1, ?_, by simp [upd]⟩
    simp only [appendA, e1, e2, Option.map_some, tk22, esz31, Option.bind_some, moreA, encL, encC_len, Nat.mul_one, if_true, baseA, by31, hp, and_self]
    rw [if_pos hc, encC_app, List.length_append]
  · refine ⟨upd (upd s p ⟨t, .frz (encC o)⟩) d ⟨((upd s p ⟨t, .frz (encC o)⟩) d).t + 1, .tok 1⟩, d, ((upd s p ⟨t, .frz (encC o)⟩) d).t + 1, ?_, by simp [upd]⟩
    simp only [appendA, e1, e2, Option.map_some, tk22, esz31, Option.bind_some, moreA, encL, encC_len, Nat.mul_one, if_true, baseA, by31, hp, and_self, Nat.zero_add, List.drop_zero]
    rw [if_pos hc, encC_app, List.length_append]
end Go.Ab

/- What the program's Sub computes. Conditions: limbs in range, not too many. -/
namespace Go.Ab
open Go.Proofs
set_option maxRecDepth 100000
set_option linter.unusedSimpArgs false

end Go.Ab

/- How many bits a number has: plain arithmetic. -/
namespace Go.Ab
theorem B_pow (k : Nat) : B ^ k = 2 ^ (32 * k) := by
  rw [Nat.pow_mul]
end Go.Ab

/- What the program's Len computes. Conditions: limbs in range, not too many. -/
namespace Go.Ab
open Go.Proofs
set_option maxRecDepth 100000
set_option linter.unusedSimpArgs false

theorem tk9 : tkOf Tryd.prog 9 = .str := by kernel_rfl
theorem zev (env : Env) (b : ByteArray) : ev env (.const (.string b)) = .str b.data.toList := rfl

end Go.Ab

/- Shifts by limbs: plain arithmetic. -/
namespace Go.Ab
/-- One limb up by r bits, with what came over from below. -/
theorem shl_or (x c r : Nat) (hc : c < 2 ^ r) : c ||| (x * 2 ^ r) = c + x * 2 ^ r := by
  rw [Nat.or_comm, Nat.mul_comm, ← Nat.two_pow_add_eq_or_of_lt hc, Nat.add_comm]
end Go.Ab

/- What the program's Shl, Shr compute. Conditions: limbs in range, not too many. -/
namespace Go.Ab
open Go.Proofs
set_option maxRecDepth 100000
set_option linter.unusedSimpArgs false

end Go.Ab

/- Products limb by limb: plain arithmetic. -/
namespace Go.Ab
theorem getD_set_ne (o : List Nat) (i j v : Nat) (h : i ≠ j) : (o.set i v).getD j 0 = o.getD j 0 := by
  rw [List.getD_eq_getElem?_getD, List.getD_eq_getElem?_getD, List.getElem?_set_ne h]
end Go.Ab

/- What the program's Mul computes. Conditions: limbs in range, not too many. -/
namespace Go.Ab
open Go.Proofs
set_option maxRecDepth 100000
set_option linter.unusedSimpArgs false

end Go.Ab

/- Quotients bit by bit: plain arithmetic. -/
namespace Go.Ab
end Go.Ab

/- The calls of the program's number functions, upon any value that shows a number. Conditions: at most 1000 limbs. -/
namespace Go.Ab
open Go.Proofs
set_option maxRecDepth 100000
set_option linter.unusedSimpArgs false

/-- A value that shows a list of limbs, whatever room is behind it. -/
def Sh (w : AV) (l : List Nat) : Prop := ∃ g, w = .sl (encC l) l.length g
theorem Sh.arg {w : AV} {l : List Nat} (h : Sh w l) (f : FuncId) (s : St) (j : Nat) : ∃ b, argA cfg0 f s j w = some (.tree (encL b l)) := by
  obtain ⟨g, rfl⟩ := h
  cases g with
  | tight => exact ⟨.t, rfl⟩
  | loose => exact ⟨.l, rfl⟩
  | nil => exact ⟨.n, rfl⟩
  | tok p t => exact ⟨.l, rfl⟩
theorem Sh.gives {w : AV} {l : List Nat} (h : Sh w l) (v : AV) : givesOf w (.tree v) = none := by
  obtain ⟨g, rfl⟩ := h
  cases g <;> rfl
theorem Sh.lends {w : AV} {l : List Nat} (h : Sh w l) (v : AV) : lendsOf w (.tree v) = none := by
  obtain ⟨g, rfl⟩ := h
  cases g <;> rfl
/-- A value that shows the number v: of at most 1000 limbs. -/
def Num (w : AV) (v : Nat) : Prop := ∃ l, Sh w l ∧ Limbs l ∧ l.length ≤ 1000 ∧ val l = v
theorem Num.lt {w : AV} {v : Nat} (h : Num w v) : ∃ k, k ≤ 1000 ∧ v < B ^ k := by
  obtain ⟨l, hs, hl, hn, rfl⟩ := h
  exact ⟨l.length, hn, val_lt l hl⟩
section
variable (n d : Nat) (hn : 100000 ≤ n) (D : Nat) (s : St)
include hn
end
theorem digs_len0 (v : Nat) : (digs v).length = 0 ↔ v = 0 := by
  constructor
  · intro h
    have := val_digs v
    rw [List.length_eq_zero_iff.mp h] at this
    exact this.symm
  · intro h; subst h; rw [digs_0]; rfl
end Go.Ab

/- More plain arithmetic of the limb statements. -/
namespace Go.Ab
/-- Any number as one from 0 to n - 1. -/
def placeN (v n : Int) : Int := if v.tmod n < 0 then v.tmod n + n else v.tmod n
theorem place_range (v n : Int) (hn : 0 < n) : 0 ≤ placeN v n ∧ placeN v n < n := by
  have h1 := Int.tmod_lt_of_pos v hn
  have h2 : -n < v.tmod n := by
    have := Int.lt_tmod_of_pos v hn
    omega
  unfold placeN
  split <;> omega
end Go.Ab

/- Helpers of all statements: calls, places, copies, sameness. Conditions: limbs in range. -/
namespace Go.Ab
open Go.Proofs
set_option maxRecDepth 100000
set_option linter.unusedSimpArgs false

section
variable {P : Program} {cfg : Cfg} {call : FuncId → List Arg → Option Out}
/-- A call of a function that a variable holds. -/
def callV (cfg : Cfg) (call : FuncId → List Arg → Option Out) (d : Nat) (s : St) (vs : List AV) : AV → Option (AV × St)
  | .fn f caps => callA cfg call d s f (vs ++ caps)
  | _ => none
@[congr] theorem callV_congr {d : Nat} {s s' : St} {vs vs' : List AV} {v v' : AV} (h : v = v') (h1 : s = s') (h2 : vs = vs') : callV cfg call d s vs v = callV cfg call d s' vs' v' := by rw [h, h1, h2]
theorem backA_trees (s : St) : ∀ vs : List AV, backA s vs (vs.map Arg.tree) (vs.map fun _ => []) = some s
  | [] => rfl
  | v :: vs => by simp only [List.map_cons, backA, gives_tree, backA_trees s vs]
theorem callA_trees {d : Nat} {s : St} {f : FuncId} {vs : List AV} {v : AV} (ht : vs.all isTree = true) (hc : call f (vs.map Arg.tree) = some (.tree v, vs.map fun _ => [])) : callA cfg call d s f vs = some (v, s) := by
  simp only [callA, argsA_trees f s vs 0 ht, Option.bind_some, givesL_trees, lendsL_trees vs ht, List.nodup_nil, List.not_mem_nil, false_implies, implies_true, and_self, if_true, hc, List.foldl_nil, ite_self, backA_trees, resA]
theorem callQ_trees {f : FuncId} {vs : List AV} {v : AV} (ht : vs.all isTree = true) (hc : call f (vs.map Arg.tree) = some (.tree v, vs.map fun _ => [])) : callQ call f vs = some v := by
  simp only [callQ, ht, if_true, hc, Option.bind_some]
end
theorem i_remZ (P : Program) (t : TypeId) (a b : Int) (hb : b ≠ 0) : binA P .rem t (.int .i64 a) (.int .i64 b) = some (.int .i64 (a.tmod b)) := by
  simp only [binA, intA, if_true]
  rw [if_neg hb]
theorem place_eq (n d : Nat) (v m : Int) (hm : 0 < m) (hm' : m ≤ 1000000) : evalFn Tryd.prog cfg0 n (d+1) 14 [.tree (.int .i64 v), .tree (.int .i64 m)] = some (.tree (.int .i64 (placeN v m)), [[], []]) := by
  rw [evalFn_go _ Tryd.func14 (by unfold Tryd.f14; rfl) (by unfold Tryd.f14; decide) (Nat.le_of_ble_eq_true (by unfold Tryd.f14; rfl)) (by kernel_rfl)]
  have hr := place_range v m hm
  have e1 := i_remZ Tryd.prog 3 v m (by omega)
  have h1 := Int.tmod_lt_of_pos v hm
  unfold placeN at *
  by_cases h : v.tmod m < 0
  · rw [if_pos h] at hr ⊢
    have e2 := i_add Tryd.prog 3 (v.tmod m) m (by omega) (by omega)
    simp only [zaa, zab, zac, zad, zae, zaf, zag, zah, zai, zaj, zak, zal, zam, zan, zao, zap, zaq, zar, zas, zat, zau, zav, zaw, zax, zay, zaz, zba, zbb, zbc, zbd, zbe, zbf, zbg, zbh, zbi, zbj, zbk, zbl, zbm, zbn, zbo, zbp, zbq, Nat.reduceBEq, Bool.or_self, Bool.or_false, Bool.or_true, Bool.and_true, Bool.and_false, Bool.true_and, Bool.false_and, Option.isNone_none, Option.isNone_some, Option.isSome_some, Option.isSome_none, zbr, zbs, zbt, zbu, zbv, zbw, zbx, zby, zbz, zca, zcb, zcc, zcd, zce, zcf, zcg, zch, zci, zcj, zck, zcl, zcm, zcn, zco, zcp, zcq, zcr, own0, zcs, zct, zcu, zcv, zcw, zcx, zcy, zcz, zda, zdb, zdc, zdd, zde, zdf, zdg, zdh, zdi, zdj, zdk, zdl, zdm, zdn, zdo, zdp, zdq, zdr, zds, zdt, zdu, Option.getD_some, Option.getD_none, zfb, zfc, zfd, zfe, zff, zfg, zfh, zfi, Option.map_some, Option.map_none, Option.bind_some, List.map_cons, List.map_nil, List.cons_append, List.nil_append, ↓reduceIte, Nat.reduceEqDiff, Nat.reduceAdd, decide_true, decide_false, Bool.true_eq_false, Bool.false_eq_true, env0, List.getElem?_cons_zero, List.getElem?_cons_succ, zdx, e1, h, e2]
    exact finish_tree _ _ _ _ _ _ (.int .i64 (v.tmod m + m)) _ _ (by simp only [zfi, ↓reduceIte]) rfl rfl
  · rw [if_neg h] at hr ⊢
    simp only [zaa, zab, zac, zad, zae, zaf, zag, zah, zai, zaj, zak, zal, zam, zan, zao, zap, zaq, zar, zas, zat, zau, zav, zaw, zax, zay, zaz, zba, zbb, zbc, zbd, zbe, zbf, zbg, zbh, zbi, zbj, zbk, zbl, zbm, zbn, zbo, zbp, zbq, Nat.reduceBEq, Bool.or_self, Bool.or_false, Bool.or_true, Bool.and_true, Bool.and_false, Bool.true_and, Bool.false_and, Option.isNone_none, Option.isNone_some, Option.isSome_some, Option.isSome_none, zbr, zbs, zbt, zbu, zbv, zbw, zbx, zby, zbz, zca, zcb, zcc, zcd, zce, zcf, zcg, zch, zci, zcj, zck, zcl, zcm, zcn, zco, zcp, zcq, zcr, own0, zcs, zct, zcu, zcv, zcw, zcx, zcy, zcz, zda, zdb, zdc, zdd, zde, zdf, zdg, zdh, zdi, zdj, zdk, zdl, zdm, zdn, zdo, zdp, zdq, zdr, zds, zdt, zdu, Option.getD_some, Option.getD_none, zfb, zfc, zfd, zfe, zff, zfg, zfh, zfi, Option.map_some, Option.map_none, Option.bind_some, List.map_cons, List.map_nil, List.cons_append, List.nil_append, ↓reduceIte, Nat.reduceEqDiff, Nat.reduceAdd, decide_true, decide_false, Bool.true_eq_false, Bool.false_eq_true, env0, List.getElem?_cons_zero, List.getElem?_cons_succ, zdx, e1, h]
    exact finish_tree _ _ _ _ _ _ (.int .i64 (v.tmod m)) _ _ (by simp only [zfi, ↓reduceIte]) rfl rfl
end Go.Ab

/- Numbers with a sign: plain arithmetic. No conditions but those told. -/
namespace Go.Ab
/-- May a number of a sign and limbs be? -/
def chkN (neg : Bool) (l : List Nat) : Bool := decide (l.length ≤ 12) && (decide (l.length = 0) && !neg || decide (0 < l.length) && decide (l.getD (l.length - 1) 0 ≠ 0))
/-- The number that is shown; 0 where none is. -/
def numZ (neg : Bool) (l : List Nat) : Int := if chkN neg l = true then (if neg = true then -((val l : Nat) : Int) else ((val l : Nat) : Int)) else 0
/-- A number, if it has room. -/
def mkZ (z : Int) : Int × Bool := if z.natAbs < B ^ 12 then (z, true) else (0, false)
theorem mkZ_fit {z : Int} (h : z.natAbs < B ^ 12) : mkZ z = (z, true) := if_pos h
theorem getLast_getD (l : List Nat) (h : 0 < l.length) : l.getLast? = some (l.getD (l.length - 1) 0) := by
  rw [List.getLast?_eq_getElem?, List.getD_eq_getElem?_getD, List.getElem?_eq_getElem (by omega)]; rfl
theorem digs_last (v : Nat) (h : 0 < (digs v).length) : (digs v).getD ((digs v).length - 1) 0 ≠ 0 := by
  induction v using Nat.strongRecOn with
  | ind v ih =>
    by_cases hv : v = 0
    · subst hv; rw [digs_0] at h; simp at h
    · rw [digs_pos v hv]
      by_cases hq : v / B = 0
      · rw [hq, digs_0]
        have : v % B = v := Nat.mod_eq_of_lt (by
          have := Nat.div_add_mod v B; have := Nat.mod_lt v (show 0 < B by decide); rw [hq] at *; omega)
        simpa [this] using hv
      · have hl : 0 < (digs (v / B)).length := by
          rw [digs_pos _ hq]; simp
        have := ih (v / B) (Nat.div_lt_self (by omega) (by decide)) hl
        rw [List.length_cons, show (digs (v / B)).length + 1 - 1 = ((digs (v / B)).length - 1) + 1 by omega, List.getD_cons_succ]
        exact this
theorem digs_len_le (v k : Nat) : (digs v).length ≤ k ↔ v < B ^ k := by
  constructor
  · intro h
    have := val_lt (digs v) (limbs_digs v)
    rw [val_digs] at this
    exact Nat.lt_of_lt_of_le this (Nat.pow_le_pow_right (by decide) h)
  · exact digs_len v k
theorem chk_digs (neg : Bool) (v : Nat) (h : v = 0 → neg = false) : chkN neg (digs v) = decide (v < B ^ 12) := by
  unfold chkN
  by_cases hv : v = 0
  · subst hv
    rw [digs_0, h rfl]
    have : 0 < B ^ 12 := Nat.pow_pos (by decide)
    simp [this]
  · have hp : 0 < (digs v).length := by rw [digs_pos v hv]; simp
    have hl := digs_last v hp
    have h12 : decide ((digs v).length ≤ 12) = decide (v < B ^ 12) := by
      rw [Bool.eq_iff_iff]; simp only [decide_eq_true_eq]; exact digs_len_le v 12
    rw [h12]
    have h1 : decide (0 < (digs v).length) = true := decide_eq_true hp
    have h2 : decide ((digs v).getD ((digs v).length - 1) 0 ≠ 0) = true := decide_eq_true hl
    rw [h1, h2]
    simp
/-- What may be is its digits. -/
theorem chk_val {neg : Bool} {l : List Nat} (hl : Limbs l) (h : chkN neg l = true) : digs (val l) = l ∧ val l < B ^ 12 ∧ l.length ≤ 12 ∧ (val l = 0 → l = [] ∧ neg = false) := by
  unfold chkN at h
  simp only [Bool.and_eq_true, Bool.or_eq_true, decide_eq_true_eq, Bool.not_eq_true'] at h
  obtain ⟨h12, h⟩ := h
  have hd : digs (val l) = l := by
    refine digs_val l hl fun x hx => ?_
    rcases h with ⟨h0, _⟩ | ⟨h0, h1⟩
    · have : l = [] := List.length_eq_zero_iff.mp h0
      subst this; cases hx
    · rw [getLast_getD l h0] at hx
      cases hx
      exact h1
  refine ⟨hd, Nat.lt_of_lt_of_le (val_lt l hl) (Nat.pow_le_pow_right (by decide) h12), h12, fun h0 => ?_⟩
  rw [h0, digs_0] at hd
  subst hd
  rcases h with ⟨_, h1⟩ | ⟨h1, _⟩
  · exact ⟨rfl, h1⟩
  · simp at h1
theorem numZ_not {neg : Bool} {l : List Nat} (h : chkN neg l = false) : numZ neg l = 0 := by simp [numZ, h]
theorem numZ_is {neg : Bool} {l : List Nat} (hl : Limbs l) (h : chkN neg l = true) : (numZ neg l).natAbs = val l ∧ decide (numZ neg l < 0) = neg ∧ digs (numZ neg l).natAbs = l := by
  obtain ⟨hd, _, _, h0⟩ := chk_val hl h
  have e : numZ neg l = if neg = true then -((val l : Nat) : Int) else ((val l : Nat) : Int) := if_pos h
  cases neg with
  | false =>
    simp only [Bool.false_eq_true, if_false] at e
    have : (numZ false l).natAbs = val l := by rw [e]; simp
    refine ⟨this, ?_, by rw [this]; exact hd⟩
    rw [e, decide_eq_false_iff_not]; omega
  | true =>
    simp only [if_true] at e
    have hn : val l ≠ 0 := fun h => by have := (h0 h).2; simp at this
    have : (numZ true l).natAbs = val l := by rw [e]; omega
    refine ⟨this, ?_, by rw [this]; exact hd⟩
    rw [e, decide_eq_true_eq]; omega
theorem numZ_lt (neg : Bool) (l : List Nat) (hl : Limbs l) : (numZ neg l).natAbs < B ^ 12 := by
  cases h : chkN neg l with
  | false => rw [numZ_not h]; exact Nat.pow_pos (by decide)
  | true => rw [(numZ_is hl h).1]; exact (chk_val hl h).2.1
/-- A sign and a size. -/
def sgn (neg : Bool) (v : Nat) : Int := if neg = true then -(v : Int) else (v : Int)
theorem sgn_abs (neg : Bool) (v : Nat) : (sgn neg v).natAbs = v := by
  unfold sgn; split <;> simp
theorem sgn_neg (neg : Bool) (v : Nat) : decide (sgn neg v < 0) = (neg && decide (v ≠ 0)) := by
  cases neg with
  | false =>
    simp only [sgn, Bool.false_eq_true, if_false, Bool.false_and, decide_eq_false_iff_not]; omega
  | true =>
    simp only [sgn, if_true, Bool.true_and]
    by_cases h : v = 0
    · subst h; decide
    · rw [decide_eq_true (show (-(v : Int) < 0) by omega), decide_eq_true h]
theorem sgn_of (z : Int) : sgn (decide (z < 0)) z.natAbs = z := by
  unfold sgn
  by_cases h : z < 0
  · simp [h]; omega
  · simp [h]; omega
end Go.Ab

/- Numbers with a sign in memory cells; which may be. Conditions: limbs in range. -/
namespace Go.Ab
open Go.Proofs
set_option maxRecDepth 100000
set_option linter.unusedSimpArgs false

abbrev encA (neg : Bool) (g : Gk) (l : List Nat) : AV := .agg [.bool neg, encL g l]
theorem tk24 : tkOf Tryd.prog 27 = .st := by kernel_rfl
theorem zeu : zeroOf Tryd.prog 27 = some [.bool false, .sl [] 0 .nil] := by kernel_rfl
theorem sh24 : shOf Tryd.prog 27 = some (true, 2) := by kernel_rfl
theorem sh22 : shOf Tryd.prog 25 = some (false, 1) := by kernel_rfl
theorem sh4 : shOf Tryd.prog 4 = some (false, 1) := by kernel_rfl
theorem esz24 : esz Tryd.prog 27 = some 2 := by kernel_rfl
theorem esz22 : esz Tryd.prog 25 = some 1 := by kernel_rfl
theorem esz4 : esz Tryd.prog 4 = some 1 := by kernel_rfl
theorem pl24 : placesA Tryd.prog 27 = some [(0, 1), (1, 1)] := by kernel_rfl
theorem fd24_0 : fieldOf Tryd.prog 27 0 = some (4, 0) := by kernel_rfl
theorem fd24_1 : fieldOf Tryd.prog 27 1 = some (25, 1) := by kernel_rfl

section
variable {P : Program} {cfg : Cfg} {call : FuncId → List Arg → Option Out} {d : Option Tmp} {ty : TypeId} {pos : String} {af : Array Edge} {g : Option (Nat × Bool)} {t : Nat} {q : Bool} {env : Env} {s : St}
/-- A new block of what is settled. -/
def boxA (d : Nat) (s : St) (v : AV) : Option (AV × St) := (settle s v).bind fun x => (cellsOf x.1).map fun xs => (.ptr d ((x.2 d).t + 1) 0, upd x.2 d ⟨(x.2 d).t + 1, .buf xs⟩)
theorem zef (u : TypeId) (x : Operand) : opA P cfg call q ⟨d, .box u x, ty, pos, af, g⟩ t env s = boxA t s (ev env x) := rfl
theorem zeg (u : TypeId) : opA P cfg call q ⟨d, .alloc u, ty, pos, af, g⟩ t env s = (zeroOf P u).map fun z => (.ptr t ((s t).t + 1) 0, upd s t ⟨(s t).t + 1, .buf z⟩) := rfl
theorem zeh (u : TypeId) (x : Operand) (i : Nat) : opA P cfg call q ⟨d, .fieldAddr u x i, ty, pos, af, g⟩ t env s = (fieldAddrA P u s (ev env x) i).map (·, s) := rfl
theorem zei (u : TypeId) (x : Operand) (i : Nat) : opA P cfg call q ⟨d, .field u x i, ty, pos, af, g⟩ t env s = (fieldA P u (ev env x) i).map (·, s) := rfl
/-- A struct put together. -/
def buildA (P : Program) (u : TypeId) (parts : List (Nat × AV)) : Option AV := (zeroOf P u).bind fun z => match tkOf P u with
  | .st => (placesA P u).bind fun pl => (fillA (fun i => pl[i]?) z parts).map .agg
  | .arr _ e => (esz P e).bind fun n => (fillA (fun i => some (i * n, n)) z parts).map .agg
  | _ => none
def buildO (P : Program) (u : TypeId) (s : St) (ps : List (Nat × AV)) : Option (AV × St) := (settleP s ps).bind fun x => (zeroOf P u).bind fun z => match tkOf P u with
  | .st => (placesA P u).bind fun pl => ((fillA (fun i => pl[i]?) z x.1).map AV.agg).map (·, x.2)
  | _ => none
theorem zej (u : TypeId) (parts : Array (Nat × Operand)) : opA P cfg call q ⟨d, .build u parts, ty, pos, af, g⟩ t env s = if cfg.ownAt ("#" ++ pos) = true then (if q = true then none else buildO P u s (parts.toList.map fun x => (x.1, ev env x.2))) else (buildA P u (parts.toList.map fun x => (x.1, ev env x.2))).map (·, s) := by
  simp only [opA, buildA]
  by_cases h : cfg.ownAt ("#" ++ pos) = true
  · rw [if_pos h, if_pos h]; rfl
  · rw [if_neg h, if_neg h]
    cases zeroOf P u with
    | none => rfl
    | some z =>
      simp only [Option.bind_some]
      cases tkOf P u <;> first | rfl | (simp only [Option.map_bind]; rfl)
end
theorem zek (d : Nat) (s : St) (xs : List AV) : boxA d s (.agg xs) = some (.ptr d ((s d).t + 1) 0, upd s d ⟨(s d).t + 1, .buf xs⟩) := rfl
theorem zel (j : Nat) : (dead j).t = 0 := rfl
/-- What an entry holds, to be read. -/
def cellsE (e : Ent) (k : Nat) : Option (List AV) := match e.c with
  | .buf xs => if e.t = k then some xs else none
  | .frz xs => if e.t = k then some xs else none
  | .mix xs _ => if e.t = k then some xs else none
  | _ => none
theorem cellsAt_E (s : St) (p k : Nat) : cellsAt s p k = cellsE (s p) k := by
  unfold cellsAt cellsE
  rcases s p with ⟨t', c⟩
  cases c <;> rfl
theorem cellsE_buf (t k : Nat) (xs : List AV) : cellsE ⟨t, .buf xs⟩ k = if t = k then some xs else none := rfl
def ldE (P : Program) (u : TypeId) (e : Ent) (k off : Nat) : Option AV := ldC P u e k off
theorem ldE_buf (P : Program) (u : TypeId) (t k off : Nat) (xs : List AV) : ldE P u ⟨t, .buf xs⟩ k off = (cellsE ⟨t, .buf xs⟩ k).bind fun xs => partA P u xs off := by
  rw [cellsE_buf]
  show (if t = k then partA P u xs off else none) = _
  by_cases h : t = k
  · rw [if_pos h, if_pos h]; rfl
  · rw [if_neg h, if_neg h]; rfl
theorem zem (P : Program) (u : TypeId) (s : St) (p k off : Nat) : loadA P u s (.ptr p k off) = ldE P u (s p) k off := by
  rfl
theorem zen (t k : Nat) (a b : AV) : ldE Tryd.prog 27 ⟨t, .buf [a, b]⟩ k 0 = if t = k then some (.agg [a, b]) else none := by
  rw [ldE_buf, cellsE_buf]
  by_cases e : t = k
  · simp [e, partA, sh24]
  · simp [e]
theorem zeo (t k : Nat) (a b : AV) : ldE Tryd.prog 4 ⟨t, .buf [a, b]⟩ k 0 = if t = k then some a else none := by
  rw [ldE_buf, cellsE_buf]
  by_cases e : t = k
  · simp [e, partA, sh4]
  · simp [e]
theorem zep (t k : Nat) (a b : AV) : ldE Tryd.prog 25 ⟨t, .buf [a, b]⟩ k 1 = if t = k then some b else none := by
  rw [ldE_buf, cellsE_buf]
  by_cases e : t = k
  · simp [e, partA, sh22]
  · simp [e]
/-- A struct of two cells put into an entry. -/
def stE (e : Ent) (p k : Nat) (s : St) (ys : List AV) : Option St :=
  match e with | ⟨t', .buf xs⟩ => if t' = k then (if ys.length ≤ xs.length then some (upd s p ⟨t', .buf (splice xs 0 ys)⟩) else none) else none | _ => none
theorem zeq (s : St) (p k : Nat) (a b : AV) : storeA Tryd.prog 27 s (.ptr p k 0) (.agg [a, b]) = stE (s p) p k s [a, b] := by
  simp only [storeA, settle, Option.bind_some, stE]
  cases h : s p with
  | mk t c => cases c <;> simp [esz24]
theorem zer (t k p : Nat) (s : St) (a b a' b' : AV) : stE ⟨t, .buf [a', b']⟩ p k s [a, b] = if t = k then some (upd s p ⟨t, .buf [a, b]⟩) else none := by
  simp [stE, splice]
/-- A field's address. -/
def faE (e : Ent) (p k off : Nat) : Option AV := if (cellsE e k).isSome = true then some (.ptr p k off) else none
theorem fa_0 (s : St) (p k : Nat) : fieldAddrA Tryd.prog 27 s (.ptr p k 0) 0 = faE (s p) p k 0 := by
  simp only [fieldAddrA, fd24_0, esz4, live, cellsAt_E, faE, Nat.zero_add]
theorem fa_1 (s : St) (p k : Nat) : fieldAddrA Tryd.prog 27 s (.ptr p k 0) 1 = faE (s p) p k 1 := by
  simp only [fieldAddrA, fd24_1, esz22, live, cellsAt_E, faE, Nat.zero_add]
theorem zes (t p k off : Nat) (xs : List AV) : faE ⟨t, .buf xs⟩ p k off = if t = k then some (.ptr p k off) else none := by
  rw [faE, cellsE_buf]
  by_cases e : t = k <;> simp [e]
theorem bd_0 : buildA Tryd.prog 27 [] = some (encA false .n []) := by
  simp only [buildA, zeu, tk24, pl24, Option.bind_some, fillA]; rfl
theorem bd_2 (b : Bool) (g : Gk) (l : List Nat) : buildA Tryd.prog 27 [(0, .bool b), (1, encL g l)] = some (encA b g l) := by
  simp only [buildA, zeu, tk24, pl24, Option.bind_some]
  cases g <;> rfl
theorem zet (b : Bool) (v : Nat) : buildA Tryd.prog 27 [(0, .bool b), (1, encR v)] = some (.agg [.bool b, encR v]) := bd_2 _ _ _
theorem fd_1 (a b : AV) : fieldA Tryd.prog 27 (.agg [a, b]) 1 = some b := by
  simp [fieldA, fd24_1, partA, sh22]

/-- A struct in a cell is what is told. -/
theorem finish_c (k : Bool) (xs : List Arg) (a p e : Nat) (x y : AV) (env : Env) (s : St) (os : List (List AV)) (ha : env a = .ptr p e 0) (hs : s p = ⟨e, .buf [x, y]⟩) (ho : outsA s 0 xs = some os) :
    finishP Tryd.prog k xs #[.cell a 27] env s = some (.tree (.agg [x, y]), os) := by
  rw [finishP_c1, ha, zem, hs, zen, if_pos rfl]
  simp only [Option.bind_some, settle, ho, Option.map_some]
theorem finish_ct (k : Bool) (xs : List Arg) (a p e u : Nat) (x y : AV) (b : Bool) (env : Env) (s : St) (os : List (List AV)) (ha : env a = .ptr p e 0) (hs : s p = ⟨e, .buf [x, y]⟩) (hu : env u = .bool b) (ho : outsA s 0 xs = some os) :
    finishP Tryd.prog k xs #[.cell a 27, .tmp u] env s = some (.tree (.tup [.agg [x, y], .bool b]), os) := by
  rw [finishP_c2, ha, zem, hs, zen, if_pos rfl, hu]
  simp only [Option.bind_some, settleL, settle, Option.map_some, ho]

theorem unA_not' (b : Bool) : unA .not (.bool b) = some (.bool (!b)) := rfl
theorem neq0 (x : Nat) : ((x : Int) != 0) = decide (x ≠ 0) := by
  rw [Bool.eq_iff_iff]; simp
set_option maxHeartbeats 2000000 in
theorem check_eq (n d : Nat) (neg : Bool) (g : Gk) (l : List Nat) (hl : Limbs l) : evalFn Tryd.prog cfg0 n (d+1) 15 [.tree (encA neg g l)] = some (.tree (.bool (chkN neg l)), [[]]) := by
  rw [evalFn_go _ Tryd.func15 (by unfold Tryd.f15; rfl) (by unfold Tryd.f15; decide) (Nat.le_of_ble_eq_true (by unfold Tryd.f15; rfl)) (by kernel_rfl)]
  unfold chkN
  by_cases h : (l.length : Int) ≤ 12
  rotate_left
  · have e1 : decide (l.length ≤ 12) = false := decide_eq_false (by omega)
    simp only [zaa, zab, zac, zad, zae, zaf, zag, zah, zai, zaj, zak, zal, zam, zan, zao, zap, zaq, zar, zas, zat, zau, zav, zaw, zax, zay, zaz, zba, zbb, zbc, zbd, zbe, zbf, zbg, zbh, zbi, zbj, zbk, zbl, zbm, zbn, zbo, zbp, zbq, Nat.reduceBEq, Bool.or_self, Bool.or_false, Bool.or_true, Bool.and_true, Bool.and_false, Bool.true_and, Bool.false_and, Option.isNone_none, Option.isNone_some, Option.isSome_some, Option.isSome_none, zbr, zbs, zbt, zbu, zbv, zbw, zbx, zby, zbz, zca, zcb, zcc, zcd, zce, zcf, zcg, zch, zci, zcj, zck, zcl, zcm, zcn, zco, zcp, zcq, zcr, own0, zcs, zct, zcu, zcv, zcw, zcx, zcy, zcz, zda, zdb, zdc, zdd, zde, zdf, zdg, zdh, zdi, zdj, zdk, zdl, zdm, zdn, zdo, zdp, zdq, zdr, zds, zdt, zdu, Option.getD_some, Option.getD_none, zfb, zfc, zfd, zfe, zff, zfg, zfh, zfi, Option.map_some, Option.map_none, Option.bind_some, List.map_cons, List.map_nil, List.cons_append, List.nil_append, ↓reduceIte, Nat.reduceEqDiff, Nat.reduceAdd, decide_true, decide_false, Bool.true_eq_false, Bool.false_eq_true, env0, List.getElem?_cons_zero, List.getElem?_cons_succ, zdv, zdw, zdx, zdy, zdz, zea, zeb, zec, ia22, ld31, zed, zee, zef, zeg, zeh, zei, zej, zek, zel, zem, zen, zeo, zep, zeq, zer, fa_0, fa_1, zes, bd_0, bd_2, zet, fd_1, zeu, Nat.zero_add, st0_1, h, e1, Bool.false_and]
    exact finish_tree _ _ _ _ _ _ (.bool false) _ _ (by simp only [zfi, ↓reduceIte]) rfl rfl
  have e1 : decide (l.length ≤ 12) = true := decide_eq_true (by omega)
  by_cases hz : l = []
  · subst hz
    have p1 : (((([] : List Nat).length : Nat) : Int) == 0) = true := rfl
    cases neg with
    | false =>
      simp only [zaa, zab, zac, zad, zae, zaf, zag, zah, zai, zaj, zak, zal, zam, zan, zao, zap, zaq, zar, zas, zat, zau, zav, zaw, zax, zay, zaz, zba, zbb, zbc, zbd, zbe, zbf, zbg, zbh, zbi, zbj, zbk, zbl, zbm, zbn, zbo, zbp, zbq, Nat.reduceBEq, Bool.or_self, Bool.or_false, Bool.or_true, Bool.and_true, Bool.and_false, Bool.true_and, Bool.false_and, Option.isNone_none, Option.isNone_some, Option.isSome_some, Option.isSome_none, zbr, zbs, zbt, zbu, zbv, zbw, zbx, zby, zbz, zca, zcb, zcc, zcd, zce, zcf, zcg, zch, zci, zcj, zck, zcl, zcm, zcn, zco, zcp, zcq, zcr, own0, zcs, zct, zcu, zcv, zcw, zcx, zcy, zcz, zda, zdb, zdc, zdd, zde, zdf, zdg, zdh, zdi, zdj, zdk, zdl, zdm, zdn, zdo, zdp, zdq, zdr, zds, zdt, zdu, Option.getD_some, Option.getD_none, zfb, zfc, zfd, zfe, zff, zfg, zfh, zfi, Option.map_some, Option.map_none, Option.bind_some, List.map_cons, List.map_nil, List.cons_append, List.nil_append, ↓reduceIte, Nat.reduceEqDiff, Nat.reduceAdd, decide_true, decide_false, Bool.true_eq_false, Bool.false_eq_true, env0, List.getElem?_cons_zero, List.getElem?_cons_succ, zdv, zdw, zdx, zdy, zdz, zea, zeb, zec, ia22, ld31, zed, zee, zef, zeg, zeh, zei, zej, zek, zel, zem, zen, zeo, zep, zeq, zer, fa_0, fa_1, zes, bd_0, bd_2, zet, fd_1, zeu, Nat.zero_add, st0_1, h, p1, unA_not', Bool.not_false]
      exact finish_tree _ _ _ _ _ _ (.bool true) _ _ (by simp only [zfi, ↓reduceIte]) rfl rfl
    | true =>
      have p2 : ¬ ((([] : List Nat).length : Nat) : Int) > 0 := by simp
      simp only [zaa, zab, zac, zad, zae, zaf, zag, zah, zai, zaj, zak, zal, zam, zan, zao, zap, zaq, zar, zas, zat, zau, zav, zaw, zax, zay, zaz, zba, zbb, zbc, zbd, zbe, zbf, zbg, zbh, zbi, zbj, zbk, zbl, zbm, zbn, zbo, zbp, zbq, Nat.reduceBEq, Bool.or_self, Bool.or_false, Bool.or_true, Bool.and_true, Bool.and_false, Bool.true_and, Bool.false_and, Option.isNone_none, Option.isNone_some, Option.isSome_some, Option.isSome_none, zbr, zbs, zbt, zbu, zbv, zbw, zbx, zby, zbz, zca, zcb, zcc, zcd, zce, zcf, zcg, zch, zci, zcj, zck, zcl, zcm, zcn, zco, zcp, zcq, zcr, own0, zcs, zct, zcu, zcv, zcw, zcx, zcy, zcz, zda, zdb, zdc, zdd, zde, zdf, zdg, zdh, zdi, zdj, zdk, zdl, zdm, zdn, zdo, zdp, zdq, zdr, zds, zdt, zdu, Option.getD_some, Option.getD_none, zfb, zfc, zfd, zfe, zff, zfg, zfh, zfi, Option.map_some, Option.map_none, Option.bind_some, List.map_cons, List.map_nil, List.cons_append, List.nil_append, ↓reduceIte, Nat.reduceEqDiff, Nat.reduceAdd, decide_true, decide_false, Bool.true_eq_false, Bool.false_eq_true, env0, List.getElem?_cons_zero, List.getElem?_cons_succ, zdv, zdw, zdx, zdy, zdz, zea, zeb, zec, ia22, ld31, zed, zee, zef, zeg, zeh, zei, zej, zek, zel, zem, zen, zeo, zep, zeq, zer, fa_0, fa_1, zes, bd_0, bd_2, zet, fd_1, zeu, Nat.zero_add, st0_1, h, p1, p2, unA_not', Bool.not_true]
      exact finish_tree _ _ _ _ _ _ (.bool false) _ _ (by simp only [zfi, ↓reduceIte]) rfl rfl
  · have hp : 0 < l.length := List.length_pos_iff.mpr hz
    have p1 : ((l.length : Int) == 0) = false := by rw [beq_eq_false_iff_ne]; omega
    have p2 : (l.length : Int) > 0 := by omega
    have p3 := i_sub Tryd.prog 3 (l.length : Int) 1 (by omega) (by omega)
    have p4 : (0 : Int) ≤ (l.length : Int) - 1 := by omega
    have p5 : (l.length : Int) - 1 < l.length := by omega
    have p6 : ((l.length : Int) - 1).toNat = l.length - 1 := by omega
    have p7 : l.length - 1 < l.length := by omega
    have q1 : decide (l.length = 0) = false := decide_eq_false (by omega)
    have q2 : decide (0 < l.length) = true := decide_eq_true hp
    simp only [zaa, zab, zac, zad, zae, zaf, zag, zah, zai, zaj, zak, zal, zam, zan, zao, zap, zaq, zar, zas, zat, zau, zav, zaw, zax, zay, zaz, zba, zbb, zbc, zbd, zbe, zbf, zbg, zbh, zbi, zbj, zbk, zbl, zbm, zbn, zbo, zbp, zbq, Nat.reduceBEq, Bool.or_self, Bool.or_false, Bool.or_true, Bool.and_true, Bool.and_false, Bool.true_and, Bool.false_and, Option.isNone_none, Option.isNone_some, Option.isSome_some, Option.isSome_none, zbr, zbs, zbt, zbu, zbv, zbw, zbx, zby, zbz, zca, zcb, zcc, zcd, zce, zcf, zcg, zch, zci, zcj, zck, zcl, zcm, zcn, zco, zcp, zcq, zcr, own0, zcs, zct, zcu, zcv, zcw, zcx, zcy, zcz, zda, zdb, zdc, zdd, zde, zdf, zdg, zdh, zdi, zdj, zdk, zdl, zdm, zdn, zdo, zdp, zdq, zdr, zds, zdt, zdu, Option.getD_some, Option.getD_none, zfb, zfc, zfd, zfe, zff, zfg, zfh, zfi, Option.map_some, Option.map_none, Option.bind_some, List.map_cons, List.map_nil, List.cons_append, List.nil_append, ↓reduceIte, Nat.reduceEqDiff, Nat.reduceAdd, decide_true, decide_false, Bool.true_eq_false, Bool.false_eq_true, env0, List.getElem?_cons_zero, List.getElem?_cons_succ, zdv, zdw, zdx, zdy, zdz, zea, zeb, zec, ia22, ld31, zed, zee, zef, zeg, zeh, zei, zej, zek, zel, zem, zen, zeo, zep, zeq, zer, fa_0, fa_1, zes, bd_0, bd_2, zet, fd_1, zeu, Nat.zero_add, st0_1, h, p1, p2, p3, p4, p5, p6, p7, e1, q1, q2, neq0, Bool.false_and, Bool.false_or, Bool.true_and]
    exact finish_tree _ _ _ _ _ _ (.bool (decide (l.getD (l.length - 1) 0 ≠ 0))) _ _ (by simp only [zfi, ↓reduceIte]) rfl rfl
end Go.Ab

/- Plain code, walked inside a fence (in a round of a range over a function): where the abstract run answers, the walk goes on. No conditions. -/
namespace Go.Ab
section
variable {P : Program} {cfg : Cfg} {call : FuncId → List Arg → Option Out}

/-- Operations that call nothing. -/
def plainOp : Op → Bool
  | .move _ | .assign _ | .alloc _ | .box .. | .load .. | .store .. | .build .. | .buildSlice .. | .binOp .. | .unOp .. | .indexAddr .. => true
  | .call c => match c.callee with
    | .builtin .len => true
    | _ => false
  | _ => false
def resPlain : Result Next → Prop
  | .ok (.value _) _ => True
  | .ok .skip _ => True
  | .ok _ _ => False
  | .halt _ _ => True
theorem resPlain_val {m : Sem Value} (w : World) : resPlain ((do pure (Next.value (← m)) : Sem Next).run P w) := by
  rw [Sem.run_bind]
  cases m.run P w <;> simp [Result.andThen, resPlain]
theorem plain_res {o : Oper} {ρ : Operand → Value} (h : plainOp o.op = true) (w : World) : resPlain ((execOp ρ o).run P w) := by
  unfold plainOp at h
  split at h
  all_goals try (rename_i hop; simp only [execOp, hop]; first | exact resPlain_val w | (exact trivial) | (rw [Sem.run_pure]; exact trivial))
  · rename_i a b c hop
    simp only [execOp, hop, Sem.run_bind]
    cases (Instr.storeAt a (ρ b) (ρ c)).run P w <;> simp [Result.andThen, resPlain]
  · rename_i c hop
    split at h
    · rename_i hc
      have hb : execOp ρ o = (do pure (.value (← Builtin.len_ c.argTypes o.type (c.args.map ρ)))) := by
        simp only [execOp, hop, resolve, hc]
        rfl
      rw [hb]
      exact resPlain_val w
    · cases h
  · cases h
theorem OpTo.inF {o : Oper} {a : Act} {Γ : G} {s' : St} {r : AV} (h : OpTo P o a Γ s' r) (hp : plainOp o.op = true) {F : Fence} (hF : ∀ f, F.fn f) {n : Nat} {next : Act → World → Prop} {Q : Exit → Act → World → Prop}
    (hn : ∀ Γ' v, Γ'.s = s' → Inv Γ' → Ext Γ Γ' → V Γ' r v → next (a.put o.dst v) Γ'.w) : o.wpIn F n P a Γ.w next Q := by
  have h0 := h next (fun _ _ _ => False) hn
  unfold Oper.wp at h0
  unfold Oper.wpIn
  refine ⟨fun f _ => hF f, ?_⟩
  rw [Oper.semAt_plain F _ _ (by intro c hc; rw [hc] at hp; cases hp)]
  have hr := plain_res (P := P) (ρ := a.eval) hp Γ.w
  revert h0 hr
  generalize (execOp a.eval o).run P Γ.w = x
  cases x with
  | ok x w => cases x <;> simp [resPlain, Oper.upon, Oper.uponIn]
  | halt x w => cases x <;> simp [Oper.upon]
/-- The temporaries, whatever calls are deferred. -/
structure EnvV (Γ : G) (env : Env) (a : Act) (m : Nat) : Prop where
  size : a.tmps.size = m
  val : ∀ t, V Γ (env t) (a.tmps.getD t undef)
theorem EnvV.put {Γ Γ' : G} {env : Env} {a : Act} {m : Nat} (h : EnvV Γ env a m) (hE : Ext Γ Γ') {d : Option Tmp} (hd : ∀ x, d = some x → x < m) {r : AV} {v : Value} (hv : V Γ' r v) : EnvV Γ' (setO env d r) (a.put d v) m := by
  obtain ⟨_, h2⟩ := put_tmps a d v
  refine ⟨h2.trans h.size, fun t => ?_⟩
  cases d with
  | none => exact V.ext hE (h.val t)
  | some d =>
    rw [put_get a d v t (by rw [h.size]; exact hd d rfl)]
    simp only [setO]
    by_cases ht : t = d
    · subst ht; simp only [upd_same, if_true]; exact hv
    · rw [upd_ne _ _ ht, if_neg ht]; exact V.ext hE (h.val t)
/-- The first operations of a region. -/
theorem opsA_in (hcall : FnOk P call) {F : Fence} (hF : ∀ f, F.fn f) {n : Nat} {ops : Array Oper} {rest : List Oper} {Q : Exit → Act → World → Prop} {m : Nat} : ∀ (l : List Oper) (env : Env) (Γ : G) (a : Act) (env' : Env) (s' : St),
    (∀ o ∈ l, plainOp o.op = true) → (∀ o ∈ l, ∀ d, o.dst = some d → d < m) → opsA P cfg call false ops l env Γ.s = some (env', s') → Inv Γ → EnvV Γ env a m →
    (∀ Γ' a', Γ'.s = s' → Inv Γ' → Ext Γ Γ' → EnvV Γ' env' a' m → a'.defers = a.defers → wpListIn F n P ops Q rest a' Γ'.w) → wpListIn F n P ops Q (l ++ rest) a Γ.w
  | [], env, Γ, a, env', s', _, _, h, hI, he, hQ => by
    simp only [opsA, Option.some.injEq, Prod.mk.injEq] at h
    obtain ⟨rfl, rfl⟩ := h
    exact hQ Γ a rfl hI (.refl _) he rfl
  | o :: l, env, Γ, a, env', s', hp, hd, h, hI, he, hQ => by
    have hd1 : ∀ x, o.dst = some x → x < m := hd o (List.mem_cons_self ..)
    have hd2 : ∀ o' ∈ l, ∀ d, o'.dst = some d → d < m := fun o' ho' => hd o' (List.mem_cons_of_mem _ ho')
    have hp1 := hp o (List.mem_cons_self ..)
    have hp2 : ∀ o' ∈ l, plainOp o'.op = true := fun o' ho' => hp o' (List.mem_cons_of_mem _ ho')
    have hwant : ∀ b, wantA ops o env = some b → Region.wanted o (yielded ops a.tmps) = b := fun b hb => wantA_ok hb fun _ _ d _ _ => he.val d
    simp only [opsA] at h
    rw [List.cons_append]
    refine wpListIn_step fun K hK => ?_
    split at h
    · rename_i hw
      rw [hwant true hw]
      simp only [if_true]
      simp only [Option.bind_eq_some_iff] at h
      obtain ⟨⟨r, s1⟩, hop, h⟩ := h
      have hop' := opA_ok hcall hI (a := a) (fun x _ => V_ev he.val x) hop
      refine hop'.inF hp1 hF fun Γ' v hs' hI' hE' hv => hK _ _ ?_
      rw [← hs'] at h
      exact opsA_in hcall hF l _ Γ' _ env' s' hp2 hd2 h hI' (he.put hE' hd1 hv) fun Γ'' a'' h1 h2 h3 h4 h5 => hQ Γ'' a'' h1 h2 (hE'.trans h3) h4 (h5.trans (put_tmps a o.dst v).1)
    · rename_i hw
      rw [hwant false hw]
      simp only [Bool.false_eq_true, if_false]
      refine ⟨fun f _ => hF f, hK _ _ ?_⟩
      exact opsA_in hcall hF l _ Γ _ env' s' hp2 hd2 h hI (he.put (.refl _) hd1 undef_tup) fun Γ'' a'' h1 h2 h3 h4 h5 => hQ Γ'' a'' h1 h2 h3 h4 (h5.trans (put_tmps a o.dst undef).1)
    · cases h
/-- Code of plain regions. -/
def plainC : Code → Bool
  | .region _ ops draw => !draw && ops.toList.all fun o => plainOp o.op
  | .seq a b => plainC a && plainC b
  | .cond _ a b => plainC a && plainC b
  | .block _ a => plainC a
  | .skip | .exit _ | .ret => true
  | _ => false
theorem den_in (hcall : FnOk P call) {F : Fence} (hF : ∀ f, F.fn f) {n N m : Nat} {out : Out} : ∀ (c : Code) (K : Kont) (env : Env) (Γ : G) (a : Act) (Q : Exit → Act → World → Prop), plainC c = true → dstOk cfg.keep m c = true → den P cfg call N c K env Γ.s = some out → Inv Γ → EnvV Γ env a m →
    (∀ ex env' Γ' a', K ex env' Γ'.s = some out → Inv Γ' → Ext Γ Γ' → EnvV Γ' env' a' m → a'.defers = a.defers → Q (exOf ex) a' Γ'.w) → c.wpIn F n P Q a Γ.w := by
  intro c
  induction c with
  | skip => intro K env Γ a Q _ _ h hI he hQ; exact wpIn_skip (hQ .normal env Γ a h hI (.refl _) he rfl)
  | exit id => intro K env Γ a Q _ _ h hI he hQ; exact wpIn_exit (hQ (.exit id) env Γ a h hI (.refl _) he rfl)
  | ret => intro K env Γ a Q _ _ h hI he hQ; exact wpIn_ret (hQ .ret env Γ a h hI (.refl _) he rfl)
  | region id ops draw =>
    intro K env Γ a Q hp hd h hI he hQ
    simp only [plainC, Bool.and_eq_true, Bool.not_eq_true', List.all_eq_true] at hp
    obtain ⟨rfl, hp⟩ := hp
    simp only [den, Option.bind_eq_some_iff, killI] at h
    obtain ⟨⟨env', s'⟩, h1, h2⟩ := h
    simp only [dstOk, Bool.and_eq_true] at hd
    have hd1 : ∀ o ∈ ops.toList, ∀ d, o.dst = some d → d < m := fun o ho d hdd => by
      have := List.all_eq_true.1 hd.1 o ho
      rw [hdd] at this
      simpa using this
    refine wpIn_region_list ?_
    rw [← List.append_nil ops.toList]
    refine opsA_in hcall hF ops.toList env Γ a env' s' hp hd1 h1 hI he fun Γ' a' g1 g2 g3 g4 g5 => wpListIn_nil (hQ .normal env' Γ' a' ?_ g2 g3 g4 g5)
    rw [g1]; exact h2
  | seq x y ihx ihy =>
    intro K env Γ a Q hp hd h hI he hQ
    simp only [dstOk, Bool.and_eq_true] at hd
    simp only [plainC, Bool.and_eq_true] at hp
    simp only [den] at h
    refine wpIn_seq (ihx _ env Γ a _ hp.1 hd.1 h hI he fun ex env' Γ' a' g1 g2 g3 g4 g5 => ?_)
    cases ex with
    | normal => exact ihy K env' Γ' a' Q hp.2 hd.2 g1 g2 g4 fun ex2 env2 Γ2 a2 k1 k2 k3 k4 k5 => hQ ex2 env2 Γ2 a2 k1 k2 (g3.trans k3) k4 (k5.trans g5)
    | exit id => exact hQ (.exit id) env' Γ' a' g1 g2 g3 g4 g5
    | ret => exact hQ .ret env' Γ' a' g1 g2 g3 g4 g5
  | cond c x y ihx ihy =>
    intro K env Γ a Q hp hd h hI he hQ
    simp only [dstOk, Bool.and_eq_true] at hd
    simp only [plainC, Bool.and_eq_true] at hp
    simp only [den] at h
    have hV := V_ev he.val c
    split at h
    · rename_i hc
      rw [hc, V_bool] at hV
      exact wpIn_cond_true hV (ihx K env Γ a Q hp.1 hd.1 h hI he hQ)
    · rename_i hc
      rw [hc, V_bool] at hV
      exact wpIn_cond_false hV (ihy K env Γ a Q hp.2 hd.2 h hI he hQ)
    · cases h
  | block id x ih =>
    intro K env Γ a Q hp hd h hI he hQ
    simp only [dstOk] at hd
    simp only [plainC] at hp
    simp only [den] at h
    refine wpIn_block (ih _ env Γ a _ hp hd h hI he fun ex env' Γ' a' g1 g2 g3 g4 g5 => ?_)
    cases ex with
    | normal => exact hQ .normal env' Γ' a' g1 g2 g3 g4 g5
    | exit i =>
      simp only [exOf, Exit.inBlock]
      dsimp only at g1
      split at g1
      · rename_i hi; rw [if_pos hi]; exact hQ .normal env' Γ' a' g1 g2 g3 g4 g5
      · rename_i hi; rw [if_neg hi]; exact hQ (.exit i) env' Γ' a' g1 g2 g3 g4 g5
    | ret => exact hQ .ret env' Γ' a' g1 g2 g3 g4 g5
  | _ => intro K env Γ a Q hp; cases hp

/-! ### What the book-keeping of a range over a function turns -/
theorem blk_cells {w : World} {a : Addr} {v : Value} (h : w.cell? a = some v) : ∃ o, w.heap[a.block]? = some o ∧ o.isCells = true := by
  obtain ⟨o, ho, hc⟩ := cells_of_cell h
  exact ⟨o, ho, hc⟩
/-- Entries hold something, or nothing. -/
def Solid (s : St) : Prop := ∀ p, (s p).c = .dead ∨ ∃ x xs, (s p).c = .buf (x :: xs)
theorem Inv.grown {Γ1 Γ : G} {B : Nat} (hI : Inv Γ) (hE : Ext Γ1 Γ) (hB : Γ1.w.heap.size ≤ B) (hS : ∀ b o, Γ.S b o → b < B ∨ ∃ v, Γ.w.cell? ⟨b, o, none⟩ = some v) (hR : Solid Γ.s)
    {W' : World} {row : Option Nat} (hg : Γ.w.grownBy W' row) (hr : ∀ r, row = some r → B ≤ r ∧ ∃ o : Obj, Γ.w.heap[r]? = some o ∧ o.isCells = false) :
    Inv { Γ with w := W' } ∧ Ext Γ1 { Γ with w := W' } ∧ ∀ b o, Γ.S b o → b < B ∨ ∃ v, W'.cell? ⟨b, o, none⟩ = some v := by
  have hrow : ∀ r, row = some r → ∃ o : Obj, Γ.w.heap[r]? = some o ∧ o.isCells = false := fun r h => (hr r h).2
  have hlow : ∀ b, b < B → b < Γ.w.heap.size → W'.heap[b]? = Γ.w.heap[b]? := fun b hb hs => hg.block b hs fun e => by
    have := (hr b e.symm).1
    omega
  have hsz : Γ.w.heap.size ≤ W'.heap.size := hg.size
  have hcell : ∀ b o, Γ.S b o → W'.cell? ⟨b, o, none⟩ = Γ.w.cell? ⟨b, o, none⟩ := fun b o h => by
    rcases hS b o h with h1 | ⟨v, h1⟩
    · exact cell_of_block (hlow b h1 (hI.stay b o h).1) o
    · rw [h1]; exact cell_kept h1 hg hrow
  have hst : Stays Γ.S Γ.w Γ.S W' := fun b o h => ⟨h, hcell b o h⟩
  have hnm : ∀ p t xs hs, Γ.s p ≠ ⟨t, .mix xs hs⟩ := fun p t xs hs h => by
    rcases hR p with h' | ⟨_, _, h'⟩ <;> rw [h] at h' <;> cases h'
  refine ⟨⟨⟨fun p => ?_, hI.apart, fun b o h => ⟨Nat.lt_of_lt_of_le (hI.stay b o h).1 hsz, (hI.stay b o h).2⟩⟩, fun p t xs hs h => absurd h (hnm p t xs hs)⟩, ⟨hE.stays.trans hst, hg.os.trans hE.os, hg.tape.trans hE.tape, hg.output.trans hE.output, Nat.le_trans hE.size hsz, fun b hb hn => ?_, fun b o hb hn => ?_, fun b o hb hn => ?_, hE.newS, hE.newR, hE.ser, hE.bf, hE.tk⟩, fun b o h => ?_⟩
  · have he := hI.ent p
    unfold EntOk at he ⊢
    dsimp only
    rcases hR p with h | ⟨x, xs, h⟩
    · rw [h]; trivial
    · rw [h] at he ⊢
      simp only [EntC] at he ⊢
      obtain ⟨v0, hv0, _⟩ := he.2.2.1 0 x rfl
      obtain ⟨ob, ho, hc⟩ := blk_cells hv0
      have hb : W'.heap[(Γ.φ p).blk]? = Γ.w.heap[(Γ.φ p).blk]? := grownBy_keeps_cells hg hrow ho hc
      refine ⟨Nat.lt_of_lt_of_le he.1 hsz, fun o => by rw [frozen_of_block hb]; exact he.2.1 o, fun i x hx => ?_, fun i hi => ?_⟩
      · obtain ⟨v, g1, g2, g3⟩ := he.2.2.1 i x hx
        exact ⟨v, by rw [cell_of_block hb]; exact g1, g2, V0.mono hst _ _ g3⟩
      · obtain ⟨v, g1⟩ := he.2.2.2 i hi
        exact ⟨v, by rw [cell_of_block hb]; exact g1⟩
  · exact (hlow b (by omega) (Nat.lt_of_lt_of_le hb hE.size)).trans (hE.block b hb hn)
  · exact (cell_of_block (hlow b (by omega) (Nat.lt_of_lt_of_le hb hE.size)) o).trans (hE.cell b o hb hn)
  · exact (frozen_of_block (hlow b (by omega) (Nat.lt_of_lt_of_le hb hE.size)) o).trans (hE.frzn b o hb hn)
  · rcases hS b o h with h1 | ⟨v, h1⟩
    · exact .inl h1
    · exact .inr ⟨v, cell_kept h1 hg hrow⟩
/-- What is no cells lies as it lay. -/
theorem others_of_ext {Γ Γ' : G} (hI : Inv Γ) (hR : Solid Γ.s) (hE : Ext Γ Γ') : KeepsOthers Γ.w Γ'.w := by
  refine ⟨hE.size, fun k o hk ho => ?_⟩
  have hlt : k < Γ.w.heap.size := (Array.getElem?_eq_some_iff.1 hk).1
  rw [hE.block k hlt fun p q hr => ?_]
  · exact hk
  · rcases hR p with h | ⟨x, xs, h⟩
    · unfold Rg at hr; rw [h] at hr; exact hr
    · unfold Rg at hr; rw [h] at hr
      have he := hI.ent p
      unfold EntOk at he
      rw [h] at he
      obtain ⟨v0, hv0, _⟩ := he.2.2.1 0 x rfl
      obtain ⟨ob, ho', hc⟩ := blk_cells hv0
      dsimp only at ho'
      rw [← hr, hk] at ho'
      cases ho'
      rw [ho] at hc; cases hc
/-! ### Only cells that are there count -/
section
variable {S : Nat → Nat → Prop} {w : World}
def Here (S : Nat → Nat → Prop) (w : World) : Nat → Nat → Prop := fun b o => S b o ∧ ∃ v, w.cell? ⟨b, o, none⟩ = some v
mutual
theorem V0.here : ∀ (x : AV) (v : Value), V0 S w x v → V0 (Here S w) w x v
  | .undef, _, _ => by simp only [V0]
  | .int .., _, k => by simpa only [V0] using k
  | .bool _, _, k => by simpa only [V0] using k
  | .str _, _, k => by simpa only [V0] using k
  | .agg xs, v, k => by
    simp only [V0] at k ⊢
    obtain ⟨vs, hv, hl⟩ := k
    exact ⟨vs, hv, VL.here xs vs hl⟩
  | .tup xs, v, k => by
    simp only [V0] at k ⊢
    obtain ⟨vs, hv, hl⟩ := k
    exact ⟨vs, hv, VT.here xs vs hl⟩
  | .sl xs len g, v, k => by
    simp only [V0] at k ⊢
    obtain ⟨a, cap, hv, hl, hg, hk, hx⟩ := k
    refine ⟨a, cap, hv, hl, hg, hk, ?_⟩
    rcases hx with hx | ⟨b, o, ha, hc⟩
    · exact .inl hx
    · exact .inr ⟨b, o, ha, VC.here xs b o hc⟩
  | .own .., _, k => by simp only [V0] at k
  | .ptr .., _, k => by simp only [V0] at k
  | .rptr xs, v, k => by
    simp only [V0] at k ⊢
    obtain ⟨b, o, hv, hc⟩ := k
    exact ⟨b, o, hv, VC.here xs b o hc⟩
  | .nilp, _, k => by simpa only [V0] using k
  | .fn f xs, v, k => by
    simp only [V0] at k ⊢
    obtain ⟨vs, hv, hl⟩ := k
    exact ⟨vs, hv, VT.here xs vs hl⟩
  | .iface t x, v, k => by
    simp only [V0] at k ⊢
    obtain ⟨u, hv, hl⟩ := k
    exact ⟨u, hv, V0.here x u hl⟩
  | .nili, _, k => by simpa only [V0] using k
theorem VL.here : ∀ (xs : List AV) (vs : List Value), VL S w xs vs → VL (Here S w) w xs vs
  | [], _, k => by simpa only [VL] using k
  | x :: xs, vs, k => by
    simp only [VL] at k ⊢
    obtain ⟨v, r, hv, ho, h0, hr⟩ := k
    exact ⟨v, r, hv, ho, V0.here x v h0, VL.here xs r hr⟩
theorem VT.here : ∀ (xs : List AV) (vs : List Value), VT S w xs vs → VT (Here S w) w xs vs
  | [], _, k => by simpa only [VT] using k
  | x :: xs, vs, k => by
    simp only [VT] at k ⊢
    obtain ⟨v, r, hv, h0, hr⟩ := k
    exact ⟨v, r, hv, V0.here x v h0, VT.here xs r hr⟩
theorem VC.here : ∀ (xs : List AV) (b o : Nat), VC S w xs b o → VC (Here S w) w xs b o
  | [], _, _, _ => by simp only [VC]
  | x :: xs, b, o, k => by
    simp only [VC] at k ⊢
    obtain ⟨hs, ⟨v, hv, ho, h0⟩, hr⟩ := k
    exact ⟨⟨hs, v, hv⟩, ⟨v, hv, ho, V0.here x v h0⟩, VC.here xs b (o + 1) hr⟩
end
theorem Stays.sub {S' : Nat → Nat → Prop} (h : ∀ b o, S b o → S' b o) : Stays S w S' w := fun b o hs => ⟨h b o hs, rfl⟩
end

/-! ### What is looked for behind plain code -/
open Classical in
noncomputable def capK (φ : Ex → Env → St → Prop) : Kont := fun e env s => if φ e env s then some (.tree .undef, []) else none
theorem capK_of {φ : Ex → Env → St → Prop} {e : Ex} {env : Env} {s : St} (h : φ e env s) : capK φ e env s = some (.tree .undef, []) := by unfold capK; rw [if_pos h]
theorem of_capK {φ : Ex → Env → St → Prop} {e : Ex} {env : Env} {s : St} {o : Out} (h : capK φ e env s = some o) : φ e env s := by
  unfold capK at h
  split at h
  · assumption
  · cases h
theorem den_cap (hcall : FnOk P call) {F : Fence} (hF : ∀ f, F.fn f) {n N m : Nat} (φ : Ex → Env → St → Prop) {c : Code} {env : Env} {Γ : G} {a : Act} {Q : Exit → Act → World → Prop} (hp : plainC c = true) (hd : dstOk cfg.keep m c = true)
    (h : den P cfg call N c (capK φ) env Γ.s = some (.tree .undef, [])) (hI : Inv Γ) (he : EnvV Γ env a m)
    (hQ : ∀ ex env' Γ' a', φ ex env' Γ'.s → Inv Γ' → Ext Γ Γ' → EnvV Γ' env' a' m → a'.defers = a.defers → Q (exOf ex) a' Γ'.w) : c.wpIn F n P Q a Γ.w :=
  den_in hcall hF c (capK φ) env Γ a Q hp hd h hI he fun ex env' Γ' a' h1 h2 h3 h4 h5 => hQ ex env' Γ' a' (of_capK h1) h2 h3 h4 h5

/-- Operations that only look. -/
def lookOp : Op → Bool
  | .move _ | .assign _ | .load .. | .binOp .. | .unOp .. | .indexAddr .. => true
  | .call c => match c.callee with
    | .builtin .len => true
    | _ => false
  | _ => false
theorem opA_look {o : Oper} {d : Nat} {env : Env} {Γ : G} {a : Act} {r : AV} {s' : St} (hl : lookOp o.op = true) (hI : Inv Γ) (hev : OpsOk Γ env a o) (h : opA P cfg call false o d env Γ.s = some (r, s')) :
    s' = Γ.s ∧ ∃ v, (execOp a.eval o).run P Γ.w = .ok (.value v) Γ.w ∧ V Γ r v := by
  have fin : ∀ {m : Sem Value} {r : AV}, execOp a.eval o = (do pure (.value (← m))) → PureOk P m Γ r → ∃ v, (execOp a.eval o).run P Γ.w = .ok (.value v) Γ.w ∧ V Γ r v := by
    rintro m r hex ⟨v, h1, h2⟩
    exact ⟨v, by rw [hex, Sem.run_bind, h1]; rfl, h2⟩
  unfold OpsOk at hev
  unfold lookOp at hl
  unfold opA at h
  dsimp only at h
  split at h
  · rename_i x hop
    cases h
    rw [hop] at hev
    exact ⟨rfl, _, by simp only [execOp, hop]; rfl, hev x (by simp [Op.operands])⟩
  · rename_i x hop
    cases h
    rw [hop] at hev
    exact ⟨rfl, _, by simp only [execOp, hop]; rfl, hev x (by simp [Op.operands])⟩
  · rename_i hop; rw [hop] at hl; cases hl
  · rename_i op t x y yt hop
    rw [hop] at hev
    obtain ⟨r', hr, e⟩ := map_some h
    cases e
    exact ⟨rfl, fin (by simp only [execOp, hop]) (binA_ok hr (hev x (by simp [Op.operands])) (hev y (by simp [Op.operands])) x y)⟩
  · rename_i op t x hop
    rw [hop] at hev
    obtain ⟨r', hr, e⟩ := map_some h
    cases e
    exact ⟨rfl, fin (by simp only [execOp, hop]) (unA_ok hr (hev x (by simp [Op.operands])))⟩
  · rename_i hop; rw [hop] at hl; cases hl
  · rename_i hop; rw [hop] at hl; cases hl
  · rename_i t x hop
    rw [hop] at hev
    obtain ⟨r', hr, e⟩ := map_some h
    cases e
    exact ⟨rfl, fin (by simp only [execOp, hop]) (loadA_ok hI hr (hev x (by simp [Op.operands])))⟩
  · rename_i hop; rw [hop] at hl; cases hl
  · rename_i hop; rw [hop] at hl; cases hl
  · rename_i hop; rw [hop] at hl; cases hl
  · rename_i t x i hop
    rw [hop] at hev
    obtain ⟨r', hr, e⟩ := map_some h
    cases e
    exact ⟨rfl, fin (by simp only [execOp, hop]) (indexAddrA_ok hr (hev x (by simp [Op.operands])) (hev i (by simp [Op.operands])))⟩
  · rename_i hop; rw [hop] at hl; cases hl
  · rename_i hop; rw [hop] at hl; cases hl
  · rename_i hop; rw [hop] at hl; cases hl
  · rename_i hop; rw [hop] at hl; cases hl
  · rename_i hop; rw [hop] at hl; cases hl
  · rename_i hop; rw [hop] at hl; cases hl
  · rename_i hop; rw [hop] at hl; cases hl
  · rename_i hop; rw [hop] at hl; cases hl
  · rename_i hop; rw [hop] at hl; cases hl
  · rename_i c hop
    rw [hop] at hev hl
    dsimp only at hl
    have hargs : ∀ x ∈ c.args.toList, V Γ (ev env x) (a.eval x) := fun x hx => hev x (by
      simp only [Op.operands, Call.operands, Array.mem_append]; exact .inr (Array.mem_def.2 hx))
    split at h
    · rename_i hb
      split at h
      · rename_i x t hx ht
        obtain ⟨r', hr, e⟩ := map_some h
        cases e
        refine ⟨rfl, fin (builtinOp (m := Builtin.len_ c.argTypes o.type (c.args.map a.eval)) hop hb rfl) ?_⟩
        have : c.args.map a.eval = #[a.eval x] := by apply Array.ext'; simp [hx]
        rw [this]
        exact lenA_ok hr (hargs x (by rw [hx]; simp)) _ _ ht
      · cases h
    all_goals first
      | (cases h; done)
      | (split at hl
         · simp_all
         · cases hl)
  · cases h
/-- Regions that only look, and their first operations. -/
theorem opsA_look {F : Fence} (hF : ∀ f, F.fn f) {n : Nat} {ops : Array Oper} {rest : List Oper} {Q : Exit → Act → World → Prop} {m : Nat} {Γ : G} (hI : Inv Γ) : ∀ (l : List Oper) (env : Env) (a : Act) (env' : Env) (s' : St),
    (∀ o ∈ l, lookOp o.op = true ∧ o.guard = none) → (∀ o ∈ l, ∀ d, o.dst = some d → d < m) → opsA P cfg call false ops l env Γ.s = some (env', s') → EnvV Γ env a m →
    (∀ a', EnvV Γ env' a' m → a'.defers = a.defers → (∀ t, (∀ o ∈ l, o.dst ≠ some t) → a'.tmps.getD t undef = a.tmps.getD t undef) → wpListIn F n P ops Q rest a' Γ.w) → wpListIn F n P ops Q (l ++ rest) a Γ.w
  | [], env, a, env', s', _, _, h, he, hQ => by
    simp only [opsA, Option.some.injEq, Prod.mk.injEq] at h
    obtain ⟨rfl, rfl⟩ := h
    exact hQ a he rfl fun _ _ => rfl
  | o :: l, env, a, env', s', hp, hd, h, he, hQ => by
    have hd1 : ∀ x, o.dst = some x → x < m := hd o (List.mem_cons_self ..)
    have hp1 := hp o (List.mem_cons_self ..)
    simp only [opsA, wantA, hp1.2, Option.bind_eq_some_iff] at h
    obtain ⟨⟨r, s1⟩, hop, h⟩ := h
    rw [List.cons_append]
    refine wpListIn_plain hp1.2 fun K hK => ?_
    obtain ⟨rfl, v, hv1, hv2⟩ := opA_look hp1.1 hI (a := a) (fun x _ => V_ev he.val x) hop
    refine ⟨fun f _ => hF f, ?_⟩
    rw [Oper.semAt_plain F _ _ (by intro c hc; have := hp1.1; rw [hc] at this; cases this), hv1]
    refine hK _ _ ?_
    refine opsA_look hF hI l _ _ env' s' (fun o' ho' => hp o' (List.mem_cons_of_mem _ ho')) (fun o' ho' => hd o' (List.mem_cons_of_mem _ ho')) h (he.put (.refl _) hd1 hv2) fun a'' h4 h5 h6 => hQ a'' h4 (h5.trans (put_tmps a o.dst v).1) fun t ht => ?_
    rw [h6 t fun o' ho' => ht o' (List.mem_cons_of_mem _ ho')]
    have hot := ht o (List.mem_cons_self ..)
    cases hdst : o.dst with
    | none => rfl
    | some d => rw [put_get a d v t (by rw [he.size]; exact hd1 d hdst), if_neg (fun e => hot (by rw [hdst, e]))]
/-- The answer of a region, out of what goes on behind it. -/
theorem ops1_cap {q : Bool} {all : Array Oper} {l : List Oper} {φ : Ex → Env → St → Prop} {env : Env} {s : St} {o : Out} (h : ops1 P cfg call q all l (capK φ) env s = some o) : ∃ env' s', opsA P cfg call q all l env s = some (env', s') ∧ φ .normal env' s' := by
  unfold ops1 at h
  simp only [Option.bind_eq_some_iff] at h
  obtain ⟨⟨env', s'⟩, h1, h2⟩ := h
  exact ⟨env', s', h1, of_capK h2⟩
/-- A call of a function, in the wide fence. -/
theorem callInF {o : Oper} {a : Act} {w : World} {c : Call} {fo : Operand} {n : Nat} (ho : o.op = .call c) (hc : c.callee = .value fo) {f : FuncId} {caps : List Value} (hf : a.eval fo = .func (.func f) #[] caps.toArray)
    {fn : Func} {cd : Code} (h1 : P.funcs[f]? = some fn) (h2 : fn.name ≠ "runtime.NumGoroutine") (h3 : fn.body = some cd) {R : Ending → World → Prop} (hC : Calls P f (c.args.toList.map a.eval ++ caps).toArray w R)
    {next : Act → World → Prop} {Q : Exit → Act → World → Prop} (hR : ∀ e w', R e w' → ∃ v, e = .returned v ∧ next (a.put o.dst v) w') : o.wpIn Fence.wide n P a w next Q := by
  have hrun : (execOp a.eval o).run P w = .ok (.enter f (c.args.toList.map a.eval ++ caps).toArray) w := by
    have hne : (fn.name == "runtime.NumGoroutine") = false := by simpa using h2
    have hargs : c.args.map a.eval ++ caps.toArray = (c.args.toList.map a.eval ++ caps).toArray := by
      apply Array.ext'; simp
    simp only [execOp, ho, resolve, hc, Sem.run_bind, Deferred.ofValue, hf, Sem.run_pure, Result.andThen_ok, invoke, callFunc, run_program, h1, hne, h3, Option.isNone_some, Bool.false_eq_true, if_false, Array.empty_append, hargs]
  refine ⟨fun f _ => trivial, ?_⟩
  rw [Oper.semAt_plain _ _ _ (by intro c hc; rw [hc] at ho; cases ho), hrun]
  refine ⟨fun h => (by cases h), (callsIn_wide.2 hC).mono fun e w' hr => ?_⟩
  obtain ⟨v, rfl, hn⟩ := hR e w' hr
  exact hn
/-- A round, in the wide fence. -/
theorem roundInF {o : Oper} {a : Act} {w : World} {c : Call} {fo : Operand} {n l : Nat} (ho : o.op = .call c) (hc : c.callee = .value fo) (hf : a.eval fo = .func (.yield l) #[] #[])
    {R : Ending → World → Prop} (hY : YieldAt Fence.wide (n - 1) P l (c.args.toList.map a.eval).toArray w R)
    {next : Act → World → Prop} {Q : Exit → Act → World → Prop} (hR : ∀ e w', R e w' → ∃ v, e = .returned v ∧ next (a.put o.dst v) w') : o.wpIn Fence.wide n P a w next Q := by
  obtain ⟨fn, tmps, assign, body, hy, hr⟩ := hY
  have hrun : (execOp a.eval o).run P w = .ok (.round l fn tmps assign body) w := by
    have hargs : c.args.map a.eval = (c.args.toList.map a.eval).toArray := by
      apply Array.ext'; simp
    simp only [execOp, ho, resolve, hc, Sem.run_bind, Deferred.ofValue, hf, Sem.run_pure, Result.andThen_ok, invoke, Array.empty_append]
    rw [hargs]
    exact hy
  refine ⟨fun f _ => trivial, ?_⟩
  rw [Oper.semAt_plain _ _ _ (by intro c hc; rw [hc] at ho; cases ho), hrun]
  refine ⟨fun h => (by cases h), hr.mono fun e w' hr => ?_⟩
  obtain ⟨v, rfl, hn⟩ := hR e w' hr
  exact hn
end
end Go.Ab
