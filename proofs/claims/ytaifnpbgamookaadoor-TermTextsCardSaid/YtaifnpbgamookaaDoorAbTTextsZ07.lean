/- Several texts put together: AbtX3, AbtX4, AbtT23, AbtT24, AbtB1, AbtB2, AbtTx3, AbtTx4, AbtB3, AbtB4, AbtY1, AbtY2, AbtTx5, AbtTx6, AbtTx7, AbtTx8, AbtTx9, AbtTx10, AbtLawTTexts. Conditions: as each part says. -/
import Derived.Test.YtaifnpbgamookaaDoorAbTTextsZ06
import Derived.Test.YtaifnpbgamookaaDoorAbTTextsZ02
import Derived.Test.YtaifnpbgamookaaDoorAbTTextsZ05
/- A number's text. Conditions: a number that is shown. -/
namespace Go.Ab
open Go.Proofs
set_option maxRecDepth 100000
set_option linter.unusedSimpArgs false

theorem tk64 : tkOf Tryd.prog 55 = .sl 9 := by kernel_rfl
theorem esz9 : esz Tryd.prog 9 = some 1 := by kernel_rfl
theorem zero9 : zeroOf Tryd.prog 9 = some [.str []] := by kernel_rfl
theorem by9 : byOf Tryd.prog 9 = 16 := by kernel_rfl
theorem tk65 : tkOf Tryd.prog 90 = .arr 9 5 := by kernel_rfl
theorem tk66 : tkOf Tryd.prog 58 = .sl 5 := by kernel_rfl
theorem esz5 : esz Tryd.prog 5 = some 1 := by kernel_rfl
theorem zero65 : zeroOf Tryd.prog 90 = some (List.replicate 9 (.int .u8 0)) := by kernel_rfl
theorem conv3_5 (s : St) (x : Nat) (h : x < 256) : convA Tryd.prog 3 5 s (.int .i64 (x : Int)) = some (.int .u8 (x : Int)) := by
  have e : IntKind.u8.wrap (x : Int) = (x : Int) := by
    simp [IntKind.wrap, IntKind.bits, IntKind.signed]; omega
  have t3 : tkOf Tryd.prog 3 = .int .i64 := by kernel_rfl
  simp only [convA, t3, tk5, e]
def ia65 (e : Ent) (p k : Nat) (i : Int) : Option AV := if (cellsE e k).isSome = true ∧ 0 ≤ i ∧ i < 9 then some (.ptr p k i.toNat) else none
theorem ia_65 (s : St) (p k : Nat) (i : Int) : indexAddrA Tryd.prog 90 s (.ptr p k 0) (.int .i64 i) = ia65 (s p) p k i := by
  simp only [indexAddrA, tk65, esz5, Option.bind_some, live, cellsAt_E, ia65, Nat.zero_add, Nat.mul_one]; rfl
theorem ia65_buf (t p k : Nat) (i : Int) (xs : List AV) : ia65 ⟨t, .buf xs⟩ p k i = if t = k then (if 0 ≤ i ∧ i < 9 then some (.ptr p k i.toNat) else none) else none := by
  rw [ia65, cellsE_buf]
  by_cases e : t = k <;> simp [e]
theorem st_5 (s : St) (p k off : Nat) (z : Int) : storeA Tryd.prog 5 s (.ptr p k off) (.int .u8 z) = stB (s p) p k off s (.int .u8 z) := by
  simp only [storeA, settle, Option.bind_some, stB]
  cases h : s p with
  | mk t c => cases c <;> simp [esz5, cellOk]
def sl65 (e : Ent) (p k : Nat) : Option AV := (cellsE e k).bind fun xs => if 9 ≤ xs.length then some (.own p k 0 9 1) else none
theorem sl_65 (s : St) (p k : Nat) : sliceA Tryd.prog 90 s (.ptr p k 0) none none none = sl65 (s p) p k := by
  simp only [sliceA, tk65, esz5, boundA, Option.bind_some, cellsAt_E, sl65, Option.isSome_none, Bool.false_eq_true, if_false]
  cases cellsE (s p) k <;> simp
def cvB (e : Ent) (k : Nat) : Option AV := (cellsE e k).bind fun xs => if 0 + 9 ≤ xs.length then (bytesOf ((xs.drop 0).take 9)).map .str else none
theorem conv66_9 (s : St) (p k : Nat) : convA Tryd.prog 58 9 s (.own p k 0 9 1) = cvB (s p) k := by
  simp only [convA, tk66, tk9, tk5, cellsAt_E, cvB]
def dcell (b : UInt8) : AV := .int .u8 (b.toNat : Int)
theorem bytes_d : ∀ l : List UInt8, bytesOf (l.map dcell) = some l
  | [] => rfl
  | a :: r => by
    have : UInt8.ofNat (a.toNat : Int).toNat = a := by rw [Int.toNat_natCast]; exact UInt8.ofNat_toNat
    simp only [List.map_cons, dcell, bytesOf]
    rw [bytes_d r, Option.map_some, this]
theorem sl65_d (t p k : Nat) (l : List UInt8) (h : l.length = 9) : sl65 ⟨t, .buf (l.map dcell)⟩ p k = if t = k then some (.own p k 0 9 1) else none := by
  rw [sl65, cellsE_buf]
  by_cases e : t = k <;> simp [e, h]
theorem cvB_d (t k : Nat) (l : List UInt8) (h : l.length = 9) : cvB ⟨t, .buf (l.map dcell)⟩ k = if t = k then some (.str l) else none := by
  rw [cvB, cellsE_buf]
  by_cases e : t = k
  · rw [if_pos e, if_pos e, Option.bind_some, if_pos (by simp [h]), List.drop_zero, List.take_of_length_le (by simp [h]), bytes_d]; rfl
  · rw [if_neg e, if_neg e]; rfl
def one64 (x : AV) : Option AV := (fillA (fun i => some (i * 1, 1)) (rep 1 [.str []]) [(0, x)]).map (.sl · 1 .tight)
theorem one64_str (l : List UInt8) : one64 (.str l) = some (.sl [.str l] 1 .tight) := rfl
theorem opA_one64 (call : FuncId → List Arg → Option Out) (q : Bool) (d : Option Tmp) (ty : TypeId) (pos : String) (af : Array Edge) (g : Option (Nat × Bool)) (t : Nat) (env : Env) (s : St) (x : Operand) :
    opA Tryd.prog cfg0 call q ⟨d, .buildSlice 55 1 #[(0, x)], ty, pos, af, g⟩ t env s = (one64 (ev env x)).map (·, s) := by
  rw [opA_bs]
  simp only [tk64, esz9, zero9, Option.bind_some, List.map_cons, List.map_nil]
  rfl
theorem append64 (d : Nat) (s : St) (a : List UInt8) (ss : List (List UInt8)) (g : Grip) (h : ss.length ≤ 1000) : appendA Tryd.prog #[55, 55] d s (.sl [.str a] 1 .tight) (.sl (ss.map .str) ss.length g) = some (.sl ((a :: ss).map .str) (a :: ss).length (.tok d ((s d).t + 1)), upd s d ⟨(s d).t + 1, .tok 1⟩) := by
  have e1 : (#[55, 55] : Array TypeId)[0]? = some 55 := rfl
  have e2 : (#[55, 55] : Array TypeId)[1]? = some 55 := rfl
  simp only [appendA, e1, e2, Option.map_some, tk64, esz9, Option.bind_some, moreA, baseA, by9, zero9, List.length_map, Nat.mul_one, if_true, List.length_cons, List.length_nil, Nat.zero_add]
  rw [if_pos ⟨by omega, by omega, trivial⟩]
  simp [Nat.add_comm]

theorem inter_nil : ∀ ss : List (List UInt8), List.intercalate [] ss = ss.flatten
  | [] => rfl
  | [a] => by simp [List.intercalate]
  | a :: b :: r => by
    have := inter_nil (b :: r)
    simp only [List.intercalate, List.intersperse, List.flatten_cons, List.nil_append] at this ⊢
    rw [this]
theorem strs_map : ∀ ss : List (List UInt8), strsOf (ss.map .str) = some ss
  | [] => rfl
  | a :: r => by simp only [List.map_cons, strsOf, strs_map r, Option.map_some]
theorem evalJoin (n d : Nat) (ss : List (List UInt8)) (g : Grip) (h : ss.flatten.length ≤ 1000000) (hl : ss.length ≤ 1000000) : evalFn Tryd.prog cfg0 n (d+1) 28 [.tree (.sl (ss.map .str) ss.length g), .tree (.str [])] = some (.tree (.str ss.flatten), [[], []]) := by
  have hp : cfg0.prim 28 [.tree (.sl (ss.map .str) ss.length g), .tree (.str [])] = some (.tree (.str ss.flatten), [[], []]) := by
    rw [show cfg0.prim = prim0 from rfl, prim0, if_pos (beq_self_eq_true _)]
    simp only [joinP, strs_map, Option.bind_some, inter_nil]
    rw [if_pos ⟨trivial, by omega, by omega⟩]
  rw [evalFn, hp]
theorem cJoin (n d : Nat) (ss : List (List UInt8)) (g : Grip) (h : ss.flatten.length ≤ 1000000) (hl : ss.length ≤ 1000000) (D : Nat) (s : St) : callA cfg0 (evalFn Tryd.prog cfg0 n (d+1)) D s 28 [.sl (ss.map .str) ss.length g, .str []] = some (.str ss.flatten, s) := by
  have e := fun g => evalJoin n d ss g h hl
  have hf : flatR (.tree (.str ss.flatten)) = true := rfl
  cases g with
  | tok p t => simp [callA, argsA, argA, givesL, givesOf, lendsL, lendsOf, e, backA, resA, hf, lin0]
  | _ => simp [callA, argsA, argA, givesL, givesOf, lendsL, lendsOf, e, backA, resA, hf]
end Go.Ab

/- A number's text: the walk. Conditions: a number that is shown. -/
namespace Go.Ab
open Go.Proofs
set_option maxRecDepth 100000
set_option linter.unusedSimpArgs false

theorem rep_set {α : Type} (a b : α) (l : List α) : ∀ k, (List.replicate (k + 1) a ++ l).set k b = List.replicate k a ++ b :: l
  | 0 => rfl
  | k + 1 => by
    rw [List.replicate_succ, List.cons_append, List.set_cons_succ, rep_set a b l k, List.replicate_succ, List.cons_append]
theorem padN_succ (i v : Nat) : padN (i + 1) v = dg (v / 10 ^ i) :: padN i v := by
  rw [Nat.add_comm, padN_add 1 i v]; rfl
def cellsI (i v : Nat) : List AV := List.replicate (9 - i) (.int .u8 0) ++ (padN i v).map dcell
theorem cellsI_len (i v : Nat) (h : i ≤ 9) : (cellsI i v).length = 9 := by simp [cellsI, padN_len]; omega
theorem cellsI_set (i v : Nat) (h : i < 9) : (cellsI i v).set (8 - i) (.int .u8 ((48 + v / 10 ^ i % 10 : Nat) : Int)) = cellsI (i + 1) v := by
  unfold cellsI
  rw [show 9 - i = (8 - i) + 1 by omega, rep_set, show 9 - (i + 1) = 8 - i by omega, padN_succ, List.map_cons]
  congr 2
  rw [dcell, dg_nat]
theorem cellsI_9 (v : Nat) : cellsI 9 v = (padN 9 v).map dcell := rfl
theorem bd_1R (v : Nat) : buildA Tryd.prog 25 [(1, encR v)] = some (.agg [.bool false, encR v]) := by
  simp only [buildA, zew, tk24, pl24, Option.bind_some]
  unfold encR encL
  split <;> rfl
theorem ten9 : (10 : Nat) ^ 9 = 1000000000 := by decide
theorem cDiv9 (n d : Nat) (hn : 100000 ≤ n) (D : Nat) (s : St) (g : Gk) (v : Nat) (hv : v < B ^ 12) : callA cfg0 (evalFn Tryd.prog cfg0 n (d+5)) D s 51 [encL g (digs v), .sl [.int .u32 1000000000] 1 .tight] = some (.tup [encR (v / 10 ^ 9), encR (v % 10 ^ 9)], s) := by
  have hv1 : val [1000000000] = 1000000000 := by decide
  have := cDivS n d hn D s (w := encL g (digs v)) (w' := .sl [.int .u32 1000000000] 1 .tight) (l := digs v) (m := [1000000000]) (sh_L g _) ⟨.tight, rfl⟩ (limbs_digs _) (limbs_one (by decide)) (by have := digs_len _ 12 hv; omega) (by decide)
  rw [val_digs, hv1, if_neg (by decide), if_neg (by decide), ← ten9] at this
  exact this
theorem cInt9 (n d : Nat) (hn : 100000 ≤ n) (D : Nat) (s : St) (v : Nat) (hv : v < 1000000000) : callA cfg0 (evalFn Tryd.prog cfg0 n (d+3)) D s 52 [.agg [.bool false, encR v]] = some (.tup [.int .i64 (v : Int), .bool true], s) := by
  have big := B12_big
  have e : (.agg [.bool false, encR v] : AV) = encZ (v : Int) := by
    rw [encZ, Int.natAbs_natCast, decide_eq_false (by omega)]
  rw [e]
  have := cInt n d hn (isN_Z (v : Int) (by omega)) D s
  have hi : isI64 (v : Int) = true := by unfold isI64; rw [decide_eq_true (by omega), decide_eq_true (by omega)]; rfl
  rw [intZ, if_pos hi] at this
  exact this
theorem flat9 : ∀ (ss : List (List UInt8)), (∀ x ∈ ss, x.length = 9) → ss.flatten.length = 9 * ss.length
  | [], _ => rfl
  | a :: r, h => by
    rw [List.flatten_cons, List.length_append, h a List.mem_cons_self, flat9 r fun x hx => h x (List.mem_cons_of_mem _ hx), List.length_cons]
    omega
theorem textZ_of (z : Int) : textZ z = if decN z.natAbs = [] then [48] else if z < 0 then 45 :: decN z.natAbs else decN z.natAbs := by
  unfold textZ
  by_cases h : z = 0
  · subst h; rw [if_pos rfl, if_pos (by simp [decN_0])]
  · have h2 : ¬ decN z.natAbs = [] := fun hc => h (by have := (decN_nil _).mp hc; omega)
    rw [if_neg h, if_neg h2]
set_option maxHeartbeats 16000000 in
theorem text_eq (n d : Nat) (hn : 100000 ≤ n) {w : AV} {z : Int} (hw : IsN w z) : evalFn Tryd.prog cfg0 n (d+6) 26 [.tree w] = some (.tree (.str (textZ z)), [[]]) := by
  obtain ⟨g, c1⟩ := cOf n (d + 3) hw
  have hlt := hw.lt
  obtain ⟨neg, g0, l0, rfl, hl, hz⟩ := hw
  rw [evalFn_go _ Tryd.func26 (by unfold Tryd.f26; rfl) (by unfold Tryd.f26; decide) (Nat.le_of_ble_eq_true (by unfold Tryd.f26; rfl)) (by kernel_rfl)]
  simp only [simB, zbo, Nat.reduceBEq, own0, ↓reduceIte, Nat.reduceEqDiff, Nat.reduceAdd, simA, simL, simN, Nat.zero_add, zex, List.toList_toArray, len9, ix9, zey, zez, zfa, zfb, zfc, st0_1, c1, den_loop]
  have h117 : z.natAbs < 10 ^ 117 := Nat.lt_trans hlt (Nat.lt_trans B12_ten (Nat.pow_lt_pow_right (by decide) (by decide)))
  generalize hv : z.natAbs = v at *
  refine loop_ends (X := Nat × Gk × Grip × List (List UInt8)) (fun x env s => env 1 = .ptr 1 1 0 ∧ env 3 = .sl (x.2.2.2.map .str) x.2.2.2.length x.2.2.1 ∧ env 4 = encL x.2.1 (digs (v / 10 ^ (9 * x.1))) ∧ s 1 = ⟨1, .buf [.bool (decide (z < 0)), encL g (digs v)]⟩ ∧ x.2.2.2.length = x.1 ∧ (∀ y ∈ x.2.2.2, y.length = 9) ∧ x.2.2.2.flatten = padN (9 * x.1) v ∧ (x.1 = 0 ∨ v / 10 ^ (9 * x.1) ≠ 0)) (fun x => 13 - x.1) (fun _ => (.tree (.str (textZ z)), [[]])) ?_ n (0, g, .nil, []) _ _ (by simp only; omega) ⟨by first | (simp only [zfk, ↓reduceIte, Nat.reduceEqDiff]; done) | (simp only [zfk, ↓reduceIte, Nat.reduceEqDiff]; rfl), by first | (simp only [zfk, ↓reduceIte, Nat.reduceEqDiff]; done) | (simp only [zfk, ↓reduceIte, Nat.reduceEqDiff]; rfl), by rw [Nat.mul_zero, Nat.pow_zero, Nat.div_one]; simp only [zfk, ↓reduceIte, Nat.reduceEqDiff], by simp only [zfk, ↓reduceIte, Nat.reduceEqDiff], rfl, by simp, rfl, .inl rfl⟩
  intro k ⟨m, gg, gr, ss⟩ hxk ih env s ⟨e1, e3, e4, j1, hm, h9, hfl, hnz⟩
  simp only at e3 e4 hm h9 hfl hnz hxk
  have hm12 : m ≤ 12 := by
    rcases hnz with h | h
    · omega
    · apply Classical.byContradiction
      intro hc
      apply h
      exact Nat.div_eq_of_lt (Nat.lt_of_lt_of_le h117 (Nat.pow_le_pow_right (by decide) (by omega)))
  have hx : v / 10 ^ (9 * m) < B ^ 12 := Nat.lt_of_le_of_lt (Nat.div_le_self _ _) hlt
  have c2 := fun D s => cDiv9 n d hn D s gg _ hx
  rw [Nat.div_div_eq_div_mul, ← Nat.pow_add, show 9 * m + 9 = 9 * (m + 1) by omega] at c2
  have hr : v / 10 ^ (9 * m) % 10 ^ 9 < 1000000000 := by have := Nat.mod_lt (v / 10 ^ (9 * m)) (show 0 < 10 ^ 9 by decide); rwa [ten9] at this ⊢
  obtain ⟨r, hrr⟩ : ∃ r, v / 10 ^ (9 * m) % 10 ^ 9 = r := ⟨_, rfl⟩
  rw [hrr] at c2 hr
  have c3 := fun D s => cInt9 n (d + 2) hn D s r hr
  simp only [simB, zbo, Nat.reduceBEq, own0, ↓reduceIte, Nat.reduceEqDiff, Nat.reduceAdd, simA, simL, simN, Nat.zero_add, zex, List.toList_toArray, len9, ix9, zey, zez, zfa, zfb, zfc, e1, e3, e4, j1, opA_one, one22_int, c2, c3, bd_1R, zero65, den_loop]
  have hr' : padN 9 (v / 10 ^ (9 * m)) = padN 9 r := by rw [← hrr, padN_mod]
  have hfl2 : (padN 9 r :: ss).flatten = padN (9 * (m + 1)) v := by
    rw [List.flatten_cons, hfl, show 9 * (m + 1) = 9 + 9 * m by omega, padN_add 9 (9 * m) v, hr']
  clear c1 c2 c3
  obtain ⟨T, hT⟩ : ∃ T, (s 9).t + 1 = T := ⟨_, rfl⟩
  rw [hT]
  refine loop_ends (X := Nat) (fun i env s => env 1 = .ptr 1 1 0 ∧ env 3 = .sl (ss.map .str) ss.length gr ∧ env 5 = encR (v / 10 ^ (9 * (m + 1))) ∧ env 28 = .int .i64 (i : Int) ∧ env 7 = .int .i64 ((r / 10 ^ i : Nat) : Int) ∧ env 9 = .ptr 9 T 0 ∧ s 1 = ⟨1, .buf [.bool (decide (z < 0)), encL g (digs v)]⟩ ∧ s 9 = ⟨T, .buf (cellsI i r)⟩ ∧ i ≤ 9) (fun i => 9 - i) (fun _ => (.tree (.str (textZ z)), [[]])) ?_ n 0 _ _ (by omega) ⟨by simp only [zfk, ↓reduceIte, Nat.reduceEqDiff, e1], by simp only [zfk, ↓reduceIte, Nat.reduceEqDiff, e3], by simp only [zfk, ↓reduceIte, Nat.reduceEqDiff], by first | (simp only [zfk, ↓reduceIte, Nat.reduceEqDiff]; done) | (simp only [zfk, ↓reduceIte, Nat.reduceEqDiff]; rfl), by rw [Nat.pow_zero, Nat.div_one]; simp only [zfk, ↓reduceIte, Nat.reduceEqDiff], by simp only [zfk, ↓reduceIte, Nat.reduceEqDiff], by simp only [zfk, ↓reduceIte, Nat.reduceEqDiff, j1], by first | (simp only [zfk, ↓reduceIte, Nat.reduceEqDiff]; done) | (simp only [zfk, ↓reduceIte, Nat.reduceEqDiff]; rfl), by decide⟩
  clear e1 e3 e4 j1
  intro k' i hik ihi env s ⟨e1, e3, e5, e28, e7, e9, j1, j9, hi⟩
  by_cases hi9 : i = 9
  · subst hi9
    clear ihi
    have q1 : ¬ ((9 : Nat) : Int) < 9 := by decide
    rw [cellsI_9] at j9
    have s1 := fun t p k => sl65_d t p k (padN 9 r) (padN_len 9 r)
    have s2 := fun t k => cvB_d t k (padN 9 r) (padN_len 9 r)
    have ap := fun d s => append64 d s (padN 9 r) ss gr (by omega)
    have hlen9 : ∀ y ∈ padN 9 r :: ss, y.length = 9 := fun y hy => by
      rcases List.mem_cons.mp hy with rfl | hy
      · exact padN_len _ _
      · exact h9 y hy
    by_cases h0 : v / 10 ^ (9 * (m + 1)) = 0
    · have q2 : (((digs (v / 10 ^ (9 * (m + 1)))).length : Int) == 0) = true := by rw [h0]; simp [digs_0]
      have hlt2 : v < 10 ^ (9 * (m + 1)) := (Nat.div_eq_zero_iff.mp h0).resolve_left (by have := Nat.pow_pos (n := 9 * (m + 1)) (show 0 < 10 by decide); omega)
      have hfl9 := flat9 _ hlen9
      have c4 := fun gr D s => cJoin n (d + 4) (padN 9 r :: ss) gr (by rw [hfl9, List.length_cons]; omega) (by rw [List.length_cons]; omega) D s
      rw [hfl2] at c4
      simp only [List.map_cons] at c4
      have c5 := fun D s => callA_trees (cfg := cfg0) (d := D) (s := s) (f := 53) (vs := [.str (padN (9 * (m + 1)) v), .str [48]]) rfl (trimL0_eq n (d + 3) (padN (9 * (m + 1)) v) (by rw [padN_len]; omega))
      rw [padN_drop _ _ hlt2] at c5
      rw [textZ_of, hv]
      by_cases hd : decN v = []
      · have q3 : (decN v == []) = true := by rw [hd]; rfl
        rw [if_pos hd]
        simp only [simB, zbo, Nat.reduceBEq, own0, ↓reduceIte, Nat.reduceEqDiff, Nat.reduceAdd, simA, simL, simN, Nat.zero_add, zex, List.toList_toArray, len9, ix9, zey, zez, zfa, zfb, zfc, e1, e3, e5, e28, e7, e9, j1, j9, q1, sl_65, s1, conv66_9, s2, opA_one64, one64_str, ap, lenR, q2, c4, c5, q3]
        exact finish_s _ _ _ _ _ _ _ (by simp only [zfk, ↓reduceIte, Nat.reduceEqDiff]) rfl
      · have q3 : (decN v == []) = false := by rw [beq_eq_false_iff_ne]; exact hd
        rw [if_neg hd]
        have hdl := dec_len 117 v h117
        have ad := s_addS Tryd.prog 9 [45] (decN v) (by simp only [List.length_cons, List.length_nil]; omega)
        by_cases hz0 : z < 0
        · rw [if_pos hz0]
          simp only [simB, zbo, Nat.reduceBEq, own0, ↓reduceIte, Nat.reduceEqDiff, Nat.reduceAdd, simA, simL, simN, Nat.zero_add, zex, List.toList_toArray, len9, ix9, zey, zez, zfa, zfb, zfc, e1, e3, e5, e28, e7, e9, j1, j9, q1, sl_65, s1, conv66_9, s2, opA_one64, one64_str, ap, lenR, q2, c4, c5, q3, hz0, ad]
          exact finish_s _ _ _ _ _ _ _ (by simp only [zfk, ↓reduceIte, Nat.reduceEqDiff]) rfl
        · rw [if_neg hz0]
          simp only [simB, zbo, Nat.reduceBEq, own0, ↓reduceIte, Nat.reduceEqDiff, Nat.reduceAdd, simA, simL, simN, Nat.zero_add, zex, List.toList_toArray, len9, ix9, zey, zez, zfa, zfb, zfc, e1, e3, e5, e28, e7, e9, j1, j9, q1, sl_65, s1, conv66_9, s2, opA_one64, one64_str, ap, lenR, q2, c4, c5, q3, hz0]
          exact finish_s _ _ _ _ _ _ _ (by simp only [zfk, ↓reduceIte, Nat.reduceEqDiff]) rfl
    · have q2 : (((digs (v / 10 ^ (9 * (m + 1)))).length : Int) == 0) = false := by
        rw [beq_eq_false_iff_ne]
        intro h
        exact h0 ((digs_len0 _).mp (by omega))
      simp only [simB, zbo, Nat.reduceBEq, own0, ↓reduceIte, Nat.reduceEqDiff, Nat.reduceAdd, simA, simL, simN, Nat.zero_add, zex, List.toList_toArray, len9, ix9, zey, zez, zfa, zfb, zfc, e1, e3, e5, e28, e7, e9, j1, j9, q1, sl_65, s1, conv66_9, s2, opA_one64, one64_str, ap, lenR, q2]
      refine ih (m + 1, (if v / 10 ^ (9 * (m + 1)) = 0 then .n else .l), .tok 45 ((s 45).t + 1), padN 9 r :: ss) _ _ (by simp only; omega) rfl ⟨?_, ?_, ?_, ?_, ?_, hlen9, hfl2, .inr h0⟩
      · simp only [zfk, ↓reduceIte, Nat.reduceEqDiff, e1]
      · simp only [zfk, ↓reduceIte, Nat.reduceEqDiff]; rfl
      · simp only [zfk, ↓reduceIte, Nat.reduceEqDiff]; rfl
      · simp only [zfk, ↓reduceIte, Nat.reduceEqDiff, j1]
      · simp only [List.length_cons]; omega
  · have q1 : (i : Int) < 9 := by omega
    have hri : r / 10 ^ i ≤ r := Nat.div_le_self _ _
    have a1 := i_sub Tryd.prog 3 8 (i : Int) (by omega) (by omega)
    have a2 := i_rem Tryd.prog 3 (r / 10 ^ i) 10 (by decide)
    rw [show ((10 : Nat) : Int) = 10 from rfl] at a2
    have a3 := i_add Tryd.prog 3 48 ((r / 10 ^ i % 10 : Nat) : Int) (by omega) (by omega)
    rw [show (48 : Int) + ((r / 10 ^ i % 10 : Nat) : Int) = ((48 + r / 10 ^ i % 10 : Nat) : Int) by omega] at a3
    have a4 := fun s => conv3_5 s (48 + r / 10 ^ i % 10) (by omega)
    have a5 := i_quo Tryd.prog 3 (r / 10 ^ i) 10 (by decide) (by omega)
    rw [show ((10 : Nat) : Int) = 10 from rfl, Nat.div_div_eq_div_mul, ← Nat.pow_succ] at a5
    have a6 := i_add Tryd.prog 3 (i : Int) 1 (by omega) (by omega)
    have q2 : (0 : Int) ≤ 8 - (i : Int) ∧ 8 - (i : Int) < 9 := by omega
    have q3 : (8 - (i : Int)).toNat = 8 - i := by omega
    have q4 : 8 - i < (cellsI i r).length := by rw [cellsI_len i r hi]; omega
    have q5 := cellsI_set i r (by omega)
    simp only [simB, zbo, Nat.reduceBEq, own0, ↓reduceIte, Nat.reduceEqDiff, Nat.reduceAdd, simA, simL, simN, Nat.zero_add, zex, List.toList_toArray, len9, ix9, zey, zez, zfa, zfb, zfc, e1, e3, e5, e28, e7, e9, j1, j9, q1, a1, a2, a3, a4, a5, a6, ia_65, ia65_buf, q2, and_self, q3, st_5, stB_buf, q4, q5]
    refine ihi (i + 1) _ _ (by omega) rfl ⟨?_, ?_, ?_, ?_, ?_, ?_, ?_, ?_, by omega⟩
    · simp only [zfk, ↓reduceIte, Nat.reduceEqDiff, e1]
    · simp only [zfk, ↓reduceIte, Nat.reduceEqDiff, e3]
    · simp only [zfk, ↓reduceIte, Nat.reduceEqDiff, e5]
    · simp only [zfk, ↓reduceIte, Nat.reduceEqDiff]; rfl
    · simp only [zfk, ↓reduceIte, Nat.reduceEqDiff]
    · simp only [zfk, ↓reduceIte, Nat.reduceEqDiff, e9]
    · simp only [zfk, ↓reduceIte, Nat.reduceEqDiff, j1]
    · simp only [zfk, ↓reduceIte, Nat.reduceEqDiff]
end Go.Ab

/- Light terms; the items of a list. Conditions: lengths in range. -/
namespace Go.Ab
open Go.Proofs
set_option maxRecDepth 100000
set_option linter.unusedSimpArgs false

end Go.Ab

/- How many words a term takes. Conditions: terms that are lean. -/
namespace Go.Ab
open Go.Proofs
set_option maxRecDepth 100000
set_option linter.unusedSimpArgs false

end Go.Ab

/- relictref03.Same, walked. Conditions: so many limbs, nodes at most. -/
namespace Go.Ab
open Go.Proofs
set_option maxRecDepth 100000
set_option linter.unusedSimpArgs false

theorem b_neqV (a b : Bool) : binA Tryd.prog .neq 4 (.bool a) (.bool b) = some (.bool (!(a == b))) := bool_neq 4 tk4 a b
theorem rsameNum_eq (n d : Nat) (b1 b2 : Bool) (b b' : Gk) (l m : List Nat) (hn : l.length < n) (hk : l.length ≤ 1000000) : evalFn Tryd.prog cfg0 n (d+1) 32 [.tree (encA b1 b l), .tree (encA b2 b' m)] = some (.tree (.bool (decide (b1 = b2) && decide (l = m))), [[], []]) := by
  rw [evalFn_go _ Tryd.func32 (by unfold Tryd.f32; rfl) (by unfold Tryd.f32; decide) (Nat.le_of_ble_eq_true (by unfold Tryd.f32; rfl)) (by kernel_rfl)]
  by_cases hb : b1 = b2
  rotate_left
  · have p0 : (b1 == b2) = false := beq_eq_false_iff_ne.mpr hb
    rw [decide_eq_false hb, Bool.false_and]
    simp only [simB, zbo, Nat.reduceBEq, own0, ↓reduceIte, Nat.reduceEqDiff, Nat.reduceAdd, simA, simL, simN, Nat.zero_add, encA, b_neqV, p0, Bool.not_false]
    exact finish_b _ _ _ _ _ _ _ (by simp only [zfk, ↓reduceIte, Nat.reduceEqDiff]; try rfl) rfl
  have p0 : (b1 == b2) = true := beq_iff_eq.mpr hb
  rw [decide_eq_true hb, Bool.true_and]
  by_cases hlm : l.length = m.length
  · have p1 : ((l.length : Int) != (m.length : Int)) = false := by rw [hlm]; exact bne_self_eq_false _
    simp only [simB, zbo, Nat.reduceBEq, own0, ↓reduceIte, Nat.reduceEqDiff, Nat.reduceAdd, simA, simL, simN, Nat.zero_add, encA, b_neqV, p0, Bool.not_true, p1, den_loop]
    refine loop_ends (X := Nat) (fun i env s => env 2 = .ptr 2 1 0 ∧ env 3 = .ptr 3 1 0 ∧ s 2 = ⟨1, .buf [.bool b1, encL b l]⟩ ∧ s 3 = ⟨1, .buf [.bool b2, encL b' m]⟩ ∧ env 5 = .int .i64 (i : Int) ∧ i ≤ l.length ∧ (l.drop i = m.drop i ↔ l = m)) (fun i => l.length - i) (fun _ => (.tree (.bool (decide (l = m))), [[], []])) ?_ n 0 _ _ (by omega) ⟨(by simp only [zfk, ↓reduceIte, Nat.reduceEqDiff]; try rfl), (by simp only [zfk, ↓reduceIte, Nat.reduceEqDiff]; try rfl), (by simp only [zfk, ↓reduceIte, Nat.reduceEqDiff]; try rfl), (by simp only [zfk, ↓reduceIte, Nat.reduceEqDiff]; try rfl), (by simp only [zfk, ↓reduceIte, Nat.reduceEqDiff]; try rfl), Nat.zero_le _, Iff.rfl⟩
    intro k i hx ih env s ⟨h0, h1, j0, j1, h5, hi, hd⟩
    by_cases hp : i = l.length
    · have e : l = m := by
        rw [← hd, hp, List.drop_length, hlm, List.drop_length]
      rw [decide_eq_true e]
      have q1 : ¬ ((i : Int) < (l.length : Int)) := by omega
      simp only [simB, zbo, Nat.reduceBEq, own0, ↓reduceIte, Nat.reduceEqDiff, Nat.reduceAdd, simL, simN, Nat.zero_add, h0, h1, j0, j1, h5, q1]
      exact finish_b _ _ _ _ _ _ _ (by simp only [zfk, ↓reduceIte, Nat.reduceEqDiff]; try rfl) rfl
    · have q1 : (i : Int) < (l.length : Int) := by omega
      have q2 : (0 : Int) ≤ (i : Int) := by omega
      have q3 : i < l.length := by omega
      have q4 : i < m.length := by omega
      have q5 : (i : Int) < (m.length : Int) := by omega
      have f4 := i_add Tryd.prog 3 (i : Int) 1 (by omega) (by omega)
      have dl : l.drop i = l.getD i 0 :: l.drop (i + 1) := by rw [List.getD_eq_getElem?_getD, List.getElem?_eq_getElem q3]; exact List.drop_eq_getElem_cons q3
      have dm : m.drop i = m.getD i 0 :: m.drop (i + 1) := by rw [List.getD_eq_getElem?_getD, List.getElem?_eq_getElem q4]; exact List.drop_eq_getElem_cons q4
      rw [dl, dm, List.cons.injEq] at hd
      by_cases g : l.getD i 0 = m.getD i 0
      · have p2 : ((l.getD i 0 : Int) != (m.getD i 0 : Int)) = false := by rw [g]; exact bne_self_eq_false _
        simp only [simB, zbo, Nat.reduceBEq, own0, ↓reduceIte, Nat.reduceEqDiff, Nat.reduceAdd, simL, simN, Nat.zero_add, h0, h1, j0, j1, h5, q1, q2, q3, q4, q5, Int.toNat_natCast, p2, f4]
        exact ih (i + 1) _ _ (by omega) rfl ⟨(by simp only [zfk, ↓reduceIte, Nat.reduceEqDiff, h0]; try rfl), (by simp only [zfk, ↓reduceIte, Nat.reduceEqDiff, h1]; try rfl), (by simp only [zfk, ↓reduceIte, Nat.reduceEqDiff, j0]; try rfl), (by simp only [zfk, ↓reduceIte, Nat.reduceEqDiff, j1]; try rfl), (by simp only [zfk, ↓reduceIte, Nat.reduceEqDiff]; try rfl), by omega, by rw [← hd]; simp only [g, true_and]⟩
      · have p2 : ((l.getD i 0 : Int) != (m.getD i 0 : Int)) = true := by rw [bne_iff_ne]; omega
        have hne : ¬ l = m := fun e => g (hd.mpr e).1
        rw [decide_eq_false hne]
        simp only [simB, zbo, Nat.reduceBEq, own0, ↓reduceIte, Nat.reduceEqDiff, Nat.reduceAdd, simL, simN, Nat.zero_add, h0, h1, j0, j1, h5, q1, q2, q3, q4, q5, Int.toNat_natCast, p2, f4]
        exact finish_b _ _ _ _ _ _ _ (by simp only [zfk, ↓reduceIte, Nat.reduceEqDiff]; try rfl) rfl
  · have p1 : ((l.length : Int) != (m.length : Int)) = true := by rw [bne_iff_ne]; omega
    rw [decide_eq_false (fun e => hlm (by rw [e]))]
    simp only [simB, zbo, Nat.reduceBEq, own0, ↓reduceIte, Nat.reduceEqDiff, Nat.reduceAdd, simA, simL, simN, Nat.zero_add, encA, b_neqV, p0, Bool.not_true, p1]
    exact finish_b _ _ _ _ _ _ _ (by simp only [zfk, ↓reduceIte, Nat.reduceEqDiff]; try rfl) rfl
noncomputable def codeRS : Code := (Tryd.f15.body).getD .skip
noncomputable def rs20 : Code := seqR (seqR (seqR (seqR codeRS)))
set_option maxHeartbeats 32000000 in
theorem rsameK_eq (n D : Nat) (a b : T) (ha : (kidsT a).length < n) (ha2 : (kidsT a).length ≤ 1000000)
    (h : ∀ i j x y q r, (kidsT a).drop i = x :: q → (kidsT b).drop j = y :: r → evalFn Tryd.prog cfg0 n D 15 [.tree (encT x), .tree (encT y)] = some (.tree (.bool (sameT x y)), [[], []])) (env : Env) (s : St) (e2 : env 2 = .ptr 2 1 0) (e3 : env 3 = .ptr 3 1 0) (j2 : s 2 = ⟨1, .buf (cellsT a)⟩) (j3 : s 3 = ⟨1, .buf (cellsT b)⟩) (e5 : env 5 = .bool true) :
    den Tryd.prog cfg0 (evalFn Tryd.prog cfg0 n D) n rs20 (finK Tryd.prog (cfg0.keep 15) [.tree (encT a), .tree (encT b)] Tryd.f15.results) env s = some (.tree (.bool (sameK (kidsT a) (kidsT b))), [[], []]) := by
  obtain ⟨k, n1, lg, l, s1, i1, kg, us⟩ := a
  obtain ⟨k', n2, lg', l', s', i2, kg', vs⟩ := b
  simp only [kidsT] at ha ha2 h ⊢
  simp only [cellsT] at j2 j3
  by_cases hl : us.length = vs.length
  case neg =>
    have p1 : ((us.length : Int) != (vs.length : Int)) = true := by rw [bne_iff_ne]; omega
    rw [sameK_len us vs hl]
    simp only [rs20, codeRS, seqR, Tryd.f15, Option.getD_some, simB, zbo, Nat.reduceBEq, own0, ↓reduceIte, Nat.reduceEqDiff, Nat.reduceAdd, simL, simN, Nat.zero_add, e2, e3, e5, j2, j3, faT_4, ldT_4, Nat.reduceAdd, unA_not', Bool.not_true, lenTk, i_neqV, p1]
    exact finish_b _ _ _ _ _ _ _ (by simp only [zfk, ↓reduceIte, Nat.reduceEqDiff]; try rfl) rfl
  have p1 : ((us.length : Int) != (vs.length : Int)) = false := by rw [hl]; exact bne_self_eq_false _
  simp only [rs20, codeRS, seqR, Tryd.f15, Option.getD_some, simB, zbo, Nat.reduceBEq, own0, ↓reduceIte, Nat.reduceEqDiff, Nat.reduceAdd, simL, simN, Nat.zero_add, e2, e3, e5, j2, j3, faT_4, ldT_4, Nat.reduceAdd, unA_not', Bool.not_true, lenTk, i_neqV, p1, den_loop]
  refine loop_ends (X := Nat) (fun i env s => env 2 = .ptr 2 1 0 ∧ env 3 = .ptr 3 1 0 ∧ s 2 = ⟨1, .buf (cellsT (.mk k n1 lg l s1 i1 kg us))⟩ ∧ s 3 = ⟨1, .buf (cellsT (.mk k' n2 lg' l' s' i2 kg' vs))⟩ ∧ env 6 = .int .i64 (i : Int) ∧ i ≤ us.length ∧ sameK (us.drop i) (vs.drop i) = sameK us vs) (fun i => us.length - i) (fun _ => (.tree (.bool (sameK us vs)), [[], []])) ?_ n 0 _ _ (by omega) ⟨(by simp only [zfk, ↓reduceIte, Nat.reduceEqDiff, e2]; try rfl), (by simp only [zfk, ↓reduceIte, Nat.reduceEqDiff, e3]; try rfl), by simp only [cellsT]; exact j2, by simp only [cellsT]; exact j3, (by simp only [zfk, ↓reduceIte, Nat.reduceEqDiff]; try rfl), Nat.zero_le _, rfl⟩
  clear e2 e3 j2 j3 e5
  intro rr i hx ih env st ⟨e2, e3, j2, j3, e6, hi, hc⟩
  simp only [cellsT] at j2 j3
  cases hda : us.drop i with
  | nil =>
    have hil : i = us.length := by have := congrArg List.length hda; simp only [List.length_drop, List.length_nil] at this; omega
    have q1 : ¬ ((i : Int) < (us.length : Int)) := by omega
    have hdb : vs.drop i = [] := List.drop_eq_nil_of_le (by omega)
    rw [hda, hdb] at hc
    simp only [sameK] at hc
    rw [← hc]
    simp only [simB, zbo, Nat.reduceBEq, own0, ↓reduceIte, Nat.reduceEqDiff, Nat.reduceAdd, simL, simN, Nat.zero_add, e2, e3, j2, j3, e6, faT_4, ldT_4, Nat.reduceAdd, lenTk, q1]
    exact finish_b _ _ _ _ _ _ _ (by simp only [zfk, ↓reduceIte, Nat.reduceEqDiff]; try rfl) rfl
  | cons x q =>
    have hil : i < us.length := by have := congrArg List.length hda; simp only [List.length_drop, List.length_cons] at this; omega
    have hjl : i < vs.length := by omega
    have q1 : (i : Int) < (us.length : Int) := by omega
    have ia := fun st => ia_K st us (gr kg) i hil
    rw [hda] at ia hc
    have ld := fun st => ld_K st x q
    simp only [encT] at ld
    cases hdb : vs.drop i with
    | nil => have := congrArg List.length hdb; simp only [List.length_drop, List.length_nil] at this; omega
    | cons y r =>
      have ib := fun st => ia_K st vs (gr kg') i hjl
      rw [hdb] at ib hc
      have ldb := fun st => ld_K st y r
      simp only [encT] at ldb
      simp only [sameK] at hc
      have cc := callQ_trees (f := 15) (vs := [encT x, encT y]) rfl (h i i x y q r hda hdb)
      simp only [encT] at cc
      have f5 := i_add Tryd.prog 3 (i : Int) 1 (by omega) (by omega)
      cases g : sameT x y with
      | true =>
        rw [g, Bool.true_and] at hc
        rw [g] at cc
        simp only [simB, zbo, Nat.reduceBEq, own0, ↓reduceIte, Nat.reduceEqDiff, Nat.reduceAdd, simL, simN, Nat.zero_add, e2, e3, j2, j3, e6, faT_4, ldT_4, Nat.reduceAdd, q1, lenTk, ia, ib, ld, ldb, cc, unA_not', Bool.not_true, f5]
        exact ih (i + 1) _ _ (by omega) rfl ⟨(by simp only [zfk, ↓reduceIte, Nat.reduceEqDiff, e2]; try rfl), (by simp only [zfk, ↓reduceIte, Nat.reduceEqDiff, e3]; try rfl), by simp only [cellsT]; exact j2, by simp only [cellsT]; exact j3, (by simp only [zfk, ↓reduceIte, Nat.reduceEqDiff]; try rfl), by omega, by rw [drop_next hda, drop_next hdb]; exact hc⟩
      | false =>
        rw [g, Bool.false_and] at hc
        rw [g] at cc
        rw [← hc]
        simp only [simB, zbo, Nat.reduceBEq, own0, ↓reduceIte, Nat.reduceEqDiff, Nat.reduceAdd, simL, simN, Nat.zero_add, e2, e3, j2, j3, e6, faT_4, ldT_4, Nat.reduceAdd, q1, lenTk, ia, ib, ld, ldb, cc, unA_not', Bool.not_false, f5]
        exact finish_b _ _ _ _ _ _ _ (by simp only [zfk, ↓reduceIte, Nat.reduceEqDiff]; try rfl) rfl
end Go.Ab

/- relictref03.Same of any terms. Conditions: so many limbs, nodes at most. -/
namespace Go.Ab
open Go.Proofs
set_option maxRecDepth 100000
set_option linter.unusedSimpArgs false
set_option maxHeartbeats 32000000 in
theorem rsame_eq (n : Nat) (hn : n ≤ 1000001) : ∀ (d D : Nat) (a0 b0 : T), htT a0 ≤ d → d + 1 ≤ D → fewT n a0 →
    evalFn Tryd.prog cfg0 n D 15 [.tree (encT a0), .tree (encT b0)] = some (.tree (.bool (sameT a0 b0)), [[], []])
  | 0, _, a0, b0, hd, _, hf => by obtain ⟨k, b, lg, l, s, m, kg, ks⟩ := a0; simp only [htT] at hd; omega
  | d + 1, D, a0, b0, hd, hD, hf => by
    obtain ⟨m, rfl⟩ : ∃ m, D = m + 2 := ⟨D - 2, by omega⟩
    have IH := fun a b h1 h2 => rsame_eq n hn d (m + 1) a b h1 (by omega) h2
    rw [evalFn_go _ Tryd.func15 (by unfold Tryd.f15; rfl) (by unfold Tryd.f15; decide) (Nat.le_of_ble_eq_true (by unfold Tryd.f15; rfl)) (by kernel_rfl)]
    have K := rsameK_eq n (m + 1) a0 b0
    obtain ⟨k, n1, lg, l, s, i1, kg, ks⟩ := a0
    obtain ⟨k', n2, lg', l', s', i2, kg', ks'⟩ := b0
    have hf' : l.length < n ∧ ks.length < n ∧ fewK n ks := by simp only [fewT] at hf; exact hf
    have hhk : htK ks ≤ d := by simp only [htT] at hd; omega
    have c1 := fun D st => callA_trees (cfg := cfg0) (d := D) (s := st) (f := 32) (vs := [encA n1 lg l, encA n2 lg' l']) (by cases lg <;> cases lg' <;> rfl) (rsameNum_eq n m n1 n2 lg lg' l l' hf'.1 (by omega))
    simp only [encA] at c1
    simp only [kidsT] at K
    have K := fun env s => K hf'.2.1 (by omega) (fun i j x y q r h1 h2 => IH x y (by have := kids_ht ks i x q h1; omega) (fewK_at _ ks i x q h1 hf'.2.2)) env s
    simp only [encT] at K
    have iq : (i1 == i2) = decide (i1 = i2) := intEq _ _
    by_cases hk : k = k'
    case neg =>
      have p1 : (k != k') = true := by rw [bne_iff_ne]; exact hk
      have hr : sameT (.mk k n1 lg l s i1 kg ks) (.mk k' n2 lg' l' s' i2 kg' ks') = false := by first | (simp [sameT, kindT, sgnT, limT, strT, nT, kidsT, hk]; done) | (simp [sameT, kindT, sgnT, limT, strT, nT, kidsT, hk]; rfl)
      rw [hr]
      simp only [simB, zbo, Nat.reduceBEq, own0, ↓reduceIte, Nat.reduceEqDiff, Nat.reduceAdd, simA, simL, simN, Nat.zero_add, encT, cellsT, faT_0, ldT_0, i_neqV, p1]
      exact finish_b _ _ _ _ _ _ _ (by simp only [zfk, ↓reduceIte, Nat.reduceEqDiff]; try rfl) rfl
    subst hk
    have p1 : (k != k) = false := bne_self_eq_false _
    by_cases h1 : k = 1
    · subst h1
      have hr : sameT (.mk 1 n1 lg l s i1 kg ks) (.mk 1 n2 lg' l' s' i2 kg' ks') = (decide (n1 = n2) && decide (l = l')) := by first | (simp [sameT, kindT, sgnT, limT, strT, nT, kidsT]; done) | (simp [sameT, kindT, sgnT, limT, strT, nT, kidsT]; rfl)
      rw [hr]
      simp only [simB, zbo, Nat.reduceBEq, own0, ↓reduceIte, Nat.reduceEqDiff, Nat.reduceAdd, simA, simL, simN, Nat.zero_add, encT, cellsT, faT_0, faT_1, faT_2, faT_3, faT_4, ldT_0, ldT_1, ldT_2, ldT_3, ldT_4, Nat.reduceAdd, i_neqV, p1, i_eqlV, Int.reduceBEq, s_eqlS, c1]
      exact finish_b _ _ _ _ _ _ _ (by simp only [zfk, ↓reduceIte, Nat.reduceEqDiff]; try rfl) rfl
    have b1 : (k == 1) = false := beq_eq_false_iff_ne.mpr h1
    by_cases h2 : k = 2
    · subst h2
      have hr : sameT (.mk 2 n1 lg l s i1 kg ks) (.mk 2 n2 lg' l' s' i2 kg' ks') = (decide (s = s')) := by first | (simp [sameT, kindT, sgnT, limT, strT, nT, kidsT]; done) | (simp [sameT, kindT, sgnT, limT, strT, nT, kidsT]; rfl)
      rw [hr]
      simp only [simB, zbo, Nat.reduceBEq, own0, ↓reduceIte, Nat.reduceEqDiff, Nat.reduceAdd, simA, simL, simN, Nat.zero_add, encT, cellsT, faT_0, faT_1, faT_2, faT_3, faT_4, ldT_0, ldT_1, ldT_2, ldT_3, ldT_4, Nat.reduceAdd, i_neqV, p1, i_eqlV, Int.reduceBEq, s_eqlS, strEq]
      exact finish_b _ _ _ _ _ _ _ (by simp only [zfk, ↓reduceIte, Nat.reduceEqDiff]; try rfl) rfl
    have b2 : (k == 2) = false := beq_eq_false_iff_ne.mpr h2
    by_cases h6 : k = 6
    · subst h6
      have hr : sameT (.mk 6 n1 lg l s i1 kg ks) (.mk 6 n2 lg' l' s' i2 kg' ks') = (decide (s = s')) := by first | (simp [sameT, kindT, sgnT, limT, strT, nT, kidsT]; done) | (simp [sameT, kindT, sgnT, limT, strT, nT, kidsT]; rfl)
      rw [hr]
      simp only [simB, zbo, Nat.reduceBEq, own0, ↓reduceIte, Nat.reduceEqDiff, Nat.reduceAdd, simA, simL, simN, Nat.zero_add, encT, cellsT, faT_0, faT_1, faT_2, faT_3, faT_4, ldT_0, ldT_1, ldT_2, ldT_3, ldT_4, Nat.reduceAdd, i_neqV, p1, i_eqlV, Int.reduceBEq, s_eqlS, strEq]
      exact finish_b _ _ _ _ _ _ _ (by simp only [zfk, ↓reduceIte, Nat.reduceEqDiff]; try rfl) rfl
    have b6 : (k == 6) = false := beq_eq_false_iff_ne.mpr h6
    by_cases h8 : k = 8
    · subst h8
      have hr : sameT (.mk 8 n1 lg l s i1 kg ks) (.mk 8 n2 lg' l' s' i2 kg' ks') = (decide (s = s') && decide (i1 = i2)) := by first | (simp [sameT, kindT, sgnT, limT, strT, nT, kidsT]; done) | (simp [sameT, kindT, sgnT, limT, strT, nT, kidsT]; rfl)
      rw [hr]
      by_cases g : s = s'
      · have g' : (s == s') = true := beq_iff_eq.mpr g
        rw [decide_eq_true g, Bool.true_and]
        simp only [simB, zbo, Nat.reduceBEq, own0, ↓reduceIte, Nat.reduceEqDiff, Nat.reduceAdd, simA, simL, simN, Nat.zero_add, encT, cellsT, faT_0, faT_1, faT_2, faT_3, faT_4, ldT_0, ldT_1, ldT_2, ldT_3, ldT_4, Nat.reduceAdd, i_neqV, p1, i_eqlV, Int.reduceBEq, s_eqlS, g', iq]
        exact finish_b _ _ _ _ _ _ _ (by simp only [zfk, ↓reduceIte, Nat.reduceEqDiff]; try rfl) rfl
      · have g' : (s == s') = false := beq_eq_false_iff_ne.mpr g
        rw [decide_eq_false g, Bool.false_and]
        simp only [simB, zbo, Nat.reduceBEq, own0, ↓reduceIte, Nat.reduceEqDiff, Nat.reduceAdd, simA, simL, simN, Nat.zero_add, encT, cellsT, faT_0, faT_1, faT_2, faT_3, faT_4, ldT_0, ldT_1, ldT_2, ldT_3, ldT_4, Nat.reduceAdd, i_neqV, p1, i_eqlV, Int.reduceBEq, s_eqlS, g', iq]
        exact finish_b _ _ _ _ _ _ _ (by simp only [zfk, ↓reduceIte, Nat.reduceEqDiff]; try rfl) rfl
    have b8 : (k == 8) = false := beq_eq_false_iff_ne.mpr h8
    by_cases h9 : k = 9
    · subst h9
      have hr : sameT (.mk 9 n1 lg l s i1 kg ks) (.mk 9 n2 lg' l' s' i2 kg' ks') = (decide (i1 = i2)) := by first | (simp [sameT, kindT, sgnT, limT, strT, nT, kidsT]; done) | (simp [sameT, kindT, sgnT, limT, strT, nT, kidsT]; rfl)
      rw [hr]
      simp only [simB, zbo, Nat.reduceBEq, own0, ↓reduceIte, Nat.reduceEqDiff, Nat.reduceAdd, simA, simL, simN, Nat.zero_add, encT, cellsT, faT_0, faT_1, faT_2, faT_3, faT_4, ldT_0, ldT_1, ldT_2, ldT_3, ldT_4, Nat.reduceAdd, i_neqV, p1, i_eqlV, Int.reduceBEq, s_eqlS, iq]
      exact finish_b _ _ _ _ _ _ _ (by simp only [zfk, ↓reduceIte, Nat.reduceEqDiff]; try rfl) rfl
    have b9 : (k == 9) = false := beq_eq_false_iff_ne.mpr h9
    by_cases h7 : k = 7
    · subst h7
      have hr : sameT (.mk 7 n1 lg l s i1 kg ks) (.mk 7 n2 lg' l' s' i2 kg' ks') = (decide (i1 = i2) && sameK ks ks') := by first | (simp [sameT, kindT, sgnT, limT, strT, nT, kidsT]; done) | (simp [sameT, kindT, sgnT, limT, strT, nT, kidsT]; rfl)
      rw [hr]
      by_cases g : i1 = i2
      · have g' : (i1 == i2) = true := beq_iff_eq.mpr g
        rw [decide_eq_true g, Bool.true_and]
        simp only [simD, zbo, Nat.reduceBEq, own0, ↓reduceIte, Nat.reduceEqDiff, Nat.reduceAdd, simA, simL, simN, Nat.zero_add, encT, cellsT, faT_0, faT_1, faT_2, faT_3, faT_4, ldT_0, ldT_1, ldT_2, ldT_3, ldT_4, Nat.reduceAdd, i_neqV, p1, i_eqlV, Int.reduceBEq, s_eqlS, zci, g', den_loop]
        rw [zcl, zci]
        exact K _ _ (by simp only [zfk, ↓reduceIte, Nat.reduceEqDiff]; try rfl) (by simp only [zfk, ↓reduceIte, Nat.reduceEqDiff]; try rfl) (by simp only [zfk, ↓reduceIte, Nat.reduceEqDiff]; try rfl) (by simp only [zfk, ↓reduceIte, Nat.reduceEqDiff]; try rfl) (by simp only [zfk, ↓reduceIte, Nat.reduceEqDiff]; try rfl)
      · have g' : (i1 == i2) = false := beq_eq_false_iff_ne.mpr g
        rw [decide_eq_false g, Bool.false_and]
        simp only [simB, zbo, Nat.reduceBEq, own0, ↓reduceIte, Nat.reduceEqDiff, Nat.reduceAdd, simA, simL, simN, Nat.zero_add, encT, cellsT, faT_0, faT_1, faT_2, faT_3, faT_4, ldT_0, ldT_1, ldT_2, ldT_3, ldT_4, Nat.reduceAdd, i_neqV, p1, i_eqlV, Int.reduceBEq, s_eqlS, g', unA_not', Bool.not_false]
        exact finish_b _ _ _ _ _ _ _ (by simp only [zfk, ↓reduceIte, Nat.reduceEqDiff]; try rfl) rfl
    have b7 : (k == 7) = false := beq_eq_false_iff_ne.mpr h7
    by_cases h4 : k = 4
    · subst h4
      have hr : sameT (.mk 4 n1 lg l s i1 kg ks) (.mk 4 n2 lg' l' s' i2 kg' ks') = (sameK ks ks') := by first | (simp [sameT, kindT, sgnT, limT, strT, nT, kidsT]; done) | (simp [sameT, kindT, sgnT, limT, strT, nT, kidsT]; rfl)
      rw [hr]
      simp only [simD, zbo, Nat.reduceBEq, own0, ↓reduceIte, Nat.reduceEqDiff, Nat.reduceAdd, simA, simL, simN, Nat.zero_add, encT, cellsT, faT_0, faT_1, faT_2, faT_3, faT_4, ldT_0, ldT_1, ldT_2, ldT_3, ldT_4, Nat.reduceAdd, i_neqV, p1, i_eqlV, Int.reduceBEq, s_eqlS, zci, den_loop]
      rw [zcl, zci]
      exact K _ _ (by simp only [zfk, ↓reduceIte, Nat.reduceEqDiff]; try rfl) (by simp only [zfk, ↓reduceIte, Nat.reduceEqDiff]; try rfl) (by simp only [zfk, ↓reduceIte, Nat.reduceEqDiff]; try rfl) (by simp only [zfk, ↓reduceIte, Nat.reduceEqDiff]; try rfl) (by simp only [zfk, ↓reduceIte, Nat.reduceEqDiff]; try rfl)
    have b4 : (k == 4) = false := beq_eq_false_iff_ne.mpr h4
    by_cases h5 : k = 5
    · subst h5
      have hr : sameT (.mk 5 n1 lg l s i1 kg ks) (.mk 5 n2 lg' l' s' i2 kg' ks') = (sameK ks ks') := by first | (simp [sameT, kindT, sgnT, limT, strT, nT, kidsT]; done) | (simp [sameT, kindT, sgnT, limT, strT, nT, kidsT]; rfl)
      rw [hr]
      simp only [simD, zbo, Nat.reduceBEq, own0, ↓reduceIte, Nat.reduceEqDiff, Nat.reduceAdd, simA, simL, simN, Nat.zero_add, encT, cellsT, faT_0, faT_1, faT_2, faT_3, faT_4, ldT_0, ldT_1, ldT_2, ldT_3, ldT_4, Nat.reduceAdd, i_neqV, p1, i_eqlV, Int.reduceBEq, s_eqlS, zci, den_loop]
      rw [zcl, zci]
      exact K _ _ (by simp only [zfk, ↓reduceIte, Nat.reduceEqDiff]; try rfl) (by simp only [zfk, ↓reduceIte, Nat.reduceEqDiff]; try rfl) (by simp only [zfk, ↓reduceIte, Nat.reduceEqDiff]; try rfl) (by simp only [zfk, ↓reduceIte, Nat.reduceEqDiff]; try rfl) (by simp only [zfk, ↓reduceIte, Nat.reduceEqDiff]; try rfl)
    have b5 : (k == 5) = false := beq_eq_false_iff_ne.mpr h5
    have hr : sameT (.mk k n1 lg l s i1 kg ks) (.mk k n2 lg' l' s' i2 kg' ks') = true := by first | (simp [sameT, kindT, sgnT, limT, strT, nT, kidsT, h1, h2, h4, h5, h6, h7, h8, h9]; done) | (simp [sameT, kindT, sgnT, limT, strT, nT, kidsT, h1, h2, h4, h5, h6, h7, h8, h9]; rfl)
    rw [hr]
    simp only [simB, zbo, Nat.reduceBEq, own0, ↓reduceIte, Nat.reduceEqDiff, Nat.reduceAdd, simA, simL, simN, Nat.zero_add, encT, cellsT, faT_0, ldT_0, i_neqV, p1, i_eqlV, b1, b2, b4, b5, b6, b7, b8, b9]
    exact finish_b _ _ _ _ _ _ _ (by simp only [zfk, ↓reduceIte, Nat.reduceEqDiff]; try rfl) rfl
end Go.Ab

/- The run of what TermTexts asks (CFG6): the terms that are made by numbers, their texts. Conditions: none. -/
namespace Go.Ab
open Go.Proofs Go.RowKit
set_option maxRecDepth 100000
set_option linter.unusedSimpArgs false

def run6 (f : FuncId) : Bool := f == 14 || f == 25 || f == 13 || f == 4
noncomputable def prim6 (f : FuncId) (xs : List Arg) : Option Out := match run6 f with
  | true => if f == 14 then textP xs else none
  | false => evalFn Tryd.prog cfg0 9223372036854775808 6190 f xs
noncomputable def cfg6 : Cfg := ⟨fun _ _ => false, fun _ => false, prim6, fun p => p == "=law.go:255"⟩
theorem own6 (p : String) : cfg6.ownAt p = (p == "=law.go:255") := rfl
theorem keep6 (f : FuncId) : cfg6.keep f = false := rfl
theorem lin6 (f : FuncId) (j : Nat) : cfg6.lin f j = false := rfl
theorem ev6 {n d : Nat} {f : FuncId} {xs : List Arg} {o : Out} (h1 : run6 f = false) (h : evalFn Tryd.prog cfg0 9223372036854775808 6190 f xs = some o) : evalFn Tryd.prog cfg6 n (d+1) f xs = some o := by
  have hc : cfg6.prim = prim6 := rfl
  have hp : prim6 f xs = some o := by unfold prim6; rw [h1]; exact h
  rw [evalFn]
  simp only [hc, hp]
theorem textB_eq (n d : Nat) (b : Bool) (lg : Gk) (l : List Nat) (s : List UInt8) (m : Int) (kg : Gk) (ks : List T) (hs : s.length ≤ 1000) : evalFn Tryd.prog cfg6 n (d+1) 14 [.tree (encT (.mk 6 b lg l s m kg ks))] = some (.tree (.str (60 :: 60 :: (hexS s ++ [62, 62]))), [[]]) := by
  have hc : cfg6.prim = prim6 := rfl
  have hp : prim6 14 [.tree (encT (.mk 6 b lg l s m kg ks))] = some (.tree (.str (60 :: 60 :: (hexS s ++ [62, 62]))), [[]]) := by
    show textP [.tree (encT (.mk 6 b lg l s m kg ks))] = _
    simp only [encT, cellsT, textP]
    exact if_pos ⟨trivial, hs⟩
  rw [evalFn]
  simp only [hc, hp]
end Go.Ab

/- term.Text of a term that is made (CFG6). Conditions: so many nodes at most. -/
namespace Go.Ab
open Go.Proofs
set_option maxRecDepth 100000
set_option linter.unusedSimpArgs false

theorem textZ_len (z : Int) (h : z.natAbs < B ^ 12) : (textZ z).length ≤ 200 := by
  have := dec_len 116 z.natAbs (Nat.lt_trans h B12_ten)
  unfold textZ
  (repeat' split)
  · decide
  · rw [List.length_cons]; omega
  · omega
mutual
theorem text_le : ∀ t : T, mdT t → (textT t).length ≤ 1000 * nodT t
  | .mk k b lg l s n kg ks, h => by
    simp only [mdT] at h
    simp only [textT, nodT]
    rcases h.2.2.2 with ⟨rfl, hc, _⟩ | ⟨rfl, _, hl, _⟩ | ⟨rfl, _⟩ | ⟨rfl, _, _, _, hl⟩ | ⟨rfl, _, _, _, hl⟩ | ⟨rfl, _, _, hl, _⟩
    · rw [if_pos rfl]
      have := textZ_len (numZ b l) (numZ_lt b l h.2.1)
      omega
    · rw [if_neg (by decide), if_pos rfl]; omega
    · show 2 ≤ _; omega
    · show (91 :: textC ks).length ≤ _
      have := textC_le ks h.2.2.1
      rw [List.length_cons]; omega
    · show (123 :: (textL ks ++ [125])).length ≤ _
      have := textL_le ks h.2.2.1
      rw [List.length_cons, List.length_append, List.length_cons, List.length_nil]; omega
    · show (60 :: 60 :: (hexS s ++ [62, 62])).length ≤ _
      have := hexS_len s
      rw [List.length_cons, List.length_cons, List.length_append, List.length_cons, List.length_cons, List.length_nil]; omega
theorem textC_le : ∀ ks : List T, mdK ks → (textC ks).length ≤ 1000 * nodK ks + 2
  | [], _ => Nat.zero_le _
  | t :: r, h => by
    simp only [mdK] at h
    have h1 := text_le t h.1
    have h2 := textD_le r h.2
    simp only [textC, nodK, List.length_append, List.length_cons]
    omega
theorem textD_le : ∀ ks : List T, mdK ks → (textD ks).length ≤ 1000 * nodK ks + 1
  | [], _ => Nat.zero_le _
  | t :: r, h => by
    simp only [mdK] at h
    have h1 := text_le t h.1
    simp only [textD, nodK, List.length_append, List.length_cons, List.length_nil]
    omega
theorem textL_le : ∀ ks : List T, mdK ks → (textL ks).length ≤ 1000 * nodK ks + ks.length
  | [], _ => Nat.zero_le _
  | t :: r, h => by
    simp only [mdK] at h
    have h1 := text_le t h.1
    have h2 := textM_le r h.2
    simp only [textL, nodK, List.length_append, List.length_cons]
    omega
theorem textM_le : ∀ ks : List T, mdK ks → (textM ks).length ≤ 1000 * nodK ks + ks.length
  | [], _ => Nat.zero_le _
  | t :: r, h => by
    simp only [mdK] at h
    have h1 := text_le t h.1
    have h2 := textM_le r h.2
    simp only [textM, nodK, List.length_append, List.length_cons]
    omega
end
theorem inter_M (t : T) : ∀ ks : List T, List.intercalate [44] ((t :: ks).map textT) = textT t ++ textM ks
  | [] => by simp [List.intercalate, textM]
  | u :: r => by
    have := inter_M u r
    simp only [List.map_cons, List.intercalate, List.intersperse, List.flatten_cons] at this ⊢
    rw [this]
    simp only [textM, List.cons_append, List.nil_append]
theorem inter_L (ks : List T) : List.intercalate [44] (ks.map textT) = textL ks := by
  cases ks with
  | nil => rfl
  | cons t r => rw [inter_M, textL]
def ApS (s : St) (d : Nat) (x : AV) (us : List (List UInt8)) : Prop := (us = [] ∧ x = .sl [] 0 .nil) ∨ (us ≠ [] ∧ ∃ t, x = .sl (us.map .str) us.length (.tok d t) ∧ s d = ⟨t, .tok 1⟩)
theorem ApS.push {s : St} {d : Nat} {x : AV} {us : List (List UInt8)} (h : ApS s d x us) (hl : us.length ≤ 1000) (v : List UInt8) :
    ∃ x' s', appendA Tryd.prog #[55, 55] d s x (.sl [.str v] 1 .tight) = some (x', s') ∧ ApS s' d x' (us ++ [v]) ∧ ∀ q, q ≠ d → s' q = s q := by
  have e1 : (#[55, 55] : Array TypeId)[0]? = some 55 := rfl
  have e2 : (#[55, 55] : Array TypeId)[1]? = some 55 := rfl
  rcases h with ⟨rfl, rfl⟩ | ⟨_, t, rfl, hs⟩
  · refine ⟨_, upd s d ⟨(s d).t + 1, .tok 1⟩, ?_, .inr ⟨by simp, (s d).t + 1, rfl, upd_same _ _ _⟩, fun q hq => upd_ne _ _ hq⟩
    simp only [appendA, e1, e2, Option.map_some, tk64, esz9, Option.bind_some, moreA, baseA, by9, zero9, List.length_map, Nat.mul_one, if_true, List.length_cons, List.length_nil, Nat.zero_add]
    rfl
  · refine ⟨_, upd (upd s d ⟨t, .dead⟩) d ⟨t + 1, .tok 1⟩, ?_, .inr ⟨by simp, t + 1, rfl, upd_same _ _ _⟩, fun q hq => (upd_ne _ _ hq).trans (upd_ne _ _ hq)⟩
    simp only [appendA, e1, e2, Option.map_some, tk64, esz9, Option.bind_some, moreA, baseA, hs, by9, zero9, List.length_map, Nat.mul_one, and_self, if_true, List.length_cons, List.length_nil, Nat.zero_add]
    rw [if_pos ⟨by omega, by omega, trivial⟩]
    simp only [upd_same, List.length_append, List.length_cons, List.length_nil, Nat.zero_add, List.map_append, List.map_cons, List.map_nil]
theorem evalJoinC (n d : Nat) (ss : List (List UInt8)) (g : Grip) (h : (List.intercalate [44] ss).length ≤ 10000000) (hl : ss.length ≤ 1000000) : evalFn Tryd.prog cfg0 n (d+1) 28 [.tree (.sl (ss.map .str) ss.length g), .tree (.str [44])] = some (.tree (.str (List.intercalate [44] ss)), [[], []]) := by
  have hp : cfg0.prim 28 [.tree (.sl (ss.map .str) ss.length g), .tree (.str [44])] = some (.tree (.str (List.intercalate [44] ss)), [[], []]) := by
    rw [show cfg0.prim = prim0 from rfl, prim0, if_pos (beq_self_eq_true _)]
    simp only [joinP, strs_map, Option.bind_some]
    rw [if_pos ⟨trivial, by omega, by omega⟩]
  rw [evalFn, hp]
theorem cJoinC (n d : Nat) {x : AV} {S : St} {p : Nat} {ss : List (List UInt8)} (ap : ApS S p x ss) (h : (List.intercalate [44] ss).length ≤ 10000000) (hl : ss.length ≤ 1000000) (D : Nat) (s : St) : callA cfg6 (evalFn Tryd.prog cfg6 n (d+1)) D s 28 [x, .str [44]] = some (.str (List.intercalate [44] ss), s) := by
  have e := fun g => ev6 (n := n) (d := d) (f := 28) rfl (evalJoinC 9223372036854775808 6189 ss g h hl)
  have hf : flatR (.tree (.str (List.intercalate [44] ss))) = true := rfl
  rcases ap with ⟨rfl, rfl⟩ | ⟨_, t, rfl, _⟩
  · have e := e .nil
    simp only [List.map_nil, List.length_nil] at e
    simp [callA, argsA, argA, givesL, givesOf, lendsL, lendsOf, e, backA, resA, hf]
  · simp [callA, argsA, argA, givesL, givesOf, lendsL, lendsOf, e, backA, resA, hf, lin6]
theorem opA_oneS6 (call : FuncId → List Arg → Option Out) (q : Bool) (d : Option Tmp) (ty : TypeId) (pos : String) (af : Array Edge) (g : Option (Nat × Bool)) (t : Nat) (env : Env) (s : St) (x : Operand) :
    opA Tryd.prog cfg6 call q ⟨d, .buildSlice 55 1 #[(0, x)], ty, pos, af, g⟩ t env s = (one64 (ev env x)).map (·, s) := by
  rw [opA_bs]
  simp only [tk64, esz9, zero9, Option.bind_some, List.map_cons, List.map_nil]
  rfl
theorem mdK_at : ∀ (ks : List T) (i : Nat) (t : T) (r : List T), ks.drop i = t :: r → mdK ks → mdT t ∧ nodT t ≤ nodK ks
  | [], i, t, r, h, _ => by simp at h
  | a :: q, 0, t, r, h, hw => by simp only [List.drop_zero, List.cons.injEq] at h; obtain ⟨rfl, rfl⟩ := h; simp only [mdK] at hw; exact ⟨hw.1, by simp only [nodK]; omega⟩
  | a :: q, i + 1, t, r, h, hw => by
    simp only [mdK] at hw
    obtain ⟨h1, h2⟩ := mdK_at q i t r (by simpa using h) hw.2
    exact ⟨h1, by simp only [nodK]; omega⟩
set_option maxHeartbeats 4000000 in
theorem textT_eq (n : Nat) (hn : 100000 ≤ n) : ∀ (d : Nat) (t : T), htT t ≤ d → mdT t → nodT t ≤ 1000 → evalFn Tryd.prog cfg6 n (d+1) 14 [.tree (encT t)] = some (.tree (.str (textT t)), [[]])
  | 0, t, hd, _, _ => by obtain ⟨k, b, lg, l, s, m, kg, ks⟩ := t; simp only [htT] at hd; omega
  | d + 1, t, hd, hm, hn1 => by
    have IH := textT_eq n hn d
    have hle := text_le t hm
    obtain ⟨k, b, lg, l, s, m, kg, ks⟩ := t
    simp only [htT] at hd
    simp only [nodT] at hn1 hle
    simp only [mdT] at hm
    obtain ⟨_, hL, hK, hm⟩ := hm
    rcases hm with ⟨rfl, hc, rfl, rfl⟩ | ⟨rfl, hl, hl40, rfl, rfl, rfl⟩ | ⟨rfl, rfl, rfl, rfl, rfl⟩ | ⟨rfl, rfl, rfl, rfl, hl2⟩ | ⟨rfl, rfl, rfl, rfl, hl40⟩ | ⟨rfl, rfl, rfl, hl4, rfl⟩
    · have ht : textT (.mk 1 b lg l [] m kg []) = textZ (numZ b l) := rfl
      rw [ht]
      rw [evalFn_go _ Tryd.func14 (by unfold Tryd.f14; rfl) (by unfold Tryd.f14; decide) (Nat.le_of_ble_eq_true (by unfold Tryd.f14; rfl)) (by kernel_rfl)]
      have c := fun D st => callA_trees (cfg := cfg6) (d := D) (s := st) (f := 26) (vs := [encA b lg l]) (by cases lg <;> rfl) (ev6 (n := n) (d := d) rfl (text_eq 9223372036854775808 6184 (by decide) (isN_A b lg l hL)))
      simp only [encA] at c
      simp only [simB, keep6, Nat.reduceBEq, own6, String.reduceAppend, String.reduceBEq, Bool.or_false, Bool.or_true, Bool.or_self, ↓reduceIte, Nat.reduceEqDiff, Nat.reduceAdd, simA, simL, simN, Nat.zero_add, zex, List.toList_toArray, len9, ix9, zey, zez, zfa, zfb, zfc, encT, cellsT, ldT_0, ldT_1, faT_0, faT_1, Nat.reduceAdd, i_eqlV, Int.reduceBEq, c, st0_1, zen]
      exact finish_s _ _ _ _ _ _ _ (by simp only [zfk, ↓reduceIte, Nat.reduceEqDiff]; try rfl) rfl
    · have ht : textT (.mk 2 false lg [] s m kg []) = s := rfl
      rw [ht]
      rw [evalFn_go _ Tryd.func14 (by unfold Tryd.f14; rfl) (by unfold Tryd.f14; decide) (Nat.le_of_ble_eq_true (by unfold Tryd.f14; rfl)) (by kernel_rfl)]
      simp only [simB, keep6, Nat.reduceBEq, own6, String.reduceAppend, String.reduceBEq, Bool.or_false, Bool.or_true, Bool.or_self, ↓reduceIte, Nat.reduceEqDiff, Nat.reduceAdd, simA, simL, simN, Nat.zero_add, zex, List.toList_toArray, len9, ix9, zey, zez, zfa, zfb, zfc, encT, cellsT, ldT_0, ldT_2, faT_0, faT_2, Nat.reduceAdd, i_eqlV, Int.reduceBEq, st0_1, zen]
      exact finish_s _ _ _ _ _ _ _ (by simp only [zfk, ↓reduceIte, Nat.reduceEqDiff]; try rfl) rfl
    · have ht : textT (.mk 3 false lg [] [] m kg []) = [91, 93] := rfl
      rw [ht]
      rw [evalFn_go _ Tryd.func14 (by unfold Tryd.f14; rfl) (by unfold Tryd.f14; decide) (Nat.le_of_ble_eq_true (by unfold Tryd.f14; rfl)) (by kernel_rfl)]
      simp only [simB, keep6, Nat.reduceBEq, own6, String.reduceAppend, String.reduceBEq, Bool.or_false, Bool.or_true, Bool.or_self, ↓reduceIte, Nat.reduceEqDiff, Nat.reduceAdd, simA, simL, simN, Nat.zero_add, zex, List.toList_toArray, len9, ix9, zey, zez, zfa, zfb, zfc, encT, cellsT, ldT_0, faT_0, Nat.reduceAdd, i_eqlV, Int.reduceBEq, st0_1, zen]
      exact finish_s _ _ _ _ _ _ _ (by simp only [zfk, ↓reduceIte, Nat.reduceEqDiff]; try rfl) rfl
    · match ks, hl2 with
      | [x, y], _ =>
      have ht : textT (.mk 4 false lg [] [] m kg [x, y]) = [91] ++ textT x ++ [124] ++ textT y ++ [93] := by
        simp only [textT, show ¬ (4 : Int) = 1 by decide, show ¬ (4 : Int) = 2 by decide, show ¬ (4 : Int) = 3 by decide, if_false, if_true, textC, textD, List.cons_append, List.nil_append, List.append_assoc]
      rw [ht] at hle ⊢
      simp only [mdK] at hK
      simp only [htK] at hd
      simp only [nodK] at hn1 hle
      simp only [List.length_append, List.length_cons, List.length_nil] at hle
      have k1 := callQ_trees (call := evalFn Tryd.prog cfg6 n (d+1)) (f := 27) (vs := [encT (.mk 4 false lg [] [] m kg [x, y]), .int .i64 0]) rfl (ev6 rfl (kid_eq 9223372036854775808 6189 4 false lg [] [] m kg [x, y] 0 x [y] rfl))
      have k2 := callQ_trees (call := evalFn Tryd.prog cfg6 n (d+1)) (f := 27) (vs := [encT (.mk 4 false lg [] [] m kg [x, y]), .int .i64 1]) rfl (ev6 rfl (kid_eq 9223372036854775808 6189 4 false lg [] [] m kg [x, y] 1 y [] rfl))
      have t1 := callQ_trees (f := 14) (vs := [encT x]) rfl (IH x (by omega) hK.1 (by omega))
      have t2 := callQ_trees (f := 14) (vs := [encT y]) rfl (IH y (by omega) hK.2.1 (by omega))
      simp only [encT] at k1 k2 t1 t2
      simp only [cellsT] at k1 k2
      rw [evalFn_go _ Tryd.func14 (by unfold Tryd.f14; rfl) (by unfold Tryd.f14; decide) (Nat.le_of_ble_eq_true (by unfold Tryd.f14; rfl)) (by kernel_rfl)]
      have a1 := s_addS Tryd.prog 9 [91] (textT x) (by simp only [List.length_cons, List.length_nil]; omega)
      have a2 := s_addS Tryd.prog 9 ([91] ++ textT x) [124] (by simp only [List.length_append, List.length_cons, List.length_nil]; omega)
      have a3 := s_addS Tryd.prog 9 ([91] ++ textT x ++ [124]) (textT y) (by simp only [List.length_append, List.length_cons, List.length_nil]; omega)
      have a4 := s_addS Tryd.prog 9 ([91] ++ textT x ++ [124] ++ textT y) [93] (by simp only [List.length_append, List.length_cons, List.length_nil]; omega)
      simp only [List.cons_append, List.nil_append] at a1 a2 a3 a4 ⊢
      simp only [simB, keep6, Nat.reduceBEq, own6, String.reduceAppend, String.reduceBEq, Bool.or_false, Bool.or_true, Bool.or_self, ↓reduceIte, Nat.reduceEqDiff, Nat.reduceAdd, simA, simL, simN, Nat.zero_add, zex, List.toList_toArray, len9, ix9, zey, zez, zfa, zfb, zfc, encT, cellsT, ldT_0, ldT_a, faT_0, Nat.reduceAdd, i_eqlV, Int.reduceBEq, st0_1, zen, k1, k2, t1, t2, a1, a2, a3, a4]
      exact finish_s _ _ _ _ _ _ _ (by simp only [zfk, ↓reduceIte, Nat.reduceEqDiff]; try rfl) rfl
    · have ht : textT (.mk 5 false lg [] [] m kg ks) = 123 :: (textL ks ++ [125]) := by
        simp only [textT, show ¬ (5 : Int) = 1 by decide, show ¬ (5 : Int) = 2 by decide, show ¬ (5 : Int) = 3 by decide, show ¬ (5 : Int) = 4 by decide, if_false, if_true, List.cons_append, List.nil_append]
      rw [ht] at hle ⊢
      simp only [List.length_cons, List.length_append, List.length_nil] at hle
      have hnl := nodK_len ks
      rw [evalFn_go _ Tryd.func14 (by unfold Tryd.f14; rfl) (by unfold Tryd.f14; decide) (Nat.le_of_ble_eq_true (by unfold Tryd.f14; rfl)) (by kernel_rfl)]
      simp only [simB, keep6, Nat.reduceBEq, own6, String.reduceAppend, String.reduceBEq, Bool.or_false, Bool.or_true, Bool.or_self, ↓reduceIte, Nat.reduceEqDiff, Nat.reduceAdd, simA, simL, simN, Nat.zero_add, zex, List.toList_toArray, len9, ix9, zey, zez, zfa, zfb, zfc, encT, cellsT, ldT_0, ldT_4, faT_0, faT_4, Nat.reduceAdd, i_eqlV, Int.reduceBEq, st0_1, zen, lenTk, den_loop]
      refine loop_ends (X := Nat) (fun i env s' => env 1 = .ptr 1 1 0 ∧ env 36 = .sl (cellsK ks) ks.length (gr kg) ∧ env 37 = .int .i64 (ks.length : Int) ∧ env 38 = .int .i64 (i : Int) ∧ ApS s' 46 (env 3) ((ks.take i).map textT) ∧ i ≤ ks.length) (fun i => ks.length - i) (fun _ => (.tree (.str (123 :: (textL ks ++ [125]))), [[]])) ?_ n 0 _ _ (by omega) ⟨(by simp only [zfk, ↓reduceIte, Nat.reduceEqDiff]; try rfl), (by simp only [zfk, ↓reduceIte, Nat.reduceEqDiff]; try rfl), (by simp only [zfk, ↓reduceIte, Nat.reduceEqDiff]; try rfl), (by simp only [zfk, ↓reduceIte, Nat.reduceEqDiff]; try rfl), .inl ⟨rfl, (by simp only [zfk, ↓reduceIte, Nat.reduceEqDiff]; try rfl)⟩, Nat.zero_le _⟩
      rintro rr i hrr ih2 env st ⟨e1, e36, e37, e38, ap, hi⟩
      generalize e3 : env 3 = x3 at ap
      cases hdr : ks.drop i with
      | nil =>
        have hil : i = ks.length := by have := congrArg List.length hdr; simp only [List.length_drop, List.length_nil] at this; omega
        subst hil
        rw [List.take_length] at ap
        have q1 : ¬ ((ks.length : Int) < (ks.length : Int)) := by omega
        have cj := cJoinC n d ap (by rw [inter_L]; omega) (by rw [List.length_map]; omega)
        rw [inter_L] at cj
        have a1 := s_addS Tryd.prog 9 [123] (textL ks) (by simp only [List.length_cons, List.length_nil]; omega)
        have a2 := s_addS Tryd.prog 9 ([123] ++ textL ks) [125] (by simp only [List.length_append, List.length_cons, List.length_nil]; omega)
        simp only [List.cons_append, List.nil_append] at a1 a2
        simp only [simB, keep6, Nat.reduceBEq, own6, String.reduceAppend, String.reduceBEq, Bool.or_false, Bool.or_true, Bool.or_self, ↓reduceIte, Nat.reduceEqDiff, Nat.reduceAdd, simL, simN, Nat.zero_add, zex, List.toList_toArray, len9, ix9, zey, zez, zfa, zfb, zfc, e1, e3, e36, e37, e38, q1, cj, a1, a2]
        exact finish_s _ _ _ _ _ _ _ (by simp only [zfk, ↓reduceIte, Nat.reduceEqDiff]; try rfl) rfl
      | cons kid r =>
        have hil : i < ks.length := by have := congrArg List.length hdr; simp only [List.length_drop, List.length_cons] at this; omega
        have q1 : (i : Int) < (ks.length : Int) := by omega
        obtain ⟨hmk, hnk⟩ := mdK_at ks i kid r hdr hK
        have hkd := kids_ht ks i kid r hdr
        have ck := fun D st => callA_trees (cfg := cfg6) (d := D) (s := st) (f := 14) (vs := [encT kid]) rfl (IH kid (by omega) hmk (by omega))
        have ia := fun st => ia_K st ks (gr kg) i hil
        rw [hdr] at ia
        have ld := fun st => ld_K st kid r
        have hx : ks[i]? = some kid := by rw [← Nat.add_zero i, ← List.getElem?_drop, hdr]; rfl
        have hm2 : (ks.take (i + 1)).map textT = (ks.take i).map textT ++ [textT kid] := by
          rw [List.take_add_one, hx, List.map_append]; rfl
        have f5 := i_add Tryd.prog 3 (i : Int) 1 (by omega) (by omega)
        have ap1 : ApS (upd (upd st 5 ⟨(st 5).t + 1, .buf [.int .i64 0, .bool false, .sl [] 0 .nil, .str [], .int .i64 0, .sl [] 0 .nil]⟩) 5 ⟨(st 5).t + 1, .buf (cellsT kid)⟩) 46 x3 ((ks.take i).map textT) := by
          rcases ap with h | ⟨h1, t, h2, h3⟩
          · exact .inl h
          · exact .inr ⟨h1, t, h2, by rw [upd_ne _ _ (by decide), upd_ne _ _ (by decide)]; exact h3⟩
        obtain ⟨x', s', a1, a2, a3⟩ := ap1.push (by rw [List.length_map, List.length_take]; omega) (textT kid)
        simp only [encT] at ld ck
        have st1 := fun s p k' => st_Tt s p k' kid
        have s61 := fun t k' p st => stT_6 t k' p st (.int .i64 0) (.bool false) (.sl [] 0 .nil) (.str []) (.int .i64 0) (.sl [] 0 .nil) kid
        simp only [simB, keep6, Nat.reduceBEq, own6, String.reduceAppend, String.reduceBEq, Bool.or_false, Bool.or_true, Bool.or_self, ↓reduceIte, Nat.reduceEqDiff, Nat.reduceAdd, simL, simN, Nat.zero_add, zex, List.toList_toArray, len9, ix9, zey, zez, zfa, zfb, zfc, e1, e3, e36, e37, e38, q1, ia, ld, zeroT, st1, s61, ldT_u, ck, opA_oneS6, one64_str, a1, f5]
        exact ih2 (i + 1) _ _ (by omega) rfl ⟨(by simp only [zfk, ↓reduceIte, Nat.reduceEqDiff, e1]; try rfl), (by simp only [zfk, ↓reduceIte, Nat.reduceEqDiff, e36]; try rfl), (by simp only [zfk, ↓reduceIte, Nat.reduceEqDiff, e37]; try rfl), (by simp only [zfk, ↓reduceIte, Nat.reduceEqDiff]; try rfl), by rw [hm2]; exact a2, by omega⟩
    · exact textB_eq n (d+1) false lg [] s m kg [] (by omega)
end Go.Ab

/- bif.number, bif.empty, bif.text; relictref03.List, relictlaw00.Proper. Conditions: lengths in range. -/
namespace Go.Ab
open Go.Proofs
set_option maxRecDepth 100000
set_option linter.unusedSimpArgs false

theorem Ap.lent {s : St} {d : Nat} {x : AV} {us : List T} (h : Ap s d x us) : isLent x = true ∧ loosen x = .sl (cellsK us) us.length (gr (kgOf us)) := by
  rcases h with ⟨rfl, rfl⟩ | ⟨hu, t, rfl, _⟩
  · exact ⟨rfl, rfl⟩
  · exact ⟨rfl, by simp only [loosen, kgOf, if_neg hu, gr]⟩
def one26 (x : AV) : Option AV := (fillA (fun i => some (i * 6, 6)) (rep 1 zeroT6) [(0, x)]).map (.sl · 1 .tight)
theorem one26_T (e : T) : one26 (.agg (cellsT e)) = some (.sl (cellsT e) 1 .tight) := bs1T e
end Go.Ab

/- relictref03.List, relictlaw00.Proper; rows of ints that grow. Conditions: lengths in range. -/
namespace Go.Ab
open Go.Proofs
set_option maxRecDepth 100000
set_option linter.unusedSimpArgs false

def duo26 (x y : AV) : Option AV := (fillA (fun i => some (i * 6, 6)) (rep 2 [.int .i64 0, .bool false, .sl [] 0 .nil, .str [], .int .i64 0, .sl [] 0 .nil]) [(0, x), (1, y)]).map (.sl · 2 .tight)
theorem duo26_agg (a b c d e f a' b' c' d' e' f' : AV) : duo26 (.agg [a, b, c, d, e, f]) (.agg [a', b', c', d', e', f']) = some (.sl [a, b, c, d, e, f, a', b', c', d', e', f'] 2 .tight) := rfl
theorem duo26_T (a b : T) : duo26 (.agg (cellsT a)) (.agg (cellsT b)) = some (.sl (cellsK [a, b]) 2 .tight) := by
  obtain ⟨k, b1, lg, l, s, m, kg, ks⟩ := a
  obtain ⟨k', b2, lg', l', s', m', kg', ks'⟩ := b
  simp only [cellsT, cellsK, List.append_nil, List.cons_append, List.nil_append]
  exact duo26_agg _ _ _ _ _ _ _ _ _ _ _ _
theorem tkI : tkOf Tryd.prog 33 = .sl 3 := by kernel_rfl
theorem lenInts (s : St) (xs : List AV) (m : Nat) (g : Grip) : lenA Tryd.prog 33 s (.sl xs m g) = some (.int .i64 (m : Int)) := by simp only [lenA, tkI]
theorem iaInts (s : St) (xs : List AV) (m : Nat) (g : Grip) (i : Nat) (h : i < m) : indexAddrA Tryd.prog 33 s (.sl xs m g) (.int .i64 (i : Int)) = some (.rptr (xs.drop i)) := by
  simp only [indexAddrA, tkI, eszTi, Option.bind_some, Int.toNat_natCast, Nat.mul_one]
  rw [if_pos ⟨by omega, by omega⟩]
def ApI (s : St) (d : Nat) (x : AV) (us : List Int) : Prop := (us = [] ∧ x = .sl [] 0 .nil) ∨ (us ≠ [] ∧ ∃ t, x = .sl (intsA us) us.length (.tok d t) ∧ s d = ⟨t, .tok 1⟩)
theorem byI : decide (byOf Tryd.prog 3 ≤ 200) = true := by kernel_rfl
theorem zlI : (zeroOf Tryd.prog 3).map List.length = some 1 := by kernel_rfl
theorem intsA_len (us : List Int) : (intsA us).length = us.length := List.length_map _
theorem ApI.push {s : St} {d : Nat} {x : AV} {us : List Int} (h : ApI s d x us) (hl : us.length ≤ 1000000) (v : Int) :
    ∃ x' s', appendA Tryd.prog #[33, 33] d s x (.sl [.int .i64 v] 1 .tight) = some (x', s') ∧ ApI s' d x' (us ++ [v]) ∧ ∀ q, q ≠ d → s' q = s q := by
  have hb := of_decide_eq_true byI
  have hk : intsA (us ++ [v]) = intsA us ++ [.int .i64 v] := by simp [intsA]
  have hm : ∀ s, moreA Tryd.prog 3 1 (some 33) s (.sl [.int .i64 v] 1 .tight) = some ([.int .i64 v], 1) := fun s => by
    simp only [moreA, Option.map_some, tkI, List.length_cons, List.length_nil, Nat.one_mul, ↓reduceIte]
  have hc : (us.length + 1) * byOf Tryd.prog 3 ≤ 140737488355328 ∧ us.length + 1 ≤ 9223372036854775807 := by
    have : (us.length + 1) * byOf Tryd.prog 3 ≤ 1000001 * 200 := Nat.mul_le_mul (by omega) hb
    omega
  rcases h with ⟨rfl, rfl⟩ | ⟨_, t, rfl, hs⟩
  · refine ⟨_, upd s d ⟨(s d).t + 1, .tok 1⟩, ?_, .inr ⟨by simp, (s d).t + 1, rfl, upd_same _ _ _⟩, fun q hq => upd_ne _ _ hq⟩
    simp only [appendA, List.getElem?_toArray, List.getElem?_cons_zero, List.getElem?_cons_succ, Option.map_some, tkI, eszTi, Option.bind_some, hm, baseA, List.length_nil, Nat.zero_mul, ↓reduceIte, zlI, and_true]
    rw [if_pos (by simpa using hc)]
    simp [intsA]
  · refine ⟨_, upd (upd s d ⟨t, .dead⟩) d ⟨t + 1, .tok 1⟩, ?_, .inr ⟨by simp, t + 1, rfl, upd_same _ _ _⟩, fun q hq => (upd_ne _ _ hq).trans (upd_ne _ _ hq)⟩
    simp only [appendA, List.getElem?_toArray, List.getElem?_cons_zero, List.getElem?_cons_succ, Option.map_some, tkI, eszTi, Option.bind_some, hm, baseA, hs, intsA_len, Nat.mul_one, and_self, ↓reduceIte, zlI, and_true]
    rw [if_pos hc]
    simp only [upd_same, List.length_append, List.length_cons, List.length_nil, Nat.zero_add, hk]
def giOf (us : List Int) : Gk := if us = [] then .n else .l
theorem ApI.lent {s : St} {d : Nat} {x : AV} {us : List Int} (h : ApI s d x us) : isLent x = true ∧ loosen x = .sl (intsA us) us.length (gr (giOf us)) ∧ (isTree x = true → x = .sl (intsA us) us.length (gr (giOf us))) := by
  rcases h with ⟨rfl, rfl⟩ | ⟨hu, t, rfl, _⟩
  · exact ⟨rfl, rfl, fun _ => rfl⟩
  · exact ⟨rfl, by simp only [loosen, giOf, if_neg hu, gr], fun h => nomatch h⟩
theorem ApI.len {s : St} {d : Nat} {x : AV} {us : List Int} (h : ApI s d x us) (st : St) : lenA Tryd.prog 33 st x = some (.int .i64 (us.length : Int)) := by
  rcases h with ⟨rfl, rfl⟩ | ⟨hu, t, rfl, _⟩ <;> simp only [lenA, tkI] <;> rfl
end Go.Ab

/- Terms as bytes: what is written, what is read, in plain words. No conditions. -/
namespace Go.Ab
open Go.Proofs
set_option maxRecDepth 100000
set_option linter.unusedSimpArgs false

def u8 (z : Int) : UInt8 := UInt8.ofNat (z % 256).toNat
structure RS where
  i : Nat
  tm : Int
  e : Int
end Go.Ab

/- Terms that may be: by their parts; as term.Check and relictref03.Check count them. No conditions. -/
namespace Go.Ab
open Go.Proofs
set_option maxRecDepth 100000
set_option linter.unusedSimpArgs false

mutual
def okD : T → Int → Prop
  | .mk k b lg l s n kg ks, d => d ≤ 60 ∧ ownT (.mk k b lg l s n kg ks) = true ∧ okJ k ks 0 d
def okJ (k : Int) : List T → Nat → Int → Prop
  | [], _, _ => True
  | t :: r, i, d => okD t (if k = 4 ∧ i = 1 then d else d + 1) ∧ okJ k r (i + 1) d
end
mutual
theorem okD_chk : ∀ (t : T) (deep left : Int), okD t deep → nodT t ≤ left → chkT t deep left = (true, left - nodT t)
  | .mk k b lg l s m kg ks, deep, left, h, hl => by
    simp only [okD] at h
    simp only [nodT] at hl ⊢
    simp only [chkT]
    rw [if_neg (by rw [h.2.1]; simp; omega)]
    split
    · rename_i hk
      subst hk
      rw [okJ_chkC ks deep _ h.2.1 h.2.2 (by omega)]
      congr 1; omega
    · rename_i hk
      rw [okJ_chkK k hk ks 0 deep _ h.2.2 (by omega)]
      congr 1; omega
theorem okJ_chkC {b : Bool} {lg : Gk} {l : List Nat} {s : List UInt8} {m : Int} {kg : Gk} : ∀ (ks : List T) (deep left : Int), ownT (.mk 4 b lg l s m kg ks) = true → okJ 4 ks 0 deep → nodK ks ≤ left → chkC ks deep left = (true, left - nodK ks)
  | [], deep, left, ho, h, _ => by
    obtain ⟨_, _, e⟩ := own_kids ho rfl
    cases e
  | [x], deep, left, ho, h, _ => by
    obtain ⟨_, _, e⟩ := own_kids ho rfl
    cases e
  | [x, y], deep, left, ho, h, hl => by
    simp only [okJ, and_true] at h
    simp only [nodK] at hl ⊢
    have h1 : okD x (deep + 1) := by simpa using h.1
    have h2 : okD y deep := by simpa using h.2
    simp only [chkC, chkL]
    rw [okD_chk x _ _ h1 (by omega)]
    simp only [if_true]
    rw [okD_chk y _ _ h2 (by omega)]
    congr 1; omega
  | x :: y :: z :: r, deep, left, ho, h, _ => by
    obtain ⟨_, _, e⟩ := own_kids ho rfl
    cases e
theorem okJ_chkK (k : Int) (hk : k ≠ 4) : ∀ (ks : List T) (i : Nat) (deep left : Int), okJ k ks i deep → nodK ks ≤ left → chkK ks (deep + 1) left = (true, left - nodK ks)
  | [], i, deep, left, h, hl => by simp only [chkK, nodK]; congr 1; omega
  | t :: r, i, deep, left, h, hl => by
    simp only [okJ] at h
    simp only [nodK] at hl ⊢
    have h1 : okD t (deep + 1) := by have := h.1; rwa [if_neg (by omega)] at this
    simp only [chkK]
    rw [okD_chk t _ _ h1 (by omega)]
    simp only [if_true]
    rw [okJ_chkK k hk r (i + 1) deep _ h.2 (by omega)]
    congr 1; omega
end
end Go.Ab

/- Terms that are made by numbers, in plain words. No conditions. -/
namespace Go.Ab
open Go.Proofs
set_option maxRecDepth 100000
set_option linter.unusedSimpArgs false

def atomM (s : List UInt8) : T := .mk 2 false .n [] s 0 .n []
def binM (s : List UInt8) : T := .mk 6 false .n [] s 0 .n []
def wordM (i : Nat) : List UInt8 := if i = 0 then [97] else if i = 1 then [111, 107] else if i = 2 then [101, 114, 114, 111, 114] else [116, 114, 117, 101]
def abcM : List UInt8 := [97, 98, 99, 100, 101, 102, 103, 104, 105, 106]
def leafM (k v : Nat) : T :=
  if k ≤ 1 then intT (((v / 9 % 600 : Nat) : Int) - 300)
  else if k = 2 then atomM (wordM (v / 9 % 4))
  else if k = 3 then binM (abcM.take (v / 9 % 11))
  else if k = 4 then intT (shZ (((v % 1000 : Nat) : Int) - 500) ((v / 9 % 200 : Nat) : Int))
  else nilT'
def manyM (f : List Int → T × List Int) : Nat → List Int → List T × List Int
  | 0, l => ([], l)
  | n + 1, l => ((f l).1 :: (manyM f n (f l).2).1, (manyM f n (f l).2).2)
def numM (z : Int) : Nat := (placeN z 1073741824).toNat
def madeT : Nat → List Int → T × List Int
  | _, [] => (nilT', [])
  | 0, z :: l => (leafM (if 5 ≤ numM z % 9 then numM z % 9 - 5 else numM z % 9) (numM z), l)
  | d + 1, z :: l =>
    if numM z % 9 = 5 ∨ numM z % 9 = 6 then (consT (madeT d l).1 (madeT d (madeT d l).2).1, (madeT d (madeT d l).2).2)
    else if numM z % 9 = 7 then (tupT (kgOf (manyM (madeT d) (numM z / 9 % 4) l).1) (manyM (madeT d) (numM z / 9 % 4) l).1, (manyM (madeT d) (numM z / 9 % 4) l).2)
    else (leafM (numM z % 9) (numM z), l)
theorem B12_big2 : 2 ^ 224 ≤ B ^ 12 := by
  have h : B = 2 ^ 32 := by decide
  have h7 : B ^ 7 = 2 ^ 224 := by rw [h, ← Nat.pow_mul]
  rw [← h7]
  exact Nat.pow_le_pow_right (by decide) (by decide)
theorem shM_lt (a : Int) (ha : a.natAbs ≤ 500) (n : Nat) (hn : n < 200) : (shZ a (n : Int)).natAbs < B ^ 12 := by
  rw [shZ_up, Int.natAbs_mul]
  have h1 : ((2 : Int) ^ n).natAbs = 2 ^ n := by rw [Int.natAbs_pow]; rfl
  rw [h1]
  refine Nat.lt_of_lt_of_le ?_ B12_big2
  calc a.natAbs * 2 ^ n ≤ 2 ^ 9 * 2 ^ n := Nat.mul_le_mul_right _ (by omega)
    _ = 2 ^ (9 + n) := (Nat.pow_add 2 9 n).symm
    _ < 2 ^ 224 := Nat.pow_lt_pow_right (by decide) (by omega)
theorem md_int (z : Int) (h : z.natAbs < B ^ 12) : mdT (intT z) := by
  simp only [intT, mdT, mdK]
  refine ⟨trivial, limbs_digs _, trivial, .inl ⟨trivial, ?_, trivial, trivial⟩⟩
  rw [chk_digs _ _ (fun h0 => decide_eq_false (by omega)), decide_eq_true h]
theorem low_word (i : Nat) : lowS (wordM i) ∧ (wordM i).length ≤ 40 := by
  unfold wordM lowS
  (repeat' split) <;> exact ⟨⟨by simp, by decide⟩, by decide⟩
theorem md_leaf (k v : Nat) : mdT (leafM k v) ∧ nodT (leafM k v) = 1 ∧ ∀ d : Int, d ≤ 60 → okD (leafM k v) d := by
  have key : ∀ t : T, kidsT t = [] → mdT t → mdT t ∧ nodT t = 1 ∧ ∀ d : Int, d ≤ 60 → okD t d := fun t hk h => by
    obtain ⟨a, b, lg, l, s, m, kg, ks⟩ := t
    have hk : ks = [] := hk
    subst hk
    refine ⟨h, by simp only [nodT, nodK], fun d hd => ?_⟩
    simp only [mdT] at h
    simp only [okD, okJ]
    refine ⟨hd, ?_, trivial⟩
    rcases h.2.2.2 with ⟨rfl, hc, rfl, _⟩ | ⟨rfl, hl, hl40, rfl, rfl, _⟩ | ⟨rfl, rfl, rfl, rfl, _⟩ | ⟨rfl, _, _, _, hl⟩ | ⟨rfl, rfl, rfl, rfl, _⟩ | ⟨rfl, rfl, rfl, hl, _⟩
    · simp [ownT, hc, h.1]
    · have hn : nameB s = true := by
        unfold nameB
        have h1 : s.length ≠ 0 := fun h0 => hl.1 (List.length_eq_zero_iff.1 h0)
        have h2 : s.all okC = true := List.all_eq_true.2 fun c hc => by
          have := hl.2 c hc
          unfold okC
          simp; omega
        simp [h2]; omega
      simp [ownT, zeroB, hn, h.1]
    · simp [ownT, zeroB, h.1]
    · simp at hl
    · simp [ownT, zeroB, h.1]
    · simp [ownT, zeroB, h.1, hl]
  unfold leafM
  (repeat' split)
  · refine key _ rfl (md_int _ ?_)
    have h3 : 9223372036854775808 < B ^ 12 := Nat.lt_of_lt_of_le (show 9223372036854775808 < B ^ 2 by decide) (Nat.pow_le_pow_right (by decide) (by decide))
    have := Nat.mod_lt (v / 9) (show 0 < 600 by decide)
    omega
  · refine key _ rfl ?_
    have := low_word (v / 9 % 4)
    simp only [atomM, mdT, mdK]
    exact ⟨trivial, limbs_nil, trivial, .inr (.inl ⟨trivial, this.1, this.2, trivial, trivial, trivial⟩)⟩
  · refine key _ rfl ?_
    simp only [binM, mdT, mdK]
    refine ⟨trivial, limbs_nil, trivial, .inr (.inr (.inr (.inr (.inr ⟨trivial, trivial, trivial, ?_, trivial⟩))))⟩
    rw [List.length_take]
    have := Nat.mod_lt (v / 9) (show 0 < 11 by decide)
    omega
  · refine key _ rfl (md_int _ (shM_lt _ ?_ _ (Nat.mod_lt _ (by decide))))
    have := Nat.mod_lt v (show 0 < 1000 by decide)
    omega
  · refine key _ rfl ?_
    simp only [nilT', mdT, mdK]
    exact ⟨trivial, limbs_nil, trivial, .inr (.inr (.inl ⟨trivial, trivial, trivial, trivial, trivial⟩))⟩
structure MdOk (d : Nat) (l : List Int) (r : T × List Int) : Prop where
  md : mdT r.1
  nod : nodT r.1 + 3 * r.2.length ≤ 3 * l.length + 1
  ok : ∀ e : Int, e + d ≤ 60 → okD r.1 e
  suf : ∀ x ∈ r.2, x ∈ l
structure MdKs (d : Nat) (n : Nat) (l : List Int) (r : List T × List Int) : Prop where
  md : mdK r.1
  nod : nodK r.1 + 3 * r.2.length ≤ 3 * l.length + n
  ok : ∀ e : Int, e + d ≤ 60 → ∀ i, okJ 5 r.1 i (e - 1)
  suf : ∀ x ∈ r.2, x ∈ l
  len : r.1.length = n
theorem many_ok (d : Nat) (f : List Int → T × List Int) (hf : ∀ l, MdOk d l (f l)) : ∀ (n : Nat) (l : List Int), MdKs d n l (manyM f n l)
  | 0, l => ⟨by simp only [manyM, mdK], by simp only [manyM, nodK]; omega, fun e _ i => by simp only [manyM, okJ], fun x hx => hx, rfl⟩
  | n + 1, l => by
    have h1 := hf l
    have h2 := many_ok d f hf n (f l).2
    refine ⟨by simp only [manyM, mdK]; exact ⟨h1.md, h2.md⟩, ?_, fun e he i => ?_, fun x hx => h1.suf x (h2.suf x hx), by simp only [manyM, List.length_cons, h2.len]⟩
    · have := h1.nod; have := h2.nod
      simp only [manyM, nodK]; omega
    · simp only [manyM, okJ]
      rw [if_neg (by omega)]
      refine ⟨?_, h2.ok e he (i + 1)⟩
      rw [Int.sub_add_cancel]
      exact h1.ok e he
theorem made_ok : ∀ (d : Nat), d ≤ 50 → ∀ l : List Int, MdOk d l (madeT d l) := by
  have hnil : ∀ d : Nat, MdOk d [] (nilT', []) := fun d => by
    have h := md_leaf 5 0
    have e : leafM 5 0 = nilT' := rfl
    rw [e] at h
    exact ⟨h.1, by rw [h.2.1]; exact Nat.le_refl _, fun e he => h.2.2 e (by omega), fun x hx => hx⟩
  have hleaf : ∀ (d k v : Nat) (z : Int) (l : List Int), MdOk d (z :: l) (leafM k v, l) := fun d k v z l => by
    have h := md_leaf k v
    exact ⟨h.1, by show nodT (leafM k v) + 3 * l.length ≤ _; rw [h.2.1, List.length_cons]; omega, fun e he => h.2.2 e (by omega), fun x hx => List.mem_cons_of_mem _ hx⟩
  intro d
  induction d with
  | zero =>
    intro _ l
    cases l with
    | nil => exact hnil 0
    | cons z l => exact hleaf _ _ _ _ _
  | succ d ih =>
    intro hd l
    have ih := ih (by omega)
    cases l with
    | nil => exact hnil _
    | cons z l =>
      simp only [madeT]
      split
      · have h1 := ih l
        have h2 := ih (madeT d l).2
        refine ⟨?_, ?_, fun e he => ?_, fun x hx => List.mem_cons_of_mem _ (h1.suf x (h2.suf x hx))⟩
        · simp only [consT, mdT, mdK]
          exact ⟨trivial, limbs_nil, ⟨h1.md, h2.md, trivial⟩, .inr (.inr (.inr (.inl ⟨trivial, trivial, trivial, trivial, rfl⟩)))⟩
        · have := h1.nod; have := h2.nod
          simp only [consT, nodT, nodK, List.length_cons]; omega
        · simp only [consT, okD, okJ]
          rw [if_neg (by simp), if_pos (by simp)]
          exact ⟨by omega, by simp [ownT, zeroB], h1.ok (e + 1) (by omega), h2.ok e (by omega), trivial⟩
      · split
        · have h1 := many_ok d (madeT d) ih (numM z / 9 % 4) l
          have h4 := Nat.mod_lt (numM z / 9) (show 0 < 4 by decide)
          refine ⟨?_, ?_, fun e he => ?_, fun x hx => List.mem_cons_of_mem _ (h1.suf x hx)⟩
          · simp only [tupT, mdT]
            refine ⟨trivial, limbs_nil, h1.md, .inr (.inr (.inr (.inr (.inl ⟨trivial, trivial, trivial, trivial, ?_⟩))))⟩
            rw [h1.len]; omega
          · have := h1.nod
            simp only [tupT, nodT, List.length_cons]; omega
          · simp only [tupT, okD]
            refine ⟨by omega, ?_, ?_⟩
            · have := h1.len
              simp [ownT, zeroB]; omega
            · have := h1.ok (e + 1) (by omega) 0
              rw [Int.add_sub_cancel] at this
              exact this
        · exact hleaf _ _ _ _ _
end Go.Ab

/- What made asks: a place, an atom, numbers; a term whose kids grow in a cell. Conditions: numbers in range. -/
namespace Go.Ab
open Go.Proofs
set_option maxRecDepth 100000
set_option linter.unusedSimpArgs false

theorem placeM_eq (n d : Nat) (v m : Int) (hm : 0 < m) (hm' : m ≤ 1000000000000) : evalFn Tryd.prog cfg0 n (d+1) 9 [.tree (.int .i64 v), .tree (.int .i64 m)] = some (.tree (.int .i64 (placeN v m)), [[], []]) := by
  rw [evalFn_go _ Tryd.func9 (by unfold Tryd.f9; rfl) (by unfold Tryd.f9; decide) (Nat.le_of_ble_eq_true (by unfold Tryd.f9; rfl)) (by kernel_rfl)]
  have hr := place_range v m hm
  have e1 := i_remZ Tryd.prog 3 v m (by omega)
  have h1 := Int.tmod_lt_of_pos v hm
  unfold placeN at *
  by_cases h : v.tmod m < 0
  · rw [if_pos h] at hr ⊢
    have e2 := i_add Tryd.prog 3 (v.tmod m) m (by omega) (by omega)
    simp only [simB, zbo, Nat.reduceBEq, own0, ↓reduceIte, Nat.reduceEqDiff, Nat.reduceAdd, simA, zdz, e1, h, e2]
    exact finish_tree _ _ _ _ _ _ (.int .i64 (v.tmod m + m)) _ _ (by simp only [zfk, ↓reduceIte]) rfl rfl
  · rw [if_neg h] at hr ⊢
    simp only [simB, zbo, Nat.reduceBEq, own0, ↓reduceIte, Nat.reduceEqDiff, Nat.reduceAdd, simA, zdz, e1, h]
    exact finish_tree _ _ _ _ _ _ (.int .i64 (v.tmod m)) _ _ (by simp only [zfk, ↓reduceIte]) rfl rfl
theorem numM_eq (n d : Nat) (v : Int) : evalFn Tryd.prog cfg0 n (d+1) 9 [.tree (.int .i64 v), .tree (.int .i64 1073741824)] = some (.tree (.int .i64 ((numM v : Nat) : Int)), [[], []]) := by
  have hr := place_range v 1073741824 (by decide)
  have : ((numM v : Nat) : Int) = placeN v 1073741824 := by unfold numM; omega
  rw [this]
  exact placeM_eq n d v _ (by decide) (by decide)
theorem numM_lt (v : Int) : numM v < 1073741824 := by
  have hr := place_range v 1073741824 (by decide)
  unfold numM; omega
theorem bdM_ks (k : Int) (s : List UInt8) : buildA Tryd.prog 28 [(0, .int .i64 k), (2, .str s)] = some (.agg (cellsT (.mk k false .n [] s 0 .n []))) := bdT_2 k s
theorem bdM_0 : buildA Tryd.prog 28 [(0, .int .i64 3)] = some (.agg (cellsT nilT')) := by
  simp only [buildA, zeroT, tkT, plT, Option.bind_some]; rfl
theorem bdM_5 : buildA Tryd.prog 28 [(0, .int .i64 5)] = some (.agg (cellsT (tupT .n []))) := by
  simp only [buildA, zeroT, tkT, plT, Option.bind_some]; rfl
theorem bdM_4 (a b : T) : buildA Tryd.prog 28 [(0, .int .i64 4), (4, .sl (cellsK [a, b]) 2 .tight)] = some (.agg (cellsT (consT a b))) := by
  simp only [buildA, zeroT, tkT, plT, Option.bind_some]; rfl
theorem ratomM_eq (n d : Nat) (s : List UInt8) : evalFn Tryd.prog cfg0 n (d+1) 47 [.tree (.str s)] = some (.tree (encT (atomM s)), [[]]) := by
  rw [evalFn_go _ Tryd.func47 (by unfold Tryd.f47; rfl) (by unfold Tryd.f47; decide) (Nat.le_of_ble_eq_true (by unfold Tryd.f47; rfl)) (by kernel_rfl)]
  have bd := bdM_ks 2 s
  have st1 := fun st p k => st_Tt st p k (atomM s)
  have st6 := fun t k p st => stT_6 t k p st (.int .i64 0) (.bool false) (.sl [] 0 .nil) (.str []) (.int .i64 0) (.sl [] 0 .nil) (atomM s)
  have hb : buildA Tryd.prog 28 [(0, .int .i64 2), (2, .str s)] = some (.agg (cellsT (atomM s))) := bd
  simp only [simB, zbo, Nat.reduceBEq, own0, ↓reduceIte, Nat.reduceEqDiff, Nat.reduceAdd, simA, simL, simN, Nat.zero_add, zeroT, hb, st1, st6]
  exact finish_cT _ _ _ _ _ (atomM s) _ _ _ (by simp only [zfk, ↓reduceIte, Nat.reduceEqDiff]; try rfl) (by simp only [zfk, ↓reduceIte, Nat.reduceEqDiff]; try rfl) rfl
theorem opM_eq (n d : Nat) (hn : 100000 ≤ n) (a : Int) (ha : a.natAbs ≤ 500) (k : Nat) (hk : k < 200) : evalFn Tryd.prog cfg0 n (d+6) 48 [.tree (.int .i64 9), .tree (canA .l a), .tree (canA .l (k : Int))] = some (.tree (.tup [canA .l (shZ a (k : Int)), .bool true]), [[], [], []]) := by
  have hB := B12_big2
  have h1 : (1024 : Nat) ≤ 2 ^ 224 := Nat.le_trans (show (1024 : Nat) ≤ 2 ^ 10 by decide) (Nat.pow_le_pow_right (by decide) (by decide))
  have hB : 1024 ≤ B ^ 12 := Nat.le_trans h1 hB
  have h := rop9_eq n d hn (isN_can .l a (by omega)) (isN_can .l (k : Int) (by omega))
  rw [madeF_fit (shM_lt a ha k hk)] at h
  exact h
theorem faE_mix (t p k off : Nat) (xs : List AV) (hs : List (Nat × AV)) : faE ⟨t, .mix xs hs⟩ p k off = if t = k then some (.ptr p k off) else none := by
  simp only [faE, cellsE]
  by_cases e : t = k <;> simp [e]
def setK : T → Gk → List T → T
  | .mk k b lg l s n _ _, kg, us => .mk k b lg l s n kg us
theorem ldZ_mixK (t k : Nat) (xs : List AV) (v : AV) : ldE Tryd.prog 26 ⟨t, .mix xs [(5, v)]⟩ k 5 = if t = k then some v else none := by
  simp only [ldE, ldC, shTk, heldL, if_true]
theorem ldZ_mixT (t k : Nat) (u : T) (xs : List AV) (len q v : Nat) : ldE Tryd.prog 28 ⟨t, .mix (cellsT u) [(5, .sl xs len (.tok q v))]⟩ k 0 = if t = k then some (.agg (cellsT u)) else none := by
  have := ldT_u t k u
  simp only [ldE, ldC, shT] at this ⊢
  exact this
def TermM (e : Ent) (u : T) (us : List T) (x : AV) : Prop := (us = [] ∧ x = .sl [] 0 .nil ∧ e = ⟨1, .buf (cellsT (setK u .n []))⟩) ∨ (us ≠ [] ∧ ∃ q t, x = .sl (cellsK us) us.length (.tok q t) ∧ e = ⟨1, .mix (cellsT (setK u .l us)) [(5, x)]⟩)
theorem TermM.fa {e : Ent} {u : T} {us : List T} {x : AV} (h : TermM e u us x) (p : Nat) : faE e p 1 5 = some (.ptr p 1 5) := by
  rcases h with ⟨_, _, rfl⟩ | ⟨_, q, t, _, rfl⟩
  · rw [zeu, if_pos rfl]
  · rw [faE_mix, if_pos rfl]
theorem ldT_sK (t k : Nat) (u : T) (kg : Gk) (us : List T) : ldE Tryd.prog 26 ⟨t, .buf (cellsT (setK u kg us))⟩ k 5 = if t = k then some (.sl (cellsK us) us.length (gr kg)) else none := by
  obtain ⟨a, b, c, d, e, f, g, h⟩ := u
  exact ldT_4 _ _ _ _ _ _ _ _
theorem TermM.ld {e : Ent} {u : T} {us : List T} {x : AV} (h : TermM e u us x) : ldE Tryd.prog 26 e 1 5 = some x := by
  rcases h with ⟨_, rfl, rfl⟩ | ⟨_, q, t, _, rfl⟩
  · exact (ldT_sK 1 1 u .n []).trans (if_pos rfl)
  · exact (ldZ_mixK 1 1 _ x).trans (if_pos rfl)
theorem TermM.all {e : Ent} {u : T} {us : List T} {x : AV} (h : TermM e u us x) : ldE Tryd.prog 28 e 1 0 = some (.agg (cellsT (setK u (kgOf us) us))) := by
  rcases h with ⟨rfl, _, rfl⟩ | ⟨hu, q, t, rfl, rfl⟩
  · exact (ldT_u 1 1 _).trans (if_pos rfl)
  · rw [kgOf, if_neg hu]
    exact (ldZ_mixT 1 1 _ _ _ _ _).trans (if_pos rfl)
theorem set5 (u : T) (kg : Gk) (us vs : List T) : (cellsT (setK u kg us)).set 5 (.sl (cellsK vs) vs.length .loose) = cellsT (setK u .l vs) := by
  obtain ⟨a, b, c, d, e, f, g, h⟩ := u
  rfl
theorem TermM.store {s : St} {p : Nat} {u : T} {us vs : List T} {x x' : AV} {d : Nat} {s0 : St} (h : TermM (s p) u us x) (ha : Ap s0 d x' vs) (hv : vs ≠ []) :
    ∃ s', storeH Tryd.prog 26 s (.ptr p 1 5) x' = some s' ∧ (∀ q, q ≠ p → s' q = s q) ∧ TermM (s' p) u vs x' := by
  rcases ha with ⟨rfl, _⟩ | ⟨_, t, rfl, _⟩
  · exact absurd rfl hv
  refine ⟨upd s p ⟨1, .mix (cellsT (setK u .l vs)) [(5, .sl (cellsK vs) vs.length (.tok d t))]⟩, ?_, fun q hq => upd_ne _ _ hq, .inr ⟨hv, d, t, rfl, upd_same _ _ _⟩⟩
  rcases h with ⟨rfl, rfl, he⟩ | ⟨hu, q, t', rfl, he⟩
  · simp only [storeH, he, eszTk]
    rw [if_pos ⟨trivial, trivial, by rw [cellsT_len]; decide⟩, set5]
  · simp only [storeH, he, eszTk]
    rw [if_pos ⟨trivial, trivial, by rw [cellsT_len]; decide⟩, set5]
    rfl
end Go.Ab

/- made: a term by numbers (CFG6): its parts. Conditions: numbers in range. -/
namespace Go.Ab
open Go.Proofs
set_option maxRecDepth 100000
set_option linter.unusedSimpArgs false

theorem finish_M (k : Bool) (xs : List Arg) (p e : Nat) (u : T) (ys : List AV) (m : Nat) (g : Grip) (hg : g.isTok = false) (env : Env) (s : St) (os : List (List AV)) (ha : env 4 = .ptr p e 0) (hs : s p = ⟨e, .buf (cellsT u)⟩) (hb : env 5 = .sl ys m g) (ho : outsA s 0 xs = some os) :
    finishP Tryd.prog k xs #[.cell 4 28, .tmp 5] env s = some (.tree (.tup [encT u, .sl ys m g]), os) := by
  have hl : loadA Tryd.prog 28 s (env 4) = some (.agg (cellsT u)) := by rw [ha, zeo, hs, ldT_u, if_pos rfl]
  cases g with
  | tok _ _ => cases hg
  | _ => simp [finishP, isTmpR, rvA, hl, hb, settleL, settle, ho, encT]
theorem slM (s : St) (z : Int) (l : List Int) (g : Grip) : ∃ g', g'.isTok = false ∧ sliceA Tryd.prog 33 s (.sl (intsA (z :: l)) (z :: l).length g) (some (.int .i64 1)) none none = some (.sl (intsA l) l.length g') := by
  have a1 : (0 : Int) ≤ 1 ∧ (1 : Int) ≤ ((z :: l).length : Nat) := ⟨by decide, by rw [List.length_cons]; omega⟩
  have a2 : (intsA (z :: l)).length = (z :: l).length * 1 := by rw [intsA_len, Nat.mul_one]
  simp only [sliceA, tkI, eszTi, Option.isSome_none, Bool.false_eq_true, false_and, if_false, boundA, Option.bind_some, if_pos a1, a2, if_true]
  have h3 : List.drop (Int.toNat 1 * 1) (List.take ((z :: l).length * 1) (intsA (z :: l))) = intsA l := by
    rw [List.take_of_length_le (by rw [intsA_len, Nat.mul_one]; exact Nat.le_refl _)]; rfl
  have h4 : (z :: l).length - Int.toNat 1 = l.length := rfl
  rw [h3, h4]
  refine ⟨_, ?_, rfl⟩
  split <;> rfl
theorem opA_oneT6 (call : FuncId → List Arg → Option Out) (q : Bool) (d : Option Tmp) (ty : TypeId) (pos : String) (af : Array Edge) (g : Option (Nat × Bool)) (t : Nat) (env : Env) (s : St) (x : Operand) :
    opA Tryd.prog cfg6 call q ⟨d, .buildSlice 26 1 #[(0, x)], ty, pos, af, g⟩ t env s = (one26 (ev env x)).map (·, s) := by
  rw [opA_bs]
  simp only [tkTk, eszT, zeroT, Option.bind_some, List.map_cons, List.map_nil]
  rfl
theorem opA_duoT6 (call : FuncId → List Arg → Option Out) (q : Bool) (d : Option Tmp) (ty : TypeId) (pos : String) (af : Array Edge) (g : Option (Nat × Bool)) (t : Nat) (env : Env) (s : St) (x y : Operand) :
    opA Tryd.prog cfg6 call q ⟨d, .buildSlice 26 2 #[(0, x), (1, y)], ty, pos, af, g⟩ t env s = (duo26 (ev env x) (ev env y)).map (·, s) := by
  rw [opA_bs]
  simp only [tkTk, eszT, zeroT, Option.bind_some, List.map_cons, List.map_nil]
  rfl
theorem bd81 : buildA Tryd.prog 81 [(0, .str [97]), (1, .str [111, 107]), (2, .str [101, 114, 114, 111, 114]), (3, .str [116, 114, 117, 101])] = some (.agg [.str [97], .str [111, 107], .str [101, 114, 114, 111, 114], .str [116, 114, 117, 101]]) := by kernel_rfl
theorem ix81_0 : indexA Tryd.prog 81 (.agg [.str [97], .str [111, 107], .str [101, 114, 114, 111, 114], .str [116, 114, 117, 101]]) (.int .i64 0) = some (.str [97]) := by kernel_rfl
theorem ix81_1 : indexA Tryd.prog 81 (.agg [.str [97], .str [111, 107], .str [101, 114, 114, 111, 114], .str [116, 114, 117, 101]]) (.int .i64 1) = some (.str [111, 107]) := by kernel_rfl
theorem ix81_2 : indexA Tryd.prog 81 (.agg [.str [97], .str [111, 107], .str [101, 114, 114, 111, 114], .str [116, 114, 117, 101]]) (.int .i64 2) = some (.str [101, 114, 114, 111, 114]) := by kernel_rfl
theorem ix81_3 : indexA Tryd.prog 81 (.agg [.str [97], .str [111, 107], .str [101, 114, 114, 111, 114], .str [116, 114, 117, 101]]) (.int .i64 3) = some (.str [116, 114, 117, 101]) := by kernel_rfl
theorem ix81 (i : Nat) (h : i < 4) : indexA Tryd.prog 81 (.agg [.str [97], .str [111, 107], .str [101, 114, 114, 111, 114], .str [116, 114, 117, 101]]) (.int .i64 (i : Int)) = some (.str (wordM i)) := by
  match i, h with
  | 0, _ => exact ix81_0
  | 1, _ => exact ix81_1
  | 2, _ => exact ix81_2
  | 3, _ => exact ix81_3
noncomputable def mdC : Code := (Tryd.f25.body).getD .skip
noncomputable def md1 : Code := seqR mdC
noncomputable def md2 : Code := seqR md1
noncomputable def md3 : Code := seqR md2
noncomputable def md4 : Code := seqR md3
noncomputable def md5 : Code := seqR md4
noncomputable def md6 : Code := seqR md5
section
variable (n d : Nat) (v : Nat) (hv : v < 1073741824) (l : List Int) (g : Grip) (hg : g.isTok = false) (as1 : List Arg) (os : List (List AV)) (ho : ∀ s, outsA s 0 as1 = some os) (K : Kont) (hK : ∀ env s, K .ret env s = finishP Tryd.prog false as1 #[.cell 4 28, .tmp 5] env s)
  (env : Env) (st : St) (e0 : env 0 = .sl (intsA l) l.length g) (e4 : env 4 = .ptr 4 1 0) (e6 : env 6 = .int .i64 (v : Int)) (j4 : st 4 = ⟨1, .buf [.int .i64 0, .bool false, .sl [] 0 .nil, .str [], .int .i64 0, .sl [] 0 .nil]⟩) (j8 : (st 8).t = 0)
include hv hg ho hK e0 e4 e6 j4 j8
set_option maxHeartbeats 4000000 in
theorem leaf_w (k : Nat) (hk : k = 0 ∨ k = 1 ∨ k = 2 ∨ k = 3 ∨ k = 4 ∨ k = 8) (e7 : env 7 = .int .i64 (k : Int)) :
    den Tryd.prog cfg6 (evalFn Tryd.prog cfg6 n (d+1)) n md6 K env st = some (.tree (.tup [encT (leafM k v), .sl (intsA l) l.length g]), os) := by
  have o1 := i_quo Tryd.prog 3 v 9 (by decide) (by omega)
  have o2 := i_rem Tryd.prog 3 (v / 9) 600 (by decide)
  have o3 := i_rem Tryd.prog 3 (v / 9) 4 (by decide)
  have o4 := i_rem Tryd.prog 3 (v / 9) 11 (by decide)
  have o5 := i_rem Tryd.prog 3 (v / 9) 200 (by decide)
  have o6 := i_rem Tryd.prog 3 v 1000 (by decide)
  have m1 := Nat.mod_lt (v / 9) (show 0 < 600 by decide)
  have m2 := Nat.mod_lt (v / 9) (show 0 < 4 by decide)
  have m3 := Nat.mod_lt (v / 9) (show 0 < 11 by decide)
  have m4 := Nat.mod_lt (v / 9) (show 0 < 200 by decide)
  have m5 := Nat.mod_lt v (show 0 < 1000 by decide)
  have o7 := i_sub Tryd.prog 3 ((v / 9 % 600 : Nat) : Int) 300 (by omega) (by omega)
  have o8 := i_sub Tryd.prog 3 ((v % 1000 : Nat) : Int) 500 (by omega) (by omega)
  simp only [Int.cast_ofNat_Int] at o1 o2 o3 o4 o5 o6
  rcases hk with rfl | rfl | rfl | rfl | rfl | rfl
  · have e7 : env 7 = .int .i64 0 := e7
    have hz : leafM 0 v = intT (((v / 9 % 600 : Nat) : Int) - 300) := rfl
    rw [hz]
    have c := fun D st => callA_trees (cfg := cfg6) (d := D) (s := st) (f := 38) (vs := [.int .i64 (((v / 9 % 600 : Nat) : Int) - 300)]) rfl (ev6 (n := n) (d := d) rfl (rInt_eq 9223372036854775808 6186 (by decide) (((v / 9 % 600 : Nat) : Int) - 300) ⟨by omega, by omega⟩))
    simp only [encT] at c
    have st1 := fun s p k' => st_Tt s p k' (intT (((v / 9 % 600 : Nat) : Int) - 300))
    have s61 := fun t k' p st => stT_6 t k' p st (.int .i64 0) (.bool false) (.sl [] 0 .nil) (.str []) (.int .i64 0) (.sl [] 0 .nil) (intT (((v / 9 % 600 : Nat) : Int) - 300))
    simp only [md6, md5, md4, md3, md2, md1, mdC, seqR, Tryd.f25, Option.getD_some, simB, keep6, Nat.reduceBEq, own6, String.reduceAppend, String.reduceBEq, Bool.or_false, Bool.or_true, Bool.or_self, ↓reduceIte, Nat.reduceEqDiff, Nat.reduceAdd, simA, simL, simN, Nat.zero_add, zex, List.toList_toArray, len9, ix9, zey, zez, zfa, zfb, zfc, e0, e4, e6, e7, j4, i_eqlV, Int.reduceBEq, o1, o2, o7, c, st1, s61, hK]
    exact finish_M _ _ 4 1 _ _ _ g hg _ _ _ (by simp only [zfk, ↓reduceIte, Nat.reduceEqDiff, e4]; try rfl) (by simp only [zfk, ↓reduceIte, Nat.reduceEqDiff]; try rfl) (by simp only [zfk, ↓reduceIte, Nat.reduceEqDiff, e0]; try rfl) (ho _)
  · have e7 : env 7 = .int .i64 1 := e7
    have hz : leafM 1 v = intT (((v / 9 % 600 : Nat) : Int) - 300) := rfl
    rw [hz]
    have c := fun D st => callA_trees (cfg := cfg6) (d := D) (s := st) (f := 38) (vs := [.int .i64 (((v / 9 % 600 : Nat) : Int) - 300)]) rfl (ev6 (n := n) (d := d) rfl (rInt_eq 9223372036854775808 6186 (by decide) (((v / 9 % 600 : Nat) : Int) - 300) ⟨by omega, by omega⟩))
    simp only [encT] at c
    have st1 := fun s p k' => st_Tt s p k' (intT (((v / 9 % 600 : Nat) : Int) - 300))
    have s61 := fun t k' p st => stT_6 t k' p st (.int .i64 0) (.bool false) (.sl [] 0 .nil) (.str []) (.int .i64 0) (.sl [] 0 .nil) (intT (((v / 9 % 600 : Nat) : Int) - 300))
    simp only [md6, md5, md4, md3, md2, md1, mdC, seqR, Tryd.f25, Option.getD_some, simB, keep6, Nat.reduceBEq, own6, String.reduceAppend, String.reduceBEq, Bool.or_false, Bool.or_true, Bool.or_self, ↓reduceIte, Nat.reduceEqDiff, Nat.reduceAdd, simA, simL, simN, Nat.zero_add, zex, List.toList_toArray, len9, ix9, zey, zez, zfa, zfb, zfc, e0, e4, e6, e7, j4, i_eqlV, Int.reduceBEq, o1, o2, o7, c, st1, s61, hK]
    exact finish_M _ _ 4 1 _ _ _ g hg _ _ _ (by simp only [zfk, ↓reduceIte, Nat.reduceEqDiff, e4]; try rfl) (by simp only [zfk, ↓reduceIte, Nat.reduceEqDiff]; try rfl) (by simp only [zfk, ↓reduceIte, Nat.reduceEqDiff, e0]; try rfl) (ho _)
  · have e7 : env 7 = .int .i64 2 := e7
    have hz : leafM 2 v = atomM (wordM (v / 9 % 4)) := rfl
    rw [hz]
    have c := fun D st => callA_trees (cfg := cfg6) (d := D) (s := st) (f := 47) (vs := [.str (wordM (v / 9 % 4))]) rfl (ev6 (n := n) (d := d) rfl (ratomM_eq 9223372036854775808 6189 (wordM (v / 9 % 4))))
    simp only [encT] at c
    have ix := ix81 (v / 9 % 4) m2
    have st1 := fun s p k' => st_Tt s p k' (atomM (wordM (v / 9 % 4)))
    have s61 := fun t k' p st => stT_6 t k' p st (.int .i64 0) (.bool false) (.sl [] 0 .nil) (.str []) (.int .i64 0) (.sl [] 0 .nil) (atomM (wordM (v / 9 % 4)))
    simp only [md6, md5, md4, md3, md2, md1, mdC, seqR, Tryd.f25, Option.getD_some, simB, keep6, Nat.reduceBEq, own6, String.reduceAppend, String.reduceBEq, Bool.or_false, Bool.or_true, Bool.or_self, ↓reduceIte, Nat.reduceEqDiff, Nat.reduceAdd, simA, simL, simN, Nat.zero_add, zex, List.toList_toArray, len9, ix9, zey, zez, zfa, zfb, zfc, e0, e4, e6, e7, j4, i_eqlV, Int.reduceBEq, o1, o3, bd81, ix, c, st1, s61, hK]
    exact finish_M _ _ 4 1 _ _ _ g hg _ _ _ (by simp only [zfk, ↓reduceIte, Nat.reduceEqDiff, e4]; try rfl) (by simp only [zfk, ↓reduceIte, Nat.reduceEqDiff]; try rfl) (by simp only [zfk, ↓reduceIte, Nat.reduceEqDiff, e0]; try rfl) (ho _)
  · have e7 : env 7 = .int .i64 3 := e7
    have hz : leafM 3 v = binM (abcM.take (v / 9 % 11)) := rfl
    rw [hz]
    have bd : buildA Tryd.prog 28 [(0, .int .i64 6), (2, .str (abcM.take (v / 9 % 11)))] = some (.agg (cellsT (binM (abcM.take (v / 9 % 11))))) := bdM_ks 6 _
    have sl : ∀ s, sliceA Tryd.prog 9 s (.str [97, 98, 99, 100, 101, 102, 103, 104, 105, 106]) none (some (.int .i64 ((v / 9 % 11 : Nat) : Int))) none = some (.str (abcM.take (v / 9 % 11))) := fun s => by
      rw [zfb, if_pos ⟨by omega, by simp only [List.length_cons, List.length_nil]; omega⟩, Int.toNat_natCast]; rfl
    have st1 := fun s p k' => st_Tt s p k' (binM (abcM.take (v / 9 % 11)))
    have s61 := fun t k' p st => stT_6 t k' p st (.int .i64 0) (.bool false) (.sl [] 0 .nil) (.str []) (.int .i64 0) (.sl [] 0 .nil) (binM (abcM.take (v / 9 % 11)))
    simp only [md6, md5, md4, md3, md2, md1, mdC, seqR, Tryd.f25, Option.getD_some, simB, keep6, Nat.reduceBEq, own6, String.reduceAppend, String.reduceBEq, Bool.or_false, Bool.or_true, Bool.or_self, ↓reduceIte, Nat.reduceEqDiff, Nat.reduceAdd, simA, simL, simN, Nat.zero_add, zex, List.toList_toArray, e0, e4, e6, e7, j4, i_eqlV, Int.reduceBEq, o1, o4, sl, bd, st1, s61, hK]
    exact finish_M _ _ 4 1 _ _ _ g hg _ _ _ (by simp only [zfk, ↓reduceIte, Nat.reduceEqDiff, e4]; try rfl) (by simp only [zfk, ↓reduceIte, Nat.reduceEqDiff]; try rfl) (by simp only [zfk, ↓reduceIte, Nat.reduceEqDiff, e0]; try rfl) (ho _)
  · have e7 : env 7 = .int .i64 4 := e7
    have hz : leafM 4 v = intT (shZ (((v % 1000 : Nat) : Int) - 500) ((v / 9 % 200 : Nat) : Int)) := rfl
    rw [hz]
    have c1 := fun D st => callA_trees (cfg := cfg6) (d := D) (s := st) (f := 49) (vs := [.int .i64 (((v % 1000 : Nat) : Int) - 500)]) rfl (ev6 (n := n) (d := d) rfl (rof64_eq 9223372036854775808 6187 (by decide) (((v % 1000 : Nat) : Int) - 500) (by omega) (by omega)))
    have c2 := fun D st => callA_trees (cfg := cfg6) (d := D) (s := st) (f := 49) (vs := [.int .i64 ((v / 9 % 200 : Nat) : Int)]) rfl (ev6 (n := n) (d := d) rfl (rof64_eq 9223372036854775808 6187 (by decide) ((v / 9 % 200 : Nat) : Int) (by omega) (by omega)))
    have c3 := fun D st => callA_trees (cfg := cfg6) (d := D) (s := st) (f := 48) (vs := [.int .i64 9, canA .l (((v % 1000 : Nat) : Int) - 500), canA .l ((v / 9 % 200 : Nat) : Int)]) rfl (ev6 (n := n) (d := d) rfl (opM_eq 9223372036854775808 6184 (by decide) (((v % 1000 : Nat) : Int) - 500) (by omega) (v / 9 % 200) m4))
    generalize shZ (((v % 1000 : Nat) : Int) - 500) ((v / 9 % 200 : Nat) : Int) = w at c3
    simp only [canA, encA] at c1 c2 c3
    have b1 := bdT_1 1 (decide (w < 0)) .l (digs w.natAbs)
    have st1 := fun st p k => st_Tt st p k (intT w)
    have st6 := fun t k p st => stT_6 t k p st (.int .i64 0) (.bool false) (.sl [] 0 .nil) (.str []) (.int .i64 0) (.sl [] 0 .nil) (intT w)
    simp only [intT, cellsT, encC, List.map_nil, cellsK, List.length_nil, gr] at st1 st6
    simp only [md6, md5, md4, md3, md2, md1, mdC, seqR, Tryd.f25, Option.getD_some, simB, keep6, Nat.reduceBEq, own6, String.reduceAppend, String.reduceBEq, Bool.or_false, Bool.or_true, Bool.or_self, ↓reduceIte, Nat.reduceEqDiff, Nat.reduceAdd, simA, simL, simN, Nat.zero_add, zex, List.toList_toArray, len9, ix9, zey, zez, zfa, zfb, zfc, e0, e4, e6, e7, j4, j8, i_eqlV, Int.reduceBEq, o1, o5, o6, o8, c1, c2, c3, zdu, b1, st1, st6, hK]
    exact finish_M _ _ 4 1 (intT w) _ _ g hg _ _ _ (by simp only [zfk, ↓reduceIte, Nat.reduceEqDiff, e4]; try rfl) (by simp only [intT, cellsT, encC, List.map_nil, cellsK, List.length_nil, gr]; exact (by simp only [zfk, ↓reduceIte, Nat.reduceEqDiff]; try rfl)) (by simp only [zfk, ↓reduceIte, Nat.reduceEqDiff, e0]; try rfl) (ho _)
  · have e7 : env 7 = .int .i64 8 := e7
    have hz : leafM 8 v = nilT' := rfl
    rw [hz]
    have st1 := fun s p k' => st_Tt s p k' nilT'
    have s61 := fun t k' p st => stT_6 t k' p st (.int .i64 0) (.bool false) (.sl [] 0 .nil) (.str []) (.int .i64 0) (.sl [] 0 .nil) nilT'
    simp only [md6, md5, md4, md3, md2, md1, mdC, seqR, Tryd.f25, Option.getD_some, simB, keep6, Nat.reduceBEq, own6, String.reduceAppend, String.reduceBEq, Bool.or_false, Bool.or_true, Bool.or_self, ↓reduceIte, Nat.reduceEqDiff, Nat.reduceAdd, simA, simL, simN, Nat.zero_add, zex, List.toList_toArray, len9, ix9, zey, zez, zfa, zfb, zfc, e0, e4, e6, e7, j4, i_eqlV, Int.reduceBEq, bdM_0, st1, s61, hK]
    exact finish_M _ _ 4 1 _ _ _ g hg _ _ _ (by simp only [zfk, ↓reduceIte, Nat.reduceEqDiff, e4]; try rfl) (by simp only [zfk, ↓reduceIte, Nat.reduceEqDiff]; try rfl) (by simp only [zfk, ↓reduceIte, Nat.reduceEqDiff, e0]; try rfl) (ho _)
end
end Go.Ab

/- made: a term by numbers (CFG6). Conditions: numbers in range; so many at most. -/
namespace Go.Ab
open Go.Proofs
set_option maxRecDepth 100000
set_option linter.unusedSimpArgs false

theorem isTree_g {xs : List AV} {m : Nat} {g : Grip} (hg : g.isTok = false) : isTree (.sl xs m g) = true := by
  cases g with
  | tok _ _ => cases hg
  | _ => rfl
def goodL (l : List Int) (g : Grip) : Prop := g.isTok = false ∧ (∀ x ∈ l, I64 x) ∧ l.length ≤ 1000
def MadeOk (n D : Nat) (dp : Nat) (f : List Int → T × List Int) (G : List Int → Grip → Grip) : Prop := ∀ l g, goodL l g → goodL (f l).2 (G l g) ∧ evalFn Tryd.prog cfg6 n D 25 [.tree (.sl (intsA l) l.length g), .tree (.int .i64 (dp : Int))] = some (.tree (.tup [encT (f l).1, .sl (intsA (f l).2) (f l).2.length (G l g)]), [[], []])
def manyG (f : List Int → T × List Int) (G : List Int → Grip → Grip) : Nat → List Int → Grip → Grip
  | 0, _, g => g
  | n + 1, l, g => manyG f G n (f l).2 (G l g)
section
variable (n d : Nat) (hn : 100000 ≤ n) (v : Nat) (hv : v < 1073741824) (l : List Int) (g : Grip) (hg : goodL l g) (as1 : List Arg) (os : List (List AV)) (ho : ∀ s, outsA s 0 as1 = some os) (K : Kont) (hK : ∀ env s, K .ret env s = finishP Tryd.prog false as1 #[.cell 4 28, .tmp 5] env s)
  (env : Env) (st : St) (dp : Nat) (hdp : dp ≤ 1000) (e0 : env 0 = .sl (intsA l) l.length g) (e1 : env 1 = .int .i64 ((dp + 1 : Nat) : Int)) (e4 : env 4 = .ptr 4 1 0) (e6 : env 6 = .int .i64 (v : Int)) (j4 : st 4 = ⟨1, .buf [.int .i64 0, .bool false, .sl [] 0 .nil, .str [], .int .i64 0, .sl [] 0 .nil]⟩)
  (f : List Int → T × List Int) (G : List Int → Grip → Grip) (H : MadeOk n (d+1) dp f G)
include hg ho hK hdp e0 e1 e4 j4 H
set_option maxHeartbeats 4000000 in
theorem cons_w (j10 : (st 10).t = 0) (j12 : (st 12).t = 0) (k : Nat) (hk : k = 5 ∨ k = 6) (e7 : env 7 = .int .i64 (k : Int)) :
    den Tryd.prog cfg6 (evalFn Tryd.prog cfg6 n (d+1)) n md6 K env st = some (.tree (.tup [encT (consT (f l).1 (f (f l).2).1), .sl (intsA (f (f l).2).2) (f (f l).2).2.length (G (f l).2 (G l g))]), os) := by
  obtain ⟨g1, c1⟩ := H l g hg
  obtain ⟨g2, c2⟩ := H (f l).2 (G l g) g1
  have f1 := i_sub Tryd.prog 3 ((dp + 1 : Nat) : Int) 1 (by omega) (by omega)
  rw [show ((dp + 1 : Nat) : Int) - 1 = (dp : Int) by omega] at f1
  have c1 := fun D' st => callA_trees (cfg := cfg6) (d := D') (s := st) (vs := [.sl (intsA l) l.length g, .int .i64 (dp : Int)]) (by simp only [List.all_cons, isTree_g hg.1, List.all_nil]; rfl) c1
  have c2 := fun D' st => callA_trees (cfg := cfg6) (d := D') (s := st) (vs := [.sl (intsA (f l).2) (f l).2.length (G l g), .int .i64 (dp : Int)]) (by simp only [List.all_cons, isTree_g g1.1, List.all_nil]; rfl) c2
  generalize (f (f l).2).1 = b at c2 ⊢
  generalize (f (f l).2).2 = r2 at c2 g2 ⊢
  generalize G (f l).2 (G l g) = gg2 at c2 g2 ⊢
  generalize (f l).1 = a at c1 ⊢
  generalize (f l).2 = r1 at c1 c2 g1
  generalize G l g = gg1 at c1 c2 g1
  simp only [encT] at c1 c2
  have sa := fun s p k' => st_Tt s p k' a
  have sa6 := fun t k' p st => stT_6 t k' p st (.int .i64 0) (.bool false) (.sl [] 0 .nil) (.str []) (.int .i64 0) (.sl [] 0 .nil) a
  have sb := fun s p k' => st_Tt s p k' b
  have sb6 := fun t k' p st => stT_6 t k' p st (.int .i64 0) (.bool false) (.sl [] 0 .nil) (.str []) (.int .i64 0) (.sl [] 0 .nil) b
  have sc := fun s p k' => st_Tt s p k' (consT a b)
  have sc6 := fun t k' p st => stT_6 t k' p st (.int .i64 0) (.bool false) (.sl [] 0 .nil) (.str []) (.int .i64 0) (.sl [] 0 .nil) (consT a b)
  have bd := bdM_4 a b
  have du := duo26_T a b
  rcases hk with rfl | rfl
  · have e7 : env 7 = .int .i64 5 := e7
    simp only [md6, md5, md4, md3, md2, md1, mdC, seqR, Tryd.f25, Option.getD_some, simB, keep6, Nat.reduceBEq, own6, String.reduceAppend, String.reduceBEq, Bool.or_false, Bool.or_true, Bool.or_self, ↓reduceIte, Nat.reduceEqDiff, Nat.reduceAdd, simA, simL, simN, Nat.zero_add, zex, List.toList_toArray, len9, ix9, zey, zez, zfa, zfb, zfc, e0, e1, e4, e7, j4, j10, j12, i_eqlV, Int.reduceBEq, f1, c1, c2, zdu, zeroT, sa, sa6, sb, sb6, sc, sc6, ldT_u, opA_duoT6, du, bd, hK]
    exact finish_M _ _ 4 1 _ _ _ _ g2.1 _ _ _ (by simp only [zfk, ↓reduceIte, Nat.reduceEqDiff, e4]; try rfl) (by simp only [zfk, ↓reduceIte, Nat.reduceEqDiff]; try rfl) (by simp only [zfk, ↓reduceIte, Nat.reduceEqDiff]; try rfl) (ho _)
  · have e7 : env 7 = .int .i64 6 := e7
    simp only [md6, md5, md4, md3, md2, md1, mdC, seqR, Tryd.f25, Option.getD_some, simB, keep6, Nat.reduceBEq, own6, String.reduceAppend, String.reduceBEq, Bool.or_false, Bool.or_true, Bool.or_self, ↓reduceIte, Nat.reduceEqDiff, Nat.reduceAdd, simA, simL, simN, Nat.zero_add, zex, List.toList_toArray, len9, ix9, zey, zez, zfa, zfb, zfc, e0, e1, e4, e7, j4, j10, j12, i_eqlV, Int.reduceBEq, f1, c1, c2, zdu, zeroT, sa, sa6, sb, sb6, sc, sc6, ldT_u, opA_duoT6, du, bd, hK]
    exact finish_M _ _ 4 1 _ _ _ _ g2.1 _ _ _ (by simp only [zfk, ↓reduceIte, Nat.reduceEqDiff, e4]; try rfl) (by simp only [zfk, ↓reduceIte, Nat.reduceEqDiff]; try rfl) (by simp only [zfk, ↓reduceIte, Nat.reduceEqDiff]; try rfl) (ho _)
include hn hv e6
set_option maxHeartbeats 4000000 in
theorem tuple_w (j14 : (st 14).t = 0) (e7 : env 7 = .int .i64 7) :
    den Tryd.prog cfg6 (evalFn Tryd.prog cfg6 n (d+1)) n md6 K env st = some (.tree (.tup [encT (tupT (kgOf (manyM f (v / 9 % 4) l).1) (manyM f (v / 9 % 4) l).1), .sl (intsA (manyM f (v / 9 % 4) l).2) (manyM f (v / 9 % 4) l).2.length (manyG f G (v / 9 % 4) l g)]), os) := by
  have o1 := i_quo Tryd.prog 3 v 9 (by decide) (by omega)
  have o3 := i_rem Tryd.prog 3 (v / 9) 4 (by decide)
  have m2 := Nat.mod_lt (v / 9) (show 0 < 4 by decide)
  have f1 := i_sub Tryd.prog 3 ((dp + 1 : Nat) : Int) 1 (by omega) (by omega)
  rw [show ((dp + 1 : Nat) : Int) - 1 = (dp : Int) by omega] at f1
  simp only [Int.cast_ofNat_Int] at o1 o3
  obtain ⟨N, hN⟩ : ∃ N, v / 9 % 4 = N := ⟨_, rfl⟩
  rw [hN] at o3 m2 ⊢
  have s5 := fun s p k' => st_Tt s p k' (tupT .n [])
  have s56 := fun t k' p st => stT_6 t k' p st (.int .i64 0) (.bool false) (.sl [] 0 .nil) (.str []) (.int .i64 0) (.sl [] 0 .nil) (tupT .n [])
  obtain ⟨out, hout⟩ : ∃ out : Out, out = (.tree (.tup [encT (tupT (kgOf (manyM f N l).1) (manyM f N l).1), .sl (intsA (manyM f N l).2) (manyM f N l).2.length (manyG f G N l g)]), os) := ⟨_, rfl⟩
  rw [← hout]
  simp only [md6, md5, md4, md3, md2, md1, mdC, seqR, Tryd.f25, Option.getD_some, simB, keep6, Nat.reduceBEq, own6, String.reduceAppend, String.reduceBEq, Bool.or_false, Bool.or_true, Bool.or_self, ↓reduceIte, Nat.reduceEqDiff, Nat.reduceAdd, simA, simL, simN, Nat.zero_add, zex, List.toList_toArray, len9, ix9, zey, zez, zfa, zfb, zfc, e0, e1, e4, e6, e7, j4, j14, i_eqlV, Int.reduceBEq, bdM_5, zeroT, s5, s56, den_loop]
  refine loop_ends (X := Nat × List T × List Int × Grip) (fun X env s => env 0 = .sl (intsA X.2.2.1) X.2.2.1.length X.2.2.2 ∧ env 1 = .int .i64 ((dp + 1 : Nat) : Int) ∧ env 4 = .ptr 4 1 0 ∧ env 6 = .int .i64 (v : Int) ∧ env 14 = .ptr 14 1 0 ∧ env 15 = .int .i64 (X.1 : Int) ∧ s 4 = ⟨1, .buf [.int .i64 0, .bool false, .sl [] 0 .nil, .str [], .int .i64 0, .sl [] 0 .nil]⟩ ∧ (∃ x, Ap s 125 x X.2.1 ∧ TermM (s 14) (tupT .n []) X.2.1 x) ∧ X.1 ≤ N ∧ X.2.1.length = X.1 ∧ goodL X.2.2.1 X.2.2.2 ∧ (manyM f N l).1 = X.2.1 ++ (manyM f (N - X.1) X.2.2.1).1 ∧ (manyM f N l).2 = (manyM f (N - X.1) X.2.2.1).2 ∧ manyG f G N l g = manyG f G (N - X.1) X.2.2.1 X.2.2.2) (fun X => N - X.1) (fun _ => out) ?_ n (0, [], l, g) _ _ (by dsimp only; omega)
    ⟨(by simp only [zfk, ↓reduceIte, Nat.reduceEqDiff, e0]; try rfl), (by simp only [zfk, ↓reduceIte, Nat.reduceEqDiff, e1]; try rfl), (by simp only [zfk, ↓reduceIte, Nat.reduceEqDiff, e4]; try rfl), (by simp only [zfk, ↓reduceIte, Nat.reduceEqDiff, e6]; try rfl), (by simp only [zfk, ↓reduceIte, Nat.reduceEqDiff]; try rfl), (by simp only [zfk, ↓reduceIte, Nat.reduceEqDiff]; try rfl), (by simp only [zfk, ↓reduceIte, Nat.reduceEqDiff, j4]; try rfl), ⟨.sl [] 0 .nil, .inl ⟨rfl, rfl⟩, .inl ⟨rfl, rfl, (by simp only [zfk, ↓reduceIte, Nat.reduceEqDiff]; try rfl)⟩⟩, Nat.zero_le _, rfl, hg, rfl, rfl, rfl⟩
  clear e0 e1 e4 e6 e7 j4 j14
  rintro rr ⟨i, us, r, gr0⟩ hrr ih2 env st ⟨e0, e1, e4, e6, e14, e15, j4, ⟨x, ap, tm⟩, hi, hul, hgr, q1, q2, q3⟩
  dsimp only at e0 e15 ap tm hi hul hgr q1 q2 q3
  by_cases hlt : i < N
  · obtain ⟨h1, c1⟩ := H r gr0 hgr
    have c1 := fun D' st => callA_trees (cfg := cfg6) (d := D') (s := st) (vs := [.sl (intsA r) r.length gr0, .int .i64 (dp : Int)]) (by simp only [List.all_cons, isTree_g hgr.1, List.all_nil]; rfl) c1
    have hN1 : N - i = (N - (i + 1)) + 1 := by omega
    rw [hN1] at q1 q2 q3
    simp only [manyM, manyG] at q1 q2 q3
    generalize (f r).1 = a at c1 q1
    generalize (f r).2 = r1 at c1 q1 q2 q3 h1
    generalize G r gr0 = gg1 at c1 q3 h1
    simp only [encT] at c1
    have p1 : (i : Int) < (N : Int) := by omega
    have sa := fun s p k' => st_Tt s p k' a
    have sa6 := fun t k' p st => stT_6 t k' p st (.int .i64 0) (.bool false) (.sl [] 0 .nil) (.str []) (.int .i64 0) (.sl [] 0 .nil) a
    have ap1 : Ap (upd (upd st 16 ⟨(st 16).t + 1, .buf [.int .i64 0, .bool false, .sl [] 0 .nil, .str [], .int .i64 0, .sl [] 0 .nil]⟩) 16 ⟨(st 16).t + 1, .buf (cellsT a)⟩) 125 x us := by
      rcases ap with h | ⟨h1, t, h2, h3⟩
      · exact .inl h
      · exact .inr ⟨h1, t, h2, by rw [upd_ne _ _ (by decide), upd_ne _ _ (by decide)]; exact h3⟩
    obtain ⟨x', s', a1, a2, a3⟩ := ap1.push (by omega) a
    have tf := tm.fa 14
    have tl := tm.ld
    have h14 : s' 14 = st 14 := by rw [a3 14 (by decide), upd_ne _ _ (by decide), upd_ne _ _ (by decide)]
    have tm3 : TermM (s' 14) (tupT .n []) us x := by rw [h14]; exact tm
    obtain ⟨s2, b1, b2, b3⟩ := tm3.store a2 (by simp)
    have tf' := tm3.fa 14
    have f5 := i_add Tryd.prog 3 (i : Int) 1 (by omega) (by omega)
    simp only [simB, keep6, Nat.reduceBEq, own6, String.reduceAppend, String.reduceBEq, Bool.or_false, Bool.or_true, Bool.or_self, ↓reduceIte, Nat.reduceEqDiff, Nat.reduceAdd, simA, simL, simN, Nat.zero_add, e0, e1, e4, e6, e14, e15, j4, o1, o3, p1, f1, c1, zdu, zeroT, sa, sa6, faT_4, Nat.reduceAdd, tf, tl, ldT_u, opA_oneT6, one26_T, a1, tf', b1, f5]
    refine ih2 (i + 1, us ++ [a], r1, gg1) _ _ (by dsimp only; omega) rfl ⟨(by simp only [zfk, ↓reduceIte, Nat.reduceEqDiff]; try rfl), (by simp only [zfk, ↓reduceIte, Nat.reduceEqDiff, e1]; try rfl), (by simp only [zfk, ↓reduceIte, Nat.reduceEqDiff, e4]; try rfl), (by simp only [zfk, ↓reduceIte, Nat.reduceEqDiff, e6]; try rfl), (by simp only [zfk, ↓reduceIte, Nat.reduceEqDiff, e14]; try rfl), (by simp only [zfk, ↓reduceIte, Nat.reduceEqDiff]; try rfl), ?_, ⟨x', ?_, b3⟩, hlt, by dsimp only; rw [List.length_append, hul]; rfl, h1, ?_, q2, q3⟩
    · rw [b2 4 (by decide), a3 4 (by decide), upd_ne _ _ (by decide), upd_ne _ _ (by decide)]; exact j4
    · rcases a2 with ⟨g1, _⟩ | ⟨g1, tt, g2, g3⟩
      · exact absurd g1 (by simp)
      · exact .inr ⟨g1, tt, g2, by rw [b2 125 (by decide)]; exact g3⟩
    · dsimp only
      rw [q1, List.append_assoc]; rfl
  · have hie : i = N := by omega
    subst hie
    rw [Nat.sub_self] at q1 q2 q3
    simp only [manyM, manyG, List.append_nil] at q1 q2 q3
    have p1 : ¬ (i : Int) < (i : Int) := by omega
    have ta := tm.all
    have hst : setK (tupT .n []) (kgOf us) us = tupT (kgOf us) us := rfl
    rw [hst] at ta
    have sc := fun s p k' => st_Tt s p k' (tupT (kgOf us) us)
    have sc6 := fun t k' p st => stT_6 t k' p st (.int .i64 0) (.bool false) (.sl [] 0 .nil) (.str []) (.int .i64 0) (.sl [] 0 .nil) (tupT (kgOf us) us)
    rw [hout, q1, q2, q3]
    simp only [simB, keep6, Nat.reduceBEq, own6, String.reduceAppend, String.reduceBEq, Bool.or_false, Bool.or_true, Bool.or_self, ↓reduceIte, Nat.reduceEqDiff, Nat.reduceAdd, simL, simN, Nat.zero_add, e0, e1, e4, e6, e14, e15, j4, o1, o3, p1, ta, sc, sc6, hK]
    exact finish_M _ _ 4 1 _ _ _ _ hgr.1 _ _ _ (by simp only [zfk, ↓reduceIte, Nat.reduceEqDiff, e4]; try rfl) (by simp only [zfk, ↓reduceIte, Nat.reduceEqDiff]; try rfl) (by simp only [zfk, ↓reduceIte, Nat.reduceEqDiff, e0]; try rfl) (ho _)
end
end Go.Ab

/- made, whole; Made (CFG6). Conditions: numbers in range; so many at most. -/
namespace Go.Ab
open Go.Proofs
set_option maxRecDepth 100000
set_option linter.unusedSimpArgs false

theorem MadeOk.skolem {n D dp : Nat} {f : List Int → T × List Int} (h : ∀ l g, goodL l g → ∃ g', goodL (f l).2 g' ∧ evalFn Tryd.prog cfg6 n D 25 [.tree (.sl (intsA l) l.length g), .tree (.int .i64 (dp : Int))] = some (.tree (.tup [encT (f l).1, .sl (intsA (f l).2) (f l).2.length g']), [[], []])) : ∃ G, MadeOk n D dp f G := by
  classical
  refine ⟨fun l g => if hc : goodL l g then Classical.choose (h l g hc) else g, fun l g hc => ?_⟩
  simp only [dif_pos hc]
  exact Classical.choose_spec (h l g hc)
theorem goodL_sub {l r : List Int} {g g' : Grip} (h : goodL l g) (hg : g'.isTok = false) (hs : ∀ x ∈ r, x ∈ l) (hl : r.length ≤ l.length) : goodL r g' := ⟨hg, fun x hx => h.2.1 x (hs x hx), Nat.le_trans hl h.2.2⟩
theorem goodL_tail {z : Int} {l : List Int} {g g' : Grip} (h : goodL (z :: l) g) (hg : g'.isTok = false) : goodL l g' := goodL_sub h hg (fun _ hx => List.mem_cons_of_mem _ hx) (by rw [List.length_cons]; exact Nat.le_succ _)
theorem many_good {n D dp : Nat} {f : List Int → T × List Int} {G : List Int → Grip → Grip} (H : MadeOk n D dp f G) : ∀ (N : Nat) (l : List Int) (g : Grip), goodL l g → goodL (manyM f N l).2 (manyG f G N l g)
  | 0, _, _, h => h
  | N + 1, l, g, h => many_good H N (f l).2 (G l g) (H l g h).1
set_option maxHeartbeats 4000000 in
theorem made_nil (n d : Nat) (g : Grip) (z : Int) : evalFn Tryd.prog cfg6 n (d+2) 25 [.tree (.sl (intsA []) ([] : List Int).length g), .tree (.int .i64 z)] = some (.tree (.tup [encT nilT', .sl (intsA []) ([] : List Int).length .nil]), [[], []]) := by
  rw [evalFn_go _ Tryd.func25 (by unfold Tryd.f25; rfl) (by unfold Tryd.f25; decide) (Nat.le_of_ble_eq_true (by unfold Tryd.f25; rfl)) (by kernel_rfl)]
  have st1 := fun s p k' => st_Tt s p k' nilT'
  have s61 := fun t k' p st => stT_6 t k' p st (.int .i64 0) (.bool false) (.sl [] 0 .nil) (.str []) (.int .i64 0) (.sl [] 0 .nil) nilT'
  have ho : ∀ s, outsA s 0 [.tree (.sl (intsA []) ([] : List Int).length g), .tree (.int .i64 z)] = some [[], []] := fun s => rfl
  simp only [simB, keep6, Nat.reduceBEq, own6, String.reduceAppend, String.reduceBEq, Bool.or_false, Bool.or_true, Bool.or_self, ↓reduceIte, Nat.reduceEqDiff, Nat.reduceAdd, simA, simL, simN, Nat.zero_add, List.length_nil, Int.cast_ofNat_Int, lenInts, i_eqlV, Int.reduceBEq, zeroT, bdM_0, st1, s61]
  exact finish_M _ _ 4 1 _ _ _ .nil rfl _ _ _ (by simp only [zfk, ↓reduceIte, Nat.reduceEqDiff]; try rfl) (by simp only [zfk, ↓reduceIte, Nat.reduceEqDiff]; try rfl) (by simp only [zfk, ↓reduceIte, Nat.reduceEqDiff]; try rfl) rfl
def MadeGo (n d : Nat) (z : Int) (l : List Int) (g : Grip) (dp : Nat) (k : Nat) : Prop := ∀ (g' : Grip), g'.isTok = false → (∀ s, sliceA Tryd.prog 33 s (.sl (intsA (z :: l)) (z :: l).length g) (some (.int .i64 1)) none none = some (.sl (intsA l) l.length g')) → ∀ out : Out,
  (∀ env st as1, (∀ s, outsA s 0 as1 = some [[], []]) → env 0 = .sl (intsA l) l.length g' → env 1 = .int .i64 (dp : Int) → env 4 = .ptr 4 1 0 → env 6 = .int .i64 ((numM z : Nat) : Int) → env 7 = .int .i64 (k : Int) → st 4 = ⟨1, .buf [.int .i64 0, .bool false, .sl [] 0 .nil, .str [], .int .i64 0, .sl [] 0 .nil]⟩ → (st 8).t = 0 → (st 10).t = 0 → (st 12).t = 0 → (st 14).t = 0 → den Tryd.prog cfg6 (evalFn Tryd.prog cfg6 n (d+1)) n md6 (finK Tryd.prog false as1 #[.cell 4 28, .tmp 5]) env st = some out) →
  evalFn Tryd.prog cfg6 n (d+2) 25 [.tree (.sl (intsA (z :: l)) (z :: l).length g), .tree (.int .i64 (dp : Int))] = some out
set_option maxHeartbeats 4000000 in
theorem made_go (n d : Nat) (z : Int) (l : List Int) (g : Grip) (dp : Nat) (k : Nat) (hk : k = if dp = 0 ∧ 5 ≤ numM z % 9 then numM z % 9 - 5 else numM z % 9) : MadeGo n d z l g dp k := by
  intro g' hg' sl out hout
  rw [evalFn_go _ Tryd.func25 (by unfold Tryd.f25; rfl) (by unfold Tryd.f25; decide) (Nat.le_of_ble_eq_true (by unfold Tryd.f25; rfl)) (by kernel_rfl)]
  have e0 : env0 [.tree (.sl (intsA (z :: l)) (z :: l).length g), .tree (.int .i64 (dp : Int))] 0 = .sl (intsA (z :: l)) (z :: l).length g := rfl
  have e1 : env0 [.tree (.sl (intsA (z :: l)) (z :: l).length g), .tree (.int .i64 (dp : Int))] 1 = .int .i64 (dp : Int) := rfl
  have j4 : (st0 [.tree (.sl (intsA (z :: l)) (z :: l).length g), .tree (.int .i64 (dp : Int))] 4).t = 0 := rfl
  have j8 : (st0 [.tree (.sl (intsA (z :: l)) (z :: l).length g), .tree (.int .i64 (dp : Int))] 8).t = 0 := rfl
  have j10 : (st0 [.tree (.sl (intsA (z :: l)) (z :: l).length g), .tree (.int .i64 (dp : Int))] 10).t = 0 := rfl
  have j12 : (st0 [.tree (.sl (intsA (z :: l)) (z :: l).length g), .tree (.int .i64 (dp : Int))] 12).t = 0 := rfl
  have j14 : (st0 [.tree (.sl (intsA (z :: l)) (z :: l).length g), .tree (.int .i64 (dp : Int))] 14).t = 0 := rfl
  have ho : ∀ s, outsA s 0 [.tree (.sl (intsA (z :: l)) (z :: l).length g), .tree (.int .i64 (dp : Int))] = some [[], []] := fun s => rfl
  generalize [Arg.tree (.sl (intsA (z :: l)) (z :: l).length g), .tree (.int .i64 (dp : Int))] = as1 at e0 e1 j4 j8 j10 j12 j14 ho
  generalize env0 as1 = env at e0 e1
  generalize st0 as1 = st at j4 j8 j10 j12 j14
  have ia : ∀ s, indexAddrA Tryd.prog 33 s (.sl (intsA (z :: l)) (z :: l).length g) (.int .i64 0) = some (.rptr (intsA (z :: l))) := fun s => iaInts s _ _ g 0 (by rw [List.length_cons]; exact Nat.zero_lt_succ _)
  have ld : ∀ s, loadA Tryd.prog 3 s (.rptr (intsA (z :: l))) = some (.int .i64 z) := fun s => ldInts (z :: l) 0 (by rw [List.length_cons]; exact Nat.zero_lt_succ _) s
  have cp := fun D' st => callA_trees (cfg := cfg6) (d := D') (s := st) (f := 9) (vs := [.int .i64 z, .int .i64 1073741824]) rfl (ev6 (n := n) (d := d) rfl (numM_eq 9223372036854775808 6189 z))
  have q0 : (((z :: l).length : Int) == 0) = false := by rw [beq_eq_false_iff_ne, List.length_cons]; omega
  have o1 := i_rem Tryd.prog 3 (numM z) 9 (by decide)
  simp only [Int.cast_ofNat_Int] at o1
  have m9 := Nat.mod_lt (numM z) (show 0 < 9 by decide)
  obtain ⟨v, hv⟩ : ∃ v, numM z = v := ⟨_, rfl⟩
  obtain ⟨r, hr⟩ : ∃ r, v % 9 = r := ⟨_, rfl⟩
  rw [hv] at cp o1 hk m9 hout
  rw [hr] at o1 hk m9
  show den Tryd.prog cfg6 _ n (.seq (seqL mdC) (.seq (seqL md1) (.seq (seqL md2) (.seq (seqL md3) (.seq (seqL md4) (.seq (seqL md5) md6)))))) _ _ _ = _
  by_cases h0 : dp = 0
  · subst h0
    have p0 : ((0 : Nat) : Int) ≤ 0 := Int.le_refl 0
    by_cases h5 : 5 ≤ r
    · rw [if_pos ⟨rfl, h5⟩] at hk
      have p5 : (r : Int) ≥ 5 := by omega
      have f1 := i_sub Tryd.prog 3 (r : Int) 5 (by omega) (by omega)
      rw [show (r : Int) - 5 = (k : Int) by omega] at f1
      simp only [md5, md4, md3, md2, md1, mdC, seqL, seqR, Tryd.f25, Option.getD_some, simB, keep6, Nat.reduceBEq, own6, String.reduceAppend, String.reduceBEq, Bool.or_false, Bool.or_true, Bool.or_self, ↓reduceIte, Nat.reduceEqDiff, Nat.reduceAdd, simA, simL, simN, Nat.zero_add, e0, e1, j4, lenInts, i_eqlV, q0, zeroT, ia, ld, cp, sl, o1, zea, zec, p0, p5, f1]
      exact hout _ _ as1 ho (by simp only [zfk, ↓reduceIte, Nat.reduceEqDiff]; try rfl) (by simp only [zfk, ↓reduceIte, Nat.reduceEqDiff, e1]; try rfl) (by simp only [zfk, ↓reduceIte, Nat.reduceEqDiff]; try rfl) (by simp only [zfk, ↓reduceIte, Nat.reduceEqDiff]; try rfl) (by simp only [zfk, ↓reduceIte, Nat.reduceEqDiff]; try rfl) (by simp only [zfk, ↓reduceIte, Nat.reduceEqDiff]; try rfl) (by simp only [zfk, ↓reduceIte, Nat.reduceEqDiff, j8]; try rfl) (by simp only [zfk, ↓reduceIte, Nat.reduceEqDiff, j10]; try rfl) (by simp only [zfk, ↓reduceIte, Nat.reduceEqDiff, j12]; try rfl) (by simp only [zfk, ↓reduceIte, Nat.reduceEqDiff, j14]; try rfl)
    · rw [if_neg (fun h => h5 h.2)] at hk
      subst hk
      have p5 : ¬ (k : Int) ≥ 5 := by omega
      simp only [md5, md4, md3, md2, md1, mdC, seqL, seqR, Tryd.f25, Option.getD_some, simB, keep6, Nat.reduceBEq, own6, String.reduceAppend, String.reduceBEq, Bool.or_false, Bool.or_true, Bool.or_self, ↓reduceIte, Nat.reduceEqDiff, Nat.reduceAdd, simA, simL, simN, Nat.zero_add, e0, e1, j4, lenInts, i_eqlV, q0, zeroT, ia, ld, cp, sl, o1, zea, zec, p0, p5]
      exact hout _ _ as1 ho (by simp only [zfk, ↓reduceIte, Nat.reduceEqDiff]; try rfl) (by simp only [zfk, ↓reduceIte, Nat.reduceEqDiff, e1]; try rfl) (by simp only [zfk, ↓reduceIte, Nat.reduceEqDiff]; try rfl) (by simp only [zfk, ↓reduceIte, Nat.reduceEqDiff]; try rfl) (by simp only [zfk, ↓reduceIte, Nat.reduceEqDiff]; try rfl) (by simp only [zfk, ↓reduceIte, Nat.reduceEqDiff]; try rfl) (by simp only [zfk, ↓reduceIte, Nat.reduceEqDiff, j8]; try rfl) (by simp only [zfk, ↓reduceIte, Nat.reduceEqDiff, j10]; try rfl) (by simp only [zfk, ↓reduceIte, Nat.reduceEqDiff, j12]; try rfl) (by simp only [zfk, ↓reduceIte, Nat.reduceEqDiff, j14]; try rfl)
  · rw [if_neg (fun h => h0 h.1)] at hk
    subst hk
    have p0 : ¬ ((dp : Nat) : Int) ≤ 0 := by omega
    simp only [md5, md4, md3, md2, md1, mdC, seqL, seqR, Tryd.f25, Option.getD_some, simB, keep6, Nat.reduceBEq, own6, String.reduceAppend, String.reduceBEq, Bool.or_false, Bool.or_true, Bool.or_self, ↓reduceIte, Nat.reduceEqDiff, Nat.reduceAdd, simA, simL, simN, Nat.zero_add, e0, e1, j4, lenInts, i_eqlV, q0, zeroT, ia, ld, cp, sl, o1, zea, zec, p0]
    exact hout _ _ as1 ho (by simp only [zfk, ↓reduceIte, Nat.reduceEqDiff]; try rfl) (by simp only [zfk, ↓reduceIte, Nat.reduceEqDiff, e1]; try rfl) (by simp only [zfk, ↓reduceIte, Nat.reduceEqDiff]; try rfl) (by simp only [zfk, ↓reduceIte, Nat.reduceEqDiff]; try rfl) (by simp only [zfk, ↓reduceIte, Nat.reduceEqDiff]; try rfl) (by simp only [zfk, ↓reduceIte, Nat.reduceEqDiff]; try rfl) (by simp only [zfk, ↓reduceIte, Nat.reduceEqDiff, j8]; try rfl) (by simp only [zfk, ↓reduceIte, Nat.reduceEqDiff, j10]; try rfl) (by simp only [zfk, ↓reduceIte, Nat.reduceEqDiff, j12]; try rfl) (by simp only [zfk, ↓reduceIte, Nat.reduceEqDiff, j14]; try rfl)
theorem made_base (n d : Nat) (hn : 100000 ≤ n) : ∃ G, MadeOk n (d+2) 0 (madeT 0) G := MadeOk.skolem fun l g hg => by
  cases l with
  | nil => exact ⟨.nil, ⟨rfl, fun _ hx => (by cases hx), Nat.zero_le _⟩, made_nil n d g 0⟩
  | cons z l =>
    obtain ⟨g', hg', sl⟩ := slM dead z l g
    have m9 := Nat.mod_lt (numM z) (show 0 < 9 by decide)
    refine ⟨g', goodL_tail hg hg', made_go n d z l g 0 _ rfl g' hg' (fun s => sl) _ fun env st as1 ho e0 e1 e4 e6 e7 j4 j8 _ _ _ => ?_⟩
    have hz : madeT 0 (z :: l) = (leafM (if 5 ≤ numM z % 9 then numM z % 9 - 5 else numM z % 9) (numM z), l) := by simp only [madeT]
    rw [hz]
    simp only [true_and] at e7
    exact leaf_w n d (numM z) (numM_lt z) l g' hg' as1 [[], []] ho _ (fun _ _ => rfl) env st e0 e4 e6 j4 j8 _ (by split <;> omega) e7
theorem made_step (n d : Nat) (hn : 100000 ≤ n) (dp : Nat) (hdp : dp ≤ 49) (G : List Int → Grip → Grip) (H : MadeOk n (d+1) dp (madeT dp) G) : ∃ G', MadeOk n (d+2) (dp+1) (madeT (dp+1)) G' := MadeOk.skolem fun l g hg => by
  cases l with
  | nil => exact ⟨.nil, ⟨rfl, fun _ hx => (by cases hx), Nat.zero_le _⟩, made_nil n d g _⟩
  | cons z l =>
    obtain ⟨g', hg', sl⟩ := slM dead z l g
    have hgl := goodL_tail hg hg'
    have m9 := Nat.mod_lt (numM z) (show 0 < 9 by decide)
    have hgo := made_go n d z l g (dp+1) (numM z % 9) (by rw [if_neg (fun h => by omega)]) g' hg' (fun s => sl)
    simp only [madeT]
    by_cases h56 : numM z % 9 = 5 ∨ numM z % 9 = 6
    · rw [if_pos h56]
      refine ⟨G (madeT dp l).2 (G l g'), (H _ _ (H l g' hgl).1).1, hgo _ fun env st as1 ho e0 e1 e4 e6 e7 j4 j8 j10 j12 _ => ?_⟩
      exact cons_w n d l g' hgl as1 [[], []] ho _ (fun _ _ => rfl) env st dp (by omega) e0 e1 e4 j4 (madeT dp) G H j10 j12 _ h56 e7
    · rw [if_neg h56]
      by_cases h7 : numM z % 9 = 7
      · rw [if_pos h7]
        refine ⟨manyG (madeT dp) G (numM z / 9 % 4) l g', many_good H _ _ _ hgl, hgo _ fun env st as1 ho e0 e1 e4 e6 e7 j4 j8 j10 j12 j14 => ?_⟩
        rw [h7] at e7
        exact tuple_w n d hn (numM z) (numM_lt z) l g' hgl as1 [[], []] ho _ (fun _ _ => rfl) env st dp (by omega) e0 e1 e4 e6 j4 (madeT dp) G H j14 e7
      · rw [if_neg h7]
        refine ⟨g', hgl, hgo _ fun env st as1 ho e0 e1 e4 e6 e7 j4 j8 _ _ _ => ?_⟩
        exact leaf_w n d (numM z) (numM_lt z) l g' hg' as1 [[], []] ho _ (fun _ _ => rfl) env st e0 e4 e6 j4 j8 _ (by omega) e7
theorem made_all (n : Nat) (hn : 100000 ≤ n) : ∀ dp : Nat, dp ≤ 50 → ∀ D, dp + 2 ≤ D → ∃ G, MadeOk n D dp (madeT dp) G
  | 0, _, D, hD => by
    obtain ⟨d, rfl⟩ : ∃ d, D = d + 2 := ⟨D - 2, by omega⟩
    exact made_base n d hn
  | dp + 1, h, D, hD => by
    obtain ⟨d, rfl⟩ : ∃ d, D = d + 2 := ⟨D - 2, by omega⟩
    obtain ⟨G, H⟩ := made_all n hn dp (by omega) (d + 1) (by omega)
    exact made_step n d hn dp (by omega) G H
set_option maxHeartbeats 4000000 in
theorem Made_eq (n d : Nat) (hn : 100000 ≤ n) (hd : 10 ≤ d) (l : List Int) (g : Grip) (hg : goodL l g) : evalFn Tryd.prog cfg6 n (d+1) 13 [.tree (.sl (intsA l) l.length g), .tree (.int .i64 5)] = some (.tree (encT (madeT 5 l).1), [[], []]) := by
  obtain ⟨G, H⟩ := made_all n hn 5 (by decide) d (by omega)
  obtain ⟨h1, h2⟩ := H l g hg
  have c1 := fun D' st => callA_trees (cfg := cfg6) (d := D') (s := st) (vs := [.sl (intsA l) l.length g, .int .i64 ((5 : Nat) : Int)]) (by simp only [List.all_cons, isTree_g hg.1, List.all_nil]; rfl) h2
  have c1 : ∀ D' st, callA cfg6 (evalFn Tryd.prog cfg6 n d) D' st 25 [.sl (intsA l) l.length g, .int .i64 5] = some (.tup [encT (madeT 5 l).1, .sl (intsA (madeT 5 l).2) (madeT 5 l).2.length (G l g)], st) := c1
  generalize (madeT 5 l).1 = a at c1 ⊢
  simp only [encT] at c1
  rw [evalFn_go _ Tryd.func13 (by unfold Tryd.f13; rfl) (by unfold Tryd.f13; decide) (Nat.le_of_ble_eq_true (by unfold Tryd.f13; rfl)) (by kernel_rfl)]
  have sa := fun s p k' => st_Tt s p k' a
  have sa6 := fun t k' p st => stT_6 t k' p st (.int .i64 0) (.bool false) (.sl [] 0 .nil) (.str []) (.int .i64 0) (.sl [] 0 .nil) a
  simp only [simB, keep6, Nat.reduceBEq, own6, String.reduceAppend, String.reduceBEq, Bool.or_false, Bool.or_true, Bool.or_self, ↓reduceIte, Nat.reduceEqDiff, Nat.reduceAdd, simA, simL, simN, Nat.zero_add, c1, zdu, zeroT, sa, sa6, ldT_u]
  exact finish_cT _ _ _ _ _ a _ _ _ (by simp only [zfk, ↓reduceIte, Nat.reduceEqDiff]; try rfl) (by simp only [zfk, ↓reduceIte, Nat.reduceEqDiff]; try rfl) rfl
end Go.Ab

/- The statement TermTexts (CFG6). Conditions: numbers in range. -/
namespace Go.Ab
open Go.Proofs
set_option maxRecDepth 100000
set_option linter.unusedSimpArgs false

mutual
theorem md_few : ∀ t : T, mdT t → fewT 100000 t
  | .mk k b lg l s m kg ks, h => by
    simp only [mdT] at h
    simp only [fewT]
    refine ⟨?_, ?_, md_fewK ks h.2.2.1⟩
    · rcases h.2.2.2 with ⟨_, hc, _⟩ | ⟨_, _, _, _, rfl, _⟩ | ⟨_, _, rfl, _⟩ | ⟨_, _, rfl, _⟩ | ⟨_, _, rfl, _⟩ | ⟨_, _, rfl, _⟩
      · have := (chk_val h.2.1 hc).2.2.1
        omega
      all_goals exact by decide
    · rcases h.2.2.2 with ⟨_, _, _, rfl⟩ | ⟨_, _, _, _, _, rfl⟩ | ⟨_, _, _, _, rfl⟩ | ⟨_, _, _, _, hl⟩ | ⟨_, _, _, _, hl⟩ | ⟨_, _, _, _, rfl⟩
      all_goals first | omega | decide
theorem md_fewK : ∀ ks : List T, mdK ks → fewK 100000 ks
  | [], _ => by simp only [fewK]
  | t :: r, h => by
    simp only [mdK] at h
    simp only [fewK]
    exact ⟨md_few t h.1, md_fewK r h.2⟩
end
mutual
theorem md_wf : ∀ t : T, mdT t → wfT t
  | .mk k b lg l s m kg ks, h => by
    simp only [mdT] at h
    simp only [wfT]
    exact ⟨h.2.1, md_wfK ks h.2.2.1⟩
theorem md_wfK : ∀ ks : List T, mdK ks → wfK ks
  | [], _ => by simp only [wfK]
  | t :: r, h => by
    simp only [mdK] at h
    simp only [wfK]
    exact ⟨md_wf t h.1, md_wfK r h.2⟩
end
set_option maxHeartbeats 4000000 in
theorem termTexts_eq (n D : Nat) (hn : 100000 ≤ n) (hD : 1000 ≤ D) (k l : List Int) (hk : ∀ x ∈ k, I64 x) (hl : ∀ x ∈ l, I64 x) :
    evalFn Tryd.prog cfg6 n (D+3) 4 [.tree (.sl (intsA k) k.length .loose), .tree (.sl (intsA l) l.length .loose)] = some (.tree (.bool true), [[], []]) := by
  rw [evalFn_go _ Tryd.func4 (by unfold Tryd.f4; rfl) (by unfold Tryd.f4; decide) (Nat.le_of_ble_eq_true (by unfold Tryd.f4; rfl)) (by kernel_rfl)]
  have e0 : env0 [.tree (.sl (intsA k) k.length .loose), .tree (.sl (intsA l) l.length .loose)] 0 = .sl (intsA k) k.length .loose := rfl
  have e1 : env0 [.tree (.sl (intsA k) k.length .loose), .tree (.sl (intsA l) l.length .loose)] 1 = .sl (intsA l) l.length .loose := rfl
  have j5 : (st0 [.tree (.sl (intsA k) k.length .loose), .tree (.sl (intsA l) l.length .loose)] 5).t = 0 := rfl
  have j6 : (st0 [.tree (.sl (intsA k) k.length .loose), .tree (.sl (intsA l) l.length .loose)] 6).t = 0 := rfl
  have ho : ∀ s, outsA s 0 [.tree (.sl (intsA k) k.length .loose), .tree (.sl (intsA l) l.length .loose)] = some [[], []] := fun s => rfl
  generalize [Arg.tree (.sl (intsA k) k.length .loose), .tree (.sl (intsA l) l.length .loose)] = as1 at e0 e1 j5 j6 ho
  generalize env0 as1 = env at e0 e1
  generalize st0 as1 = st at j5 j6
  have aw := ev6 (n := n) (d := D+1) (f := 12) (xs := []) rfl (evalFn_mono (show 100000 ≤ 9223372036854775808 by decide) 14 6190 (by decide) _ _ _ awakeT_eq)
  have wa := fun D' st => callA_trees (cfg := cfg6) (d := D') (s := st) (f := 12) (vs := []) rfl aw
  have wq := callQ_trees (f := 12) (vs := []) rfl aw
  by_cases h1 : (k.length : Int) > 40
  · simp only [simB, keep6, Nat.reduceBEq, own6, String.reduceAppend, String.reduceBEq, Bool.or_false, Bool.or_true, Bool.or_self, ↓reduceIte, Nat.reduceEqDiff, Nat.reduceAdd, simA, simL, simN, Nat.zero_add, e0, e1, lenInts, zeb, h1, wa]
    exact finish_b _ _ _ _ _ _ _ (by simp only [zfk, ↓reduceIte, Nat.reduceEqDiff]; try rfl) (ho _)
  · by_cases h2 : (l.length : Int) > 40
    · simp only [simB, keep6, Nat.reduceBEq, own6, String.reduceAppend, String.reduceBEq, Bool.or_false, Bool.or_true, Bool.or_self, ↓reduceIte, Nat.reduceEqDiff, Nat.reduceAdd, simA, simL, simN, Nat.zero_add, e0, e1, lenInts, zeb, h1, h2, wa]
      exact finish_b _ _ _ _ _ _ _ (by simp only [zfk, ↓reduceIte, Nat.reduceEqDiff]; try rfl) (ho _)
    · have ma := fun D' st => callA_trees (cfg := cfg6) (d := D') (s := st) (f := 13) (vs := [.sl (intsA k) k.length .loose, .int .i64 5]) rfl (Made_eq n (D+1) hn (by omega) k .loose ⟨rfl, hk, by omega⟩)
      have mb := fun D' st => callA_trees (cfg := cfg6) (d := D') (s := st) (f := 13) (vs := [.sl (intsA l) l.length .loose, .int .i64 5]) rfl (Made_eq n (D+1) hn (by omega) l .loose ⟨rfl, hl, by omega⟩)
      have oa := made_ok 5 (by decide) k
      have ob := made_ok 5 (by decide) l
      generalize madeT 5 k = ra at oa ma
      generalize madeT 5 l = rb at ob mb
      obtain ⟨a, la⟩ := ra
      obtain ⟨b, lb⟩ := rb
      obtain ⟨a1, a2, a3, _⟩ := oa
      obtain ⟨b1, b2, b3, _⟩ := ob
      dsimp only at a1 a2 a3 b1 b2 b3 ma mb
      have ha := ht_nod a
      have hb := ht_nod b
      have ta := callQ_trees (call := evalFn Tryd.prog cfg6 n (D+2)) (f := 14) (vs := [encT a]) rfl (textT_eq n hn (D+1) a (by omega) a1 (by omega))
      have tb := callQ_trees (call := evalFn Tryd.prog cfg6 n (D+2)) (f := 14) (vs := [encT b]) rfl (textT_eq n hn (D+1) b (by omega) b1 (by omega))
      have ti := text_iff a b a1 b1
      have sm := callQ_trees (call := evalFn Tryd.prog cfg6 n (D+2)) (f := 15) (vs := [encT a, encT b]) rfl (ev6 (n := n) (d := D+1) rfl (evalFn_mono (show 100000 ≤ 9223372036854775808 by decide) 6190 6190 (Nat.le_refl _) _ _ _ (rsame_eq 100000 (by decide) 6189 6190 a b (by omega) (by decide) (md_few a a1))))
      have chk : ∀ t : T, mdT t → okD t 1 → nodT t ≤ 1000 → htT t ≤ 1000 → callQ (evalFn Tryd.prog cfg6 n (D+2)) 10 [encT t] = some (.bool true) := fun t h1 h2 h3 h4 => by
        have h := evalFn_mono (show 1000000 ≤ 9223372036854775808 by decide) 6190 6190 (Nat.le_refl _) _ _ _ (tCheck_eq 1000000 (by decide) (Nat.le_refl _) 6186 t (by omega) (by omega) (md_wf t h1))
        rw [okD_chk t 1 2000 h2 (by omega)] at h
        exact callQ_trees (vs := [encT t]) rfl (ev6 (n := n) (d := D+1) rfl h)
      have ca := chk a a1 (a3 1 (by decide)) (by omega) (by omega)
      have cb := chk b b1 (b3 1 (by decide)) (by omega) (by omega)
      simp only [encT] at ma mb ta tb sm ca cb
      have eb := bool_eql 4 tk4
      have p : (sameT a b == sameT a b) = true := beq_self_eq_true _
      have sa := fun s p k' => st_Tt s p k' a
      have sa6 := fun t k' p st => stT_6 t k' p st (.int .i64 0) (.bool false) (.sl [] 0 .nil) (.str []) (.int .i64 0) (.sl [] 0 .nil) a
      have sb := fun s p k' => st_Tt s p k' b
      have sb6 := fun t k' p st => stT_6 t k' p st (.int .i64 0) (.bool false) (.sl [] 0 .nil) (.str []) (.int .i64 0) (.sl [] 0 .nil) b
      simp only [simB, keep6, Nat.reduceBEq, own6, String.reduceAppend, String.reduceBEq, Bool.or_false, Bool.or_true, Bool.or_self, ↓reduceIte, Nat.reduceEqDiff, Nat.reduceAdd, simA, simL, simN, Nat.zero_add, e0, e1, j5, j6, lenInts, zeb, h1, h2, ma, mb, zeroT, sa, sa6, sb, sb6, ldT_u, ta, tb, s_eqlS, ti, sm, eb, p, ca, cb, wq]
      exact finish_b _ _ _ _ _ _ _ (by simp only [zfk, ↓reduceIte, Nat.reduceEqDiff]; try rfl) (ho _)
end Go.Ab

/- The walk of TermTexts (CFG6): it gives true, and leaves memory below as it was. No conditions. -/
namespace Go.Ab
open Go.Proofs Go.RowKit
theorem prim6_ok : FnOk Tryd.prog prim6 := fun f xs r os h => by
  unfold prim6 at h
  split at h
  · split at h
    · rename_i hf
      rw [beq_iff_eq] at hf
      subst hf
      exact text_ok h
    · cases h
  · exact evalFn_ok mixed prim0_ok 9223372036854775808 6190 f xs r os h
theorem walkTTexts (a0 : Option Addr) (len0 cap0 : Nat) (z0 : List Int) (a1 : Option Addr) (len1 cap1 : Nat) (z1 : List Int) (w : World) (h0 : IsRow .i64 w a0 len0 cap0 z0) (h1 : IsRow .i64 w a1 len1 cap1 z1) :
    Calls Tryd.prog 4 #[.slice a0 len0 cap0, .slice a1 len1 cap1] w fun e w' => e = .returned (.bool true) ∧ Below w.heap.size w w' := by
  obtain ⟨l0, i0⟩ := row_I64 h0
  obtain ⟨l1, i1⟩ := row_I64 h1
  have t := termTexts_eq 100000 1000 (Nat.le_refl _) (Nat.le_refl _) (z0.take len0) (z1.take len1) i0 i1
  rw [l0, l1] at t
  refine lawCallsP (cfg := cfg6) mixed prim6_ok (vs := [.slice a0 len0 cap0, .slice a1 len1 cap1]) t rfl (st0_2 _ _) (fun j v hj => ?_) true rfl
  match j, hj with
  | 0, hj => cases hj; exact ⟨V0_row h0, rfl⟩
  | 1, hj => cases hj; exact ⟨V0_row h1, rfl⟩
end Go.Ab
