/- Several texts put together: AbeY32, AbeY33, AbeY34, AbeY35, AbeY36, AbeY37, AbeY38, AbeY39, AbeY40, AbeY44, AbeY45, AbeZ1, AbeZ2, AbeZ3, AbeZ4, AbeZ5, AbeZ6. Conditions: as each part says. -/
import Derived.Test.YticeekdofpdcoaaAbEAllZ07
import Derived.Test.YticeekdofpdcoaaAbEAllZ06
/- A number of its sign and bytes, as the program makes it (CFG5). Conditions: at most 49 bytes. -/
namespace Go.Ab
open Go.Proofs
set_option maxRecDepth 100000
set_option linter.unusedSimpArgs false

def limO (x : List UInt8) (j : Nat) : Nat := (x.getD (4 * j) 0).toNat + 256 * (x.getD (4 * j + 1) 0).toNat + 65536 * (x.getD (4 * j + 2) 0).toNat + 16777216 * (x.getD (4 * j + 3) 0).toNat
theorem limR_len (x : List UInt8) : ∀ m j, (limR x m j).length = m
  | 0, j => rfl
  | m + 1, j => by simp only [limR, List.length_cons, limR_len x m]
theorem limR_get (x : List UInt8) : ∀ m j k, k < m → (limR x m j)[k]? = some (limO x (j + k))
  | 0, j, k, h => by omega
  | m + 1, j, 0, h => rfl
  | m + 1, j, k + 1, h => by
    simp only [limR, List.getElem?_cons_succ]
    rw [limR_get x m (j + 1) k (by omega), show j + 1 + k = j + (k + 1) by omega]
theorem limR_getD (x : List UInt8) (m k : Nat) (h : k < m) : (limR x m 0).getD k 0 = limO x k := by
  rw [List.getD_eq_getElem?_getD, limR_get x m 0 k h, Nat.zero_add]; rfl
theorem limR_zero (m : Nat) : ∀ j, limR [] m j = List.replicate m 0 := by
  induction m with
  | zero => intro j; rfl
  | succ m ih => intro j; simp only [limR, ih, List.replicate_succ, List.getD_nil]; rfl
theorem getD_take_le (y : List UInt8) (i k : Nat) (h : i ≤ k) : (y.take i).getD k 0 = 0 := by
  rw [List.getD_eq_getElem?_getD, List.getElem?_take, if_neg (by omega)]; rfl
theorem getD_take_lt (y : List UInt8) (i k : Nat) (h : k < i) : (y.take i).getD k 0 = y.getD k 0 := by
  rw [List.getD_eq_getElem?_getD, List.getElem?_take, if_pos h, List.getD_eq_getElem?_getD]
theorem limO_other (y : List UInt8) (i j : Nat) (h : j ≠ i / 4) : limO (y.take (i + 1)) j = limO (y.take i) j := by
  have g : ∀ k, k ≠ i → (y.take (i + 1)).getD k 0 = (y.take i).getD k 0 := fun k hk => by
    rcases Nat.lt_or_ge k i with h1 | h1
    · rw [getD_take_lt _ _ _ h1, getD_take_lt _ _ _ (by omega)]
    · rw [getD_take_le _ _ _ h1, getD_take_le _ _ _ (by omega)]
  unfold limO
  rw [g _ (by omega), g _ (by omega), g _ (by omega), g _ (by omega)]
theorem limO_here (y : List UInt8) (i : Nat) : limO (y.take i) (i / 4) < 2 ^ (8 * (i % 4)) ∧ limO (y.take (i + 1)) (i / 4) = limO (y.take i) (i / 4) + (y.getD i 0).toNat * 2 ^ (8 * (i % 4)) := by
  obtain ⟨j, r, rfl, hr⟩ : ∃ j r, i = 4 * j + r ∧ r < 4 := ⟨i / 4, i % 4, by omega, by omega⟩
  have e1 : (4 * j + r) / 4 = j := by omega
  have e2 : (4 * j + r) % 4 = r := by omega
  rw [e1, e2]
  have b : ∀ k, (y.getD k 0).toNat < 256 := fun k => (y.getD k 0).toNat_lt
  have b0 := b (4 * j)
  have b1 := b (4 * j + 1)
  have b2 := b (4 * j + 2)
  unfold limO
  have hz : ((0 : UInt8)).toNat = 0 := rfl
  have lt : ∀ i k, k < i → (y.take i).getD k 0 = y.getD k 0 := getD_take_lt y
  have le : ∀ i k, i ≤ k → (y.take i).getD k 0 = 0 := getD_take_le y
  match r, hr with
  | 0, _ =>
    rw [le (4 * j + 0) (4 * j) (by omega), le (4 * j + 0) (4 * j + 1) (by omega), le (4 * j + 0) (4 * j + 2) (by omega), le (4 * j + 0) (4 * j + 3) (by omega), lt (4 * j + 0 + 1) (4 * j) (by omega), le (4 * j + 0 + 1) (4 * j + 1) (by omega), le (4 * j + 0 + 1) (4 * j + 2) (by omega), le (4 * j + 0 + 1) (4 * j + 3) (by omega), hz]
    exact ⟨by decide, by simp only [Nat.add_zero]; omega⟩
  | 1, _ =>
    rw [lt (4 * j + 1) (4 * j) (by omega), le (4 * j + 1) (4 * j + 1) (by omega), le (4 * j + 1) (4 * j + 2) (by omega), le (4 * j + 1) (4 * j + 3) (by omega), lt (4 * j + 1 + 1) (4 * j) (by omega), lt (4 * j + 1 + 1) (4 * j + 1) (by omega), le (4 * j + 1 + 1) (4 * j + 2) (by omega), le (4 * j + 1 + 1) (4 * j + 3) (by omega), hz]
    exact ⟨by omega, by omega⟩
  | 2, _ =>
    rw [lt (4 * j + 2) (4 * j) (by omega), lt (4 * j + 2) (4 * j + 1) (by omega), le (4 * j + 2) (4 * j + 2) (by omega), le (4 * j + 2) (4 * j + 3) (by omega), lt (4 * j + 2 + 1) (4 * j) (by omega), lt (4 * j + 2 + 1) (4 * j + 1) (by omega), lt (4 * j + 2 + 1) (4 * j + 2) (by omega), le (4 * j + 2 + 1) (4 * j + 3) (by omega), hz]
    exact ⟨by omega, by omega⟩
  | 3, _ =>
    rw [lt (4 * j + 3) (4 * j) (by omega), lt (4 * j + 3) (4 * j + 1) (by omega), lt (4 * j + 3) (4 * j + 2) (by omega), le (4 * j + 3) (4 * j + 3) (by omega), lt (4 * j + 3 + 1) (4 * j) (by omega), lt (4 * j + 3 + 1) (4 * j + 1) (by omega), lt (4 * j + 3 + 1) (4 * j + 2) (by omega), lt (4 * j + 3 + 1) (4 * j + 3) (by omega), hz]
    exact ⟨by omega, by omega⟩
theorem limR_step (y : List UInt8) (i m : Nat) (h : i / 4 < m) : (limR (y.take i) m 0).set (i / 4) (limO (y.take (i + 1)) (i / 4)) = limR (y.take (i + 1)) m 0 := by
  apply List.ext_getElem?
  intro k
  rw [List.getElem?_set]
  by_cases hk : k < m
  · rw [limR_get _ _ _ _ hk, limR_get _ _ _ _ hk, Nat.zero_add]
    by_cases e : i / 4 = k
    · subst e; rw [if_pos rfl, if_pos (by rw [limR_len]; exact h)]
    · rw [if_neg e, limO_other _ _ _ (fun h => e h.symm)]
  · rw [if_neg (by omega), List.getElem?_eq_none (by rw [limR_len]; omega), List.getElem?_eq_none (by rw [limR_len]; omega)]

theorem bdG_N (b : Bool) (q u N : Nat) : buildG Try.prog 25 [(0, .bool b), (1, .own q u 0 N 1)] = some (.aggo [.bool b] q u 0 N 1) := by
  simp only [buildG, tk24, zew, pl24, Option.bind_some]; rfl
theorem stH_N (s : St) (p t q u N : Nat) (a b x : AV) (h : s p = ⟨t, .buf [a, b]⟩) : storeH Try.prog 25 s (.ptr p t 0) (.aggo [x] q u 0 N 1) = some (upd s p ⟨t, .mix [x, .undef] [(1, .own q u 0 N 1)]⟩) := by
  simp [storeH, h, esz24, splice]
theorem faE_mix (t p k off : Nat) (xs : List AV) (hs : List (Nat × AV)) : faE ⟨t, .mix xs hs⟩ p k off = if t = k then some (.ptr p k off) else none := by
  simp only [faE, cellsE]
  by_cases e : t = k <;> simp [e]
theorem ldE_mix22 (t k : Nat) (a b v : AV) : ldE Try.prog 23 ⟨t, .mix [a, b] [(1, v)]⟩ k 1 = if t = k then some v else none := by
  simp only [ldE, ldC, sh22, heldL, if_true]
theorem ldE_mix24 (t k q u N : Nat) (a b : AV) : ldE Try.prog 25 ⟨t, .mix [a, b] [(1, .own q u 0 N 1)]⟩ k 0 = if t = k then some (.aggo [a] q u 0 N 1) else none := by
  simp [ldE, ldC, sh24, heldL]
theorem st_aggo (s : St) (p t q u N : Nat) (a b x : AV) (xs : List AV) (h : s p = ⟨t, .buf [a, b]⟩) (hq : s q = ⟨u, .buf xs⟩) (hpq : p ≠ q) (hl : N ≤ xs.length) : storeA Try.prog 25 s (.ptr p t 0) (.aggo [x] q u 0 N 1) = some (upd (upd s q ⟨u, .frz xs⟩) p ⟨t, .buf [x, .sl (xs.take N) N .loose]⟩) := by
  have h2 : upd s q ⟨u, .frz xs⟩ p = ⟨t, .buf [a, b]⟩ := by rw [upd_ne _ _ hpq]; exact h
  simp [storeA, settle, hq, hl, h2, esz24, splice]
theorem slLo1 (s : St) (x : List UInt8) (g : Grip) (h : 1 ≤ x.length) : ∃ g', sliceA Try.prog 22 s (.sl (cellsOfBytes x) x.length g) (some (.int .i64 1)) none none = some (.sl (cellsOfBytes x.tail) x.tail.length g') := by
  have hx : (cellsOfBytes x).length = x.length * 1 := by simp [cellsOfBytes]
  simp only [sliceA, tkB, eszB, Option.isSome_none, Bool.false_eq_true, false_and, if_false, boundA, Option.bind_some, hx, if_true]
  rw [if_pos (by omega)]
  simp only [Option.bind_some]
  have ht : (cellsOfBytes x).take (x.length * 1) = cellsOfBytes x := List.take_of_length_le (by rw [hx]; exact Nat.le_refl _)
  rw [ht, Nat.mul_one, show (1 : Int).toNat = 1 from rfl, cB_drop, List.drop_one, List.length_tail]
  exact ⟨_, rfl⟩
theorem y_shlI (a K : Nat) (hK : K < 32) (h : a * 2 ^ K < 4294967296) : binA Try.prog .shl 56 (.int .u32 (a : Int)) (.int .i64 (K : Int)) = some (.int .u32 ((a * 2 ^ K : Nat) : Int)) := by
  have hm : min ((K : Int).toNat) 32 = K := by omega
  have e : (a : Int) * 2 ^ K = ((a * 2 ^ K : Nat) : Int) := by rw [Int.natCast_mul, Int.natCast_pow]; rfl
  simp only [binA, shA, IntKind.bits]
  rw [if_neg (by omega)]
  simp only [hm, e]
  have w : IntKind.u32.wrap ((a * 2 ^ K : Nat) : Int) = ((a * 2 ^ K : Nat) : Int) := by
    generalize a * 2 ^ K = q at *
    show (q : Int) % 4294967296 = q
    omega
  rw [w]
theorem y_orU (a b : Nat) (h : a < 4294967296) (h' : b < 4294967296) : binA Try.prog .or 56 (.int .u32 (a : Int)) (.int .u32 (b : Int)) = some (.int .u32 (((a ||| b) : Nat) : Int)) := by
  have h1 : (BitVec.ofInt 32 (a : Int) ||| BitVec.ofInt 32 (b : Int)).toNat = a ||| b := by
    rw [BitVec.toNat_or]
    simp only [BitVec.ofInt_natCast, BitVec.toNat_ofNat]
    rw [Nat.mod_eq_of_lt (by omega), Nat.mod_eq_of_lt (by omega)]
  have h2 : a ||| b < 2 ^ 32 := Nat.or_lt_two_pow (by omega) (by omega)
  show some (AV.int .u32 (IntKind.u32.wrap ((BitVec.ofInt 32 (a : Int) ||| BitVec.ofInt 32 (b : Int)).toNat : Int))) = _
  rw [h1]
  generalize a ||| b = c at *
  have w : IntKind.u32.wrap (c : Int) = (c : Int) := by
    show (c : Int) % 4294967296 = c
    omega
  rw [w]
theorem y_mul8 (r : Nat) (h : r < 4) : binA Try.prog .mul 3 (.int .i64 8) (.int .i64 (r : Int)) = some (.int .i64 ((8 * r : Nat) : Int)) := by
  have e : (8 : Int) * (r : Int) = ((8 * r : Nat) : Int) := by omega
  simp only [binA, intA, if_true, e]
  rw [i64_wrap _ (by omega) (by omega)]
set_option maxHeartbeats 8000000 in
theorem big_eq (n d : Nat) (hn : 100 ≤ n) : BigOk n (d + 1) := by
  intro o ho1
  obtain ⟨gv, hgv⟩ := takeV_row o
  rw [hgv]
  generalize o.getD [] = x at ho1 ⊢
  rw [evalFn_go _ Try.func83 (by unfold Try.f83; rfl) (by unfold Try.f83; decide) (Nat.le_of_ble_eq_true (by unfold Try.f83; rfl)) (by kernel_rfl)]
  have e0 : env0 [.tree (.sl (cellsOfBytes x) x.length gv)] 0 = .sl (cellsOfBytes x) x.length gv := rfl
  have j2 : ∀ j, (st0 [.tree (.sl (cellsOfBytes x) x.length gv)] j).t = 0 := fun j => by
    rcases j with _ | j <;> rfl
  have ho : ∀ s', outsA s' 0 [.tree (.sl (cellsOfBytes x) x.length gv)] = some [[]] := fun s' => rfl
  generalize [Arg.tree (.sl (cellsOfBytes x) x.length gv)] = as1 at e0 j2 ho
  generalize env0 as1 = env at e0
  generalize st0 as1 = st at j2
  unfold bigR
  by_cases hx : x.length < 2
  · have q1 : (x.length : Int) < 2 := by omega
    rw [if_pos hx]
    simp only [simB, keep5, Nat.reduceBEq, own5, String.reduceAppend, String.reduceBEq, Bool.or_false, Bool.or_true, Bool.or_self, ↓reduceIte, Nat.reduceEqDiff, Nat.reduceAdd, simA, simL, simN, Nat.zero_add, e0, j2, lenB, y_lss, q1]
    exact finish_c _ _ _ _ _ _ _ _ _ _ (by simp only [zfk, ↓reduceIte, Nat.reduceEqDiff]; try rfl) (by simp only [zfk, ↓reduceIte, Nat.reduceEqDiff]; try rfl) (ho _)
  · have q1 : ¬ (x.length : Int) < 2 := by omega
    rw [if_neg hx]
    obtain ⟨c, y, rfl⟩ : ∃ c y, x = c :: y := by
      cases x with
      | nil => simp at hx
      | cons c y => exact ⟨c, y, rfl⟩
    simp only [List.headD_cons, List.tail_cons]
    have ia0 := fun st => iaB st (c :: y) gv 0 (by omega)
    rw [List.drop_zero] at ia0
    have ld0 := fun st => ldB st c y
    have hb : ((c.toNat : Int) == 1) = (c == 1) := by
      rw [Bool.eq_iff_iff]
      simp only [beq_iff_eq]
      constructor
      · intro h; apply UInt8.toNat_inj.1; show c.toNat = 1; omega
      · intro h; subst h; rfl
    have hlen : (c :: y).length ≤ 49 := ho1
    have a1 := i_add Try.prog 3 ((c :: y).length : Int) 2 (by omega) (by omega)
    have a2 := i_quo Try.prog 3 ((c :: y).length + 2) 4 (by decide) (by omega)
    rw [show (((c :: y).length + 2 : Nat) : Int) = ((c :: y).length : Int) + 2 by omega, show ((4 : Nat) : Int) = 4 from rfl] at a2
    obtain ⟨N, hN⟩ : ∃ N, ((c :: y).length + 2) / 4 = N := ⟨_, rfl⟩
    rw [hN] at a2 ⊢
    have hN4 : y.length ≤ 4 * N := by simp only [List.length_cons] at hN; omega
    have hN1 : N ≤ 12 := by omega
    have mk := fun s => make22 18 s (N : Int) (by omega) (by omega)
    simp only [Int.toNat_natCast] at mk
    obtain ⟨g', hsl0⟩ := slLo1 dead (c :: y) gv (by simp only [List.length_cons]; omega)
    have hsl : ∀ s, sliceA Try.prog 22 s (.sl (cellsOfBytes (c :: y)) (c :: y).length gv) (some (.int .i64 1)) none none = some (.sl (cellsOfBytes y) y.length g') := fun s => hsl0
    have ia0' : ∀ st, indexAddrA Try.prog 22 st (.sl (cellsOfBytes (c :: y)) (c :: y).length gv) (.int .i64 0) = some (.rptr (cellsOfBytes (c :: y))) := ia0
    simp only [simB, keep5, Nat.reduceBEq, own5, String.reduceAppend, String.reduceBEq, Bool.or_false, Bool.or_true, Bool.or_self, ↓reduceIte, Nat.reduceEqDiff, Nat.reduceAdd, simA, simL, simN, Nat.zero_add, e0, j2, lenB, y_lss, q1, ia0', ld0, y_eql8, hb, a1, a2, mk, bdG_N]
    rw [stH_N _ 3 1 18 1 N (.bool false) (.sl [] 0 .nil) (.bool (c == 1)) (by simp only [zfk, ↓reduceIte, Nat.reduceEqDiff]; try rfl)]
    simp only [simB, keep5, Nat.reduceBEq, own5, String.reduceAppend, String.reduceBEq, Bool.or_false, Bool.or_true, Bool.or_self, ↓reduceIte, Nat.reduceEqDiff, Nat.reduceAdd, simA, simL, simN, Nat.zero_add, e0, hsl, lenB, den_loop]
    have hL0 : limR (y.take 0) N 0 = List.replicate N 0 := by rw [List.take_zero, limR_zero]
    refine loop_ends (X := Nat) (fun i env s => env 2 = .ptr 2 1 0 ∧ env 3 = .ptr 3 1 0 ∧ env 21 = .sl (cellsOfBytes y) y.length g' ∧ env 22 = .int .i64 (y.length : Int) ∧ env 23 = .int .i64 (i : Int) ∧ i ≤ y.length ∧ s 2 = ⟨1, .buf [.bool false, .sl [] 0 .nil]⟩ ∧ s 3 = ⟨1, .mix [.bool (c == 1), .undef] [(1, .own 18 1 0 N 1)]⟩ ∧ s 18 = ⟨1, .buf (encC (limR (y.take i) N 0))⟩) (fun i => y.length - i) (fun _ => (.tree (encA (c == 1) .l (limR y N 0)), [[]])) ?_ n 0 _ _ (by simp only [List.length_cons] at hlen; omega) ⟨(by simp only [zfk, ↓reduceIte, Nat.reduceEqDiff]; try rfl), (by simp only [zfk, ↓reduceIte, Nat.reduceEqDiff]; try rfl), (by simp only [zfk, ↓reduceIte, Nat.reduceEqDiff]; try rfl), (by simp only [zfk, ↓reduceIte, Nat.reduceEqDiff]; try rfl), (by simp only [zfk, ↓reduceIte, Nat.reduceEqDiff]; try rfl), Nat.zero_le _, (by simp only [zfk, ↓reduceIte, Nat.reduceEqDiff]; try rfl), (by simp only [zfk, ↓reduceIte, Nat.reduceEqDiff]; try rfl), (by simp only [zfk, ↓reduceIte, Nat.reduceEqDiff, hL0]; try rfl)⟩
    rintro rd i hrd ih env1 s1 ⟨e2, e3, e21, e22, e23, hi, k2, k3, k18⟩
    cases hdr : y.drop i with
    | cons v q =>
      have hlt : i < y.length := by have := congrArg List.length hdr; simp only [List.length_drop, List.length_cons] at this; omega
      have q3 : (i : Int) < (y.length : Int) := by omega
      have ia := fun st => iaB st y g' i hlt
      rw [hdr] at ia
      have ld := fun st => ldB st v q
      have hv : v.toNat < 256 := v.toNat_lt
      have hyv : y.getD i 0 = v := by
        have hxi : y[i]? = some v := by rw [← Nat.add_zero i, ← List.getElem?_drop, hdr]; rfl
        rw [List.getD_eq_getElem?_getD, hxi]; rfl
      have hiN : i / 4 < N := by omega
      have c1 := i_quo Try.prog 3 i 4 (by decide) (by omega)
      have c2 := i_rem Try.prog 3 i 4 (by decide)
      rw [show ((4 : Nat) : Int) = 4 from rfl] at c1 c2
      have c3 := y_mul8 (i % 4) (by omega)
      have hpow : 256 * 2 ^ (8 * (i % 4)) ≤ 4294967296 := by
        have h : i % 4 < 4 := Nat.mod_lt _ (by decide)
        generalize i % 4 = r at h ⊢
        match r, h with
        | 0, _ => decide
        | 1, _ => decide
        | 2, _ => decide
        | 3, _ => decide
      have hmul : v.toNat * 2 ^ (8 * (i % 4)) < 4294967296 := Nat.lt_of_lt_of_le ((Nat.mul_lt_mul_right (Nat.two_pow_pos _)).2 hv) hpow
      have c4 := y_shlI v.toNat (8 * (i % 4)) (by omega) hmul
      have c5 := fun s => conv5_31 s v.toNat hv
      obtain ⟨hold, hnew⟩ := limO_here y i
      rw [hyv] at hnew
      have hold2 : limO (y.take i) (i / 4) < 4294967296 := by
        have : 2 ^ (8 * (i % 4)) ≤ 256 * 2 ^ (8 * (i % 4)) := Nat.le_mul_of_pos_left _ (by decide)
        omega
      have c6 := y_orU (limO (y.take i) (i / 4)) (v.toNat * 2 ^ (8 * (i % 4))) hold2 hmul
      rw [shl_or _ _ _ hold, ← hnew] at c6
      have hLl : (limR (y.take i) N 0).length = N := limR_len _ _ _
      have c7 : ∀ s, s 18 = (⟨1, .buf (encC (limR (y.take i) N 0))⟩ : Ent) → indexAddrA Try.prog 23 s (.own 18 1 0 N 1) (.int .i64 ((i / 4 : Nat) : Int)) = some (.ptr 18 1 (i / 4)) := fun s h => by
        have := ia_own s 18 1 (limR (y.take i) N 0) N .i64 ((i / 4 : Nat) : Int) h (by omega) (by omega)
        rwa [Int.toNat_natCast] at this
      have c8 : ∀ s, s 18 = (⟨1, .buf (encC (limR (y.take i) N 0))⟩ : Ent) → loadA Try.prog 56 s (.ptr 18 1 (i / 4)) = some (.int .u32 (limO (y.take i) (i / 4) : Int)) := fun s h => by
        rw [ld_own s 18 1 (limR (y.take i) N 0) (i / 4) h (by omega), limR_getD _ _ _ hiN]
      have c9 : ∀ s, s 18 = (⟨1, .buf (encC (limR (y.take i) N 0))⟩ : Ent) → storeA Try.prog 56 s (.ptr 18 1 (i / 4)) (.int .u32 (limO (y.take (i + 1)) (i / 4) : Int)) = some (upd s 18 ⟨1, .buf (encC (limR (y.take (i + 1)) N 0))⟩) := fun s h => by
        rw [st31 s 18 1 (limR (y.take i) N 0) (i / 4) _ h (by omega), limR_step _ _ _ hiN]
      have c10 := i_add Try.prog 3 (i : Int) 1 (by omega) (by omega)
      simp only [simB, keep5, Nat.reduceBEq, own5, String.reduceAppend, String.reduceBEq, Bool.or_false, Bool.or_true, Bool.or_self, ↓reduceIte, Nat.reduceEqDiff, Nat.reduceAdd, simA, simL, simN, Nat.zero_add, y_lss, e2, e3, e21, e22, e23, q3, ia, ld, k3, faE_mix, ldE_mix22, c1, c2, c3, c4, c5, c6, c7 _ k18, c8 _ k18, c9 _ k18, c10]
      exact ih (i + 1) _ _ (by omega) rfl ⟨(by simp only [zfk, ↓reduceIte, Nat.reduceEqDiff, e2]; try rfl), (by simp only [zfk, ↓reduceIte, Nat.reduceEqDiff, e3]; try rfl), (by simp only [zfk, ↓reduceIte, Nat.reduceEqDiff, e21]; try rfl), (by simp only [zfk, ↓reduceIte, Nat.reduceEqDiff, e22]; try rfl), (by simp only [zfk, ↓reduceIte, Nat.reduceEqDiff]; try rfl), by omega, (by simp only [zfk, ↓reduceIte, Nat.reduceEqDiff, k2]; try rfl), (by simp only [zfk, ↓reduceIte, Nat.reduceEqDiff, k3]; try rfl), (by simp only [zfk, ↓reduceIte, Nat.reduceEqDiff]; try rfl)⟩
    | nil =>
      have hie : i = y.length := by have := congrArg List.length hdr; simp only [List.length_drop, List.length_nil] at this; omega
      subst hie
      rw [List.take_length] at k18
      have q3 : ¬ (y.length : Int) < (y.length : Int) := by omega
      have hLl : (encC (limR y N 0)).length = N := by rw [encC_len, limR_len]
      simp only [simB, keep5, Nat.reduceBEq, own5, String.reduceAppend, String.reduceBEq, Bool.or_false, Bool.or_true, Bool.or_self, ↓reduceIte, Nat.reduceEqDiff, Nat.reduceAdd, simA, simL, simN, Nat.zero_add, y_lss, e2, e3, e21, e22, e23, q3, k3, ldE_mix24]
      rw [st_aggo _ 2 1 18 1 N _ _ _ _ k2 k18 (by decide) (by omega)]
      simp only [simB, keep5, Nat.reduceBEq, own5, String.reduceAppend, String.reduceBEq, Bool.or_false, Bool.or_true, Bool.or_self, ↓reduceIte, Nat.reduceEqDiff, Nat.reduceAdd, simA, simL, simN, Nat.zero_add]
      have htk : (encC (limR y N 0)).take N = encC (limR y N 0) := List.take_of_length_le (by omega)
      rw [htk]
      refine (finish_c _ _ _ 2 1 (.bool (c == 1)) (.sl (encC (limR y N 0)) N .loose) _ _ _ (by simp only [zfk, ↓reduceIte, Nat.reduceEqDiff, e2]; try rfl) (by simp only [zfk, ↓reduceIte, Nat.reduceEqDiff]; try rfl) (ho _)).trans ?_
      rw [encA, encL, limR_len]; rfl
end Go.Ab

/- Numbers, names, texts that were written are read: plain mathematics. Conditions: places in range. -/
namespace Go.Ab
open Go.Proofs
set_option maxRecDepth 100000

def numT' (b : Bool) (g : Gk) (l : List Nat) : T := .mk 1 b g l [] 0 .n []
theorem putB_num (b : Bool) (g : Gk) (l : List Nat) : putB (numT' b g l) = numB b l := by
  simp only [putB, numT', putA]; rfl
end Go.Ab

/- What was written is read: plain mathematics. Conditions: terms that may be; places in range. -/
namespace Go.Ab
open Go.Proofs
set_option maxRecDepth 100000

theorem listR_ok {bs : List UInt8} {rd1 rd2 : RS → T × RS} {s : RS} {m : Int × RS} {h : List T × RS} {t : T × RS} (hm : manyR bs s 4 1 (2001 - s.tm) = m) (hh : someR rd1 m.1.toNat (bumpR m) [] = h) (ht : rd2 h.2 = t) (hk : ¬ kindT t.1 = 4) : listR bs rd1 rd2 s = (listT h.1 t.1, t.2) := by
  subst hm hh ht
  unfold listR
  dsimp only
  rw [if_neg hk]
theorem own_none {k : Int} {b : Bool} {lg : Gk} {l : List Nat} {s : List UInt8} {n : Int} {kg : Gk} {ks : List T} (h : ownT (.mk k b lg l s n kg ks) = true) (h4 : k ≠ 4) (h5 : k ≠ 5) : ks = [] := by
  simp [ownT, h4, h5] at h
  exact h.2.1.2
end Go.Ab

/- What is cut is short: plain mathematics. Conditions: places in range. -/
namespace Go.Ab
open Go.Proofs
set_option maxRecDepth 100000

def CutR {α : Type} (bs : List UInt8) (k f f' : Nat) (F F' : RS → α × RS) : Prop := ∀ s, InvR bs s → s.e = 0 → s.i ≤ k → bs.length < s.i + f → k < s.i + f' → (F s).2.e = 0 → ((F s).2.i ≤ k → F' s = F s) ∧ (k < (F s).2.i → (F' s).2.e = 3)
theorem takeR_short {bs : List UInt8} {s : RS} {n : Nat} (h : s.e ≠ 0 ∨ bs.length < s.i + n) : takeR bs s n = (none, s.fail 3) := by unfold takeR; rw [if_pos h]
theorem takeR_is {bs : List UInt8} {s : RS} {n : Nat} (h : s.e = 0) (h2 : s.i + n ≤ bs.length) : takeR bs s n = (some ((bs.drop s.i).take n), ⟨s.i + n, s.tm, s.e⟩) := by
  unfold takeR
  rw [if_neg (fun hh => by
    rcases hh with hh | hh
    · exact hh h
    · omega)]
theorem fail3 {s : RS} (h : s.e = 0) : (s.fail 3).e = 3 := by unfold RS.fail; rw [if_pos h]
theorem fail_keep {s : RS} (e : Int) (h : s.e ≠ 0) : s.fail e = s := by unfold RS.fail; rw [if_neg h]
theorem manyR_of2 {bs : List UInt8} {s : RS} {n : Nat} {a b : Int} {o : Option (List UInt8) × RS} (h : takeR bs s n = o) : manyR bs s n a b = if o.2.e ≠ 0 then (0, o.2) else if beV (o.1.getD []) 0 < a ∨ b < beV (o.1.getD []) 0 then (0, o.2.fail 4) else (beV (o.1.getD []) 0, o.2) := by
  subst h; rfl
theorem endR_e {bs : List UInt8} {r : RS} {p : T} {fr : Nat} (h : (endR bs r p fr).e = 0) : r.e = 0 ∧ endR bs r p fr = r := by
  unfold endR at h ⊢
  split
  · rename_i h1
    rw [if_pos h1] at h
    unfold RS.fail at h
    rw [if_pos h1.1] at h
    cases h
  · rename_i h1
    rw [if_neg h1] at h
    exact ⟨h, rfl⟩
theorem CutR.bind {α β : Type} {bs : List UInt8} {k f f' : Nat} {F F' : RS → α × RS} (H : CutR bs k f f' F F') {G G' : α → RS → β × RS} (HG : ∀ a, CutR bs k f f' (G a) (G' a))
    (h0 : ∀ s, InvR bs s → InvR bs (F s).2 ∧ s.i ≤ (F s).2.i) (h1 : ∀ a s, InvR bs s → s.i ≤ (G a s).2.i) (h2 : ∀ a s, s.e ≠ 0 → (G a s).2.e ≠ 0) (h3 : ∀ a s, s.e = 3 → (G' a s).2.e = 3) :
    CutR bs k f f' (fun s => G (F s).1 (F s).2) (fun s => G' (F' s).1 (F' s).2) := by
  intro s hs he hi hf hf' h
  dsimp only at h ⊢
  have hFe : (F s).2.e = 0 := by
    rcases Classical.em ((F s).2.e = 0) with hh | hh
    · exact hh
    · exact absurd h (h2 _ _ hh)
  have c1 := H s hs he hi hf hf' hFe
  have hi1 := h0 s hs
  rcases Nat.lt_or_ge k (F s).2.i with hh | hh
  · refine ⟨fun h4 => ?_, fun _ => h3 _ _ (c1.2 hh)⟩
    have := h1 (F s).1 _ hi1.1
    omega
  · rw [c1.1 hh]
    exact HG (F s).1 (F s).2 hi1.1 hFe hh (by omega) (by omega) h
end Go.Ab

/- What is cut is short: terms. Conditions: places in range. -/
namespace Go.Ab
open Go.Proofs
set_option maxRecDepth 100000

theorem CutR.map {α β : Type} {bs : List UInt8} {k f f' : Nat} {F F' : RS → α × RS} (H : CutR bs k f f' F F') (g : α → β) : CutR bs k f f' (fun s => (g (F s).1, (F s).2)) (fun s => (g (F' s).1, (F' s).2)) := by
  intro s hs he hi hf hf' h
  have := H s hs he hi hf hf' h
  dsimp only at h ⊢
  exact ⟨fun h1 => by rw [this.1 h1], this.2⟩
def finR (bs : List UInt8) (fr : Nat) (x : T × RS) : T × RS := (x.1, endR bs x.2 x.1 fr)
def raw97 (o : Option (List UInt8)) : T := one97 (o.getD [])
def raw98 (o : Option (List UInt8)) : T := match o with | some x => smallT (i32 (beV x 0)) | none => .mk 1 false .n [] [] 0 .n []
def raw110 (o : Option (List UInt8)) : T := .mk 1 (bigR (o.getD [])).1 (bigR (o.getD [])).2.1 (bigR (o.getD [])).2.2 [] 0 .n []
def raw119 (o : Option (List UInt8)) : T := .mk 2 false .n [] (o.getD []) 0 .n []
def raw109 (o : Option (List UInt8)) : T := .mk 6 false .n [] (o.getD []) 0 .n []
def two (f : Int → Nat) (g : Option (List UInt8) → T) (bs : List UInt8) (n : Nat) (a b : Int) (s : RS) : T × RS := (g (takeR bs (manyR bs s n a b).2 (f (manyR bs s n a b).1)).1, (takeR bs (manyR bs s n a b).2 (f (manyR bs s n a b).1)).2)
theorem plainF_97 (bs : List UInt8) (s : RS) (fr : Nat) : plainR bs s 97 fr = finR bs fr (raw97 (takeR bs s 1).1, (takeR bs s 1).2) := rfl
theorem plainF_98 (bs : List UInt8) (s : RS) (fr : Nat) : plainR bs s 98 fr = finR bs fr (raw98 (takeR bs s 4).1, (takeR bs s 4).2) := rfl
theorem plainF_110 (bs : List UInt8) (s : RS) (fr : Nat) : plainR bs s 110 fr = finR bs fr (two (fun m => 1 + m.toNat) raw110 bs 1 1 48 s) := rfl
theorem plainF_119 (bs : List UInt8) (s : RS) (fr : Nat) : plainR bs s 119 fr = finR bs fr (two Int.toNat raw119 bs 1 1 40 s) := rfl
theorem plainF_109 (bs : List UInt8) (s : RS) (fr : Nat) : plainR bs s 109 fr = finR bs fr (two Int.toNat raw109 bs 4 0 400 s) := rfl
theorem plainF_106 (bs : List UInt8) (s : RS) (fr : Nat) : plainR bs s 106 fr = finR bs fr (nilT', s) := rfl
theorem someR_z {rd : RS → T × RS} (hr : ∀ s, (rd s).2.e = 0 → s.e = 0) (n : Nat) (s : RS) (acc : List T) (h : (someR rd n s acc).2.e = 0) : s.e = 0 := by
  cases n with
  | zero => exact h
  | succ n =>
    simp only [someR] at h
    split at h
    · rename_i h1; exact absurd h h1
    · rename_i h1; exact hr s (by simpa using h1)
theorem list_e {rd1 rd2 : RS → T × RS} {bs : List UInt8} {s : RS} (h : (listR bs rd1 rd2 s).2.e = 0) : (rd2 (someR rd1 (manyR bs s 4 1 (2001 - s.tm)).1.toNat (bumpR (manyR bs s 4 1 (2001 - s.tm))) []).2).2.e = 0 ∧ kindT (rd2 (someR rd1 (manyR bs s 4 1 (2001 - s.tm)).1.toNat (bumpR (manyR bs s 4 1 (2001 - s.tm))) []).2).1 ≠ 4 := by
  unfold listR at h
  dsimp only at h
  split at h
  · unfold RS.fail at h
    split at h
    · cases h
    · rename_i h1; exact absurd h h1
  · rename_i h1; exact ⟨h, h1⟩
end Go.Ab

/- What was read may be, and is written so: plain mathematics. Conditions: places in range. -/
namespace Go.Ab
open Go.Proofs
set_option maxRecDepth 100000

def sliR (bs : List UInt8) (i j : Nat) : List UInt8 := (bs.drop i).take (j - i)
theorem sli_app (bs : List UInt8) {i j k : Nat} (h1 : i ≤ j) (h2 : j ≤ k) : sliR bs i k = sliR bs i j ++ sliR bs j k := by
  unfold sliR
  rw [show k - i = (j - i) + (k - j) by omega, List.take_add, List.drop_drop, show i + (j - i) = j by omega]
theorem sli_self (bs : List UInt8) (i : Nat) : sliR bs i i = [] := by simp [sliR]
theorem take_sli {bs : List UInt8} {s : RS} {n : Nat} (h : (takeR bs s n).2.e = 0) : (takeR bs s n).1 = some (sliR bs s.i (s.i + n)) ∧ (takeR bs s n).2 = ⟨s.i + n, s.tm, 0⟩ ∧ s.i + n ≤ bs.length ∧ s.e = 0 := by
  obtain ⟨h1, _⟩ := takeR_e h
  have h2 : s.i + n ≤ bs.length := by
    rcases Nat.lt_or_ge bs.length (s.i + n) with hh | hh
    · rw [takeR_short (.inr hh), fail3 h1] at h; cases h
    · exact hh
  rw [takeR_is h1 h2, h1]
  refine ⟨?_, rfl, h2, rfl⟩
  rw [sliR, show s.i + n - s.i = n by omega]
theorem many_sli {bs : List UInt8} {s : RS} {n : Nat} {a b : Int} (h : (manyR bs s n a b).2.e = 0) : (manyR bs s n a b).1 = beV (sliR bs s.i (s.i + n)) 0 ∧ (manyR bs s n a b).2 = ⟨s.i + n, s.tm, 0⟩ ∧ s.i + n ≤ bs.length ∧ s.e = 0 ∧ a ≤ (manyR bs s n a b).1 ∧ (manyR bs s n a b).1 ≤ b := by
  obtain ⟨h1, h2, h3, h4⟩ := manyR_e h
  obtain ⟨h5, h6, h7, h8⟩ := take_sli h1
  refine ⟨?_, by rw [h2, h6], h7, h8, h3, h4⟩
  have h9 := manyR_of2 (a := a) (b := b) (rfl : takeR bs s n = takeR bs s n)
  rw [if_neg (fun hh => hh h1), h5, Option.getD_some] at h9
  split at h9
  · rw [h9] at h; exact absurd h (fail_e _ _ (by decide))
  · rw [h9]
theorem be32_beV (w : List UInt8) (h : w.length = 4) : be32 (beV w 0) = w := by
  match w, h with
  | [a, b, c, d], _ =>
    have ha := a.toNat_lt
    have hb := b.toNat_lt
    have hc := c.toNat_lt
    have hd := d.toNat_lt
    simp only [beV, be32, u8]
    have e : ∀ (x : UInt8) (z : Int), z % 256 = (x.toNat : Int) → UInt8.ofNat (z % 256).toNat = x := fun x z hz => by
      apply UInt8.toNat_inj.1
      rw [hz, Int.toNat_natCast, UInt8.toNat_ofNat']
      have := x.toNat_lt
      omega
    rw [e a _ (by omega), e b _ (by omega), e c _ (by omega), e d _ (by omega)]
theorem u8_beV (w : List UInt8) (h : w.length = 1) : [u8 (beV w 0)] = w := by
  match w, h with
  | [a], _ =>
    have ha := a.toNat_lt
    simp only [beV, u8]
    congr 1
    apply UInt8.toNat_inj.1
    rw [UInt8.toNat_ofNat']
    omega
theorem sli_len {bs : List UInt8} {i n : Nat} (h : i + n ≤ bs.length) : (sliR bs i (i + n)).length = n := by
  rw [sliR, List.length_take, List.length_drop]; omega
theorem endR_ok {bs : List UInt8} {r : RS} {p : T} {fr : Nat} (h : (endR bs r p fr).e = 0) : putB p = sliR bs fr r.i ∧ ownT p = true := by
  obtain ⟨h1, h2⟩ := endR_e h
  rcases Classical.em (putB p = (bs.drop fr).take (r.i - fr) ∧ ownT p = true) with hh | hh
  · exact hh
  · exfalso
    unfold endR at h
    rw [if_pos ⟨h1, hh⟩] at h
    unfold RS.fail at h
    rw [if_pos h1] at h
    cases h
theorem limbs_nilY : Limbs [] := fun x hx => by cases hx
theorem one97_wf (o : List UInt8) : kidsT (one97 o) = [] ∧ Limbs (limT (one97 o)) ∧ kindT (one97 o) = 1 := by
  unfold one97
  split
  · exact ⟨rfl, limbs_digs _, rfl⟩
  · exact ⟨rfl, limbs_nilY, rfl⟩
theorem raw98_wf (o : Option (List UInt8)) : kidsT (raw98 o) = [] ∧ Limbs (limT (raw98 o)) ∧ kindT (raw98 o) = 1 := by
  cases o with
  | none => exact ⟨rfl, limbs_nilY, rfl⟩
  | some x => exact ⟨rfl, limbs_digs _, rfl⟩
theorem raw110_wf (o : Option (List UInt8)) : kidsT (raw110 o) = [] ∧ Limbs (limT (raw110 o)) ∧ kindT (raw110 o) = 1 := by
  refine ⟨rfl, ?_, rfl⟩
  show Limbs (bigR (o.getD [])).2.2
  unfold bigR
  split
  · exact limbs_nilY
  · exact limR_limbs _ _ _
theorem plain_is (bs : List UInt8) (s : RS) (tag fr : Nat) (htag : tag = 97 ∨ tag = 98 ∨ tag = 110 ∨ tag = 119 ∨ tag = 109 ∨ tag = 106) : ∃ p r, plainR bs s tag fr = finR bs fr (p, r) ∧ kidsT p = [] ∧ Limbs (limT p) ∧ r.tm = s.tm ∧ s.i ≤ r.i := by
  rcases htag with rfl | rfl | rfl | rfl | rfl | rfl
  · exact ⟨_, _, plainF_97 bs s fr, (one97_wf _).1, (one97_wf _).2.1, takeR_mono.2, takeR_mono.1⟩
  · exact ⟨_, _, plainF_98 bs s fr, (raw98_wf _).1, (raw98_wf _).2.1, takeR_mono.2, takeR_mono.1⟩
  · exact ⟨_, _, plainF_110 bs s fr, (raw110_wf _).1, (raw110_wf _).2.1, takeR_mono.2.trans manyR_mono.2, Nat.le_trans manyR_mono.1 takeR_mono.1⟩
  · exact ⟨_, _, plainF_119 bs s fr, rfl, limbs_nilY, takeR_mono.2.trans manyR_mono.2, Nat.le_trans manyR_mono.1 takeR_mono.1⟩
  · exact ⟨_, _, plainF_109 bs s fr, rfl, limbs_nilY, takeR_mono.2.trans manyR_mono.2, Nat.le_trans manyR_mono.1 takeR_mono.1⟩
  · exact ⟨_, _, plainF_106 bs s fr, rfl, limbs_nilY, rfl, Nat.le_refl _⟩
theorem listT_put : ∀ (xs : List T) (x : T), kindT x ≠ 4 → (putA (listT xs x)).2.1 = putAll xs ++ putB x ∧ (putA (listT xs x)).2.2 = xs.length
  | [], x, h => by
    rw [show listT [] x = x from rfl, putA_no x h]
    exact ⟨by simp [putAll], rfl⟩
  | a :: xs, x, h => by
    obtain ⟨h1, h2⟩ := listT_put xs x h
    simp only [listT, consT, putA, if_true, putP, putQ, putN, h1, h2, List.length_cons]
    refine ⟨?_, trivial⟩
    simp only [putAll, List.flatMap_cons, putB, List.append_assoc]
theorem listT_nod : ∀ (xs : List T) (x : T), nodT (listT xs x) = xs.length + nodK xs + nodT x
  | [], x => by simp [listT, nodK]
  | a :: xs, x => by
    have := listT_nod xs x
    simp only [listT, consT, nodT, nodK, List.length_cons, this]
    omega
theorem listT_okD : ∀ (xs : List T) (x : T) (deep : Int), deep ≤ 60 → (∀ t ∈ xs, okD t (deep + 1)) → okD x deep → okD (listT xs x) deep
  | [], x, deep, _, _, h => h
  | a :: xs, x, deep, hd, h1, h2 => by
    have ih := listT_okD xs x deep hd (fun t ht => h1 t (by simp [ht])) h2
    simp only [listT, consT, okD, okJ, and_true]
    refine ⟨hd, by simp [ownT, zeroB], ?_, ?_⟩
    · simpa using h1 a (by simp)
    · simpa using ih
theorem listT_wf : ∀ (xs : List T) (x : T), (∀ t ∈ xs, wfT t) → wfT x → wfT (listT xs x)
  | [], x, _, h => h
  | a :: xs, x, h1, h2 => by
    have ih := listT_wf xs x (fun t ht => h1 t (by simp [ht])) h2
    simp only [listT, consT, wfT, wfK, and_true]
    exact ⟨limbs_nilY, h1 a (by simp), ih⟩
theorem listT_kind (a : T) (xs : List T) (x : T) : kindT (listT (a :: xs) x) = 4 := rfl
theorem okJ_of : ∀ (ks : List T) (i : Nat) (d : Int), (∀ t ∈ ks, okD t (d + 1)) → okJ 5 ks i d
  | [], _, _, _ => by simp [okJ]
  | a :: r, i, d, h => by
    simp only [okJ]
    exact ⟨by rw [if_neg (by omega)]; exact h a (by simp), okJ_of r (i + 1) d (fun t ht => h t (by simp [ht]))⟩
theorem wfK_of : ∀ (ks : List T), (∀ t ∈ ks, wfT t) → wfK ks
  | [], _ => by simp [wfK]
  | a :: r, h => by simp only [wfK]; exact ⟨h a (by simp), wfK_of r (fun t ht => h t (by simp [ht]))⟩
structure OneR (bs : List UInt8) (deep : Int) (s : RS) (x : T) (s' : RS) : Prop where
  ok : okD x deep
  wf : wfT x
  tm : s'.tm = s.tm + nodT x
  put : putB x = sliR bs s.i s'.i
theorem some_one {bs : List UInt8} {rd : RS → T × RS} {deep : Int} {lo : Nat} (H : ∀ s, InvR bs s → lo ≤ s.i → (rd s).2.e = 0 → OneR bs deep s (rd s).1 (rd s).2) (Hi : ∀ s, InvR bs s → InvR bs (rd s).2 ∧ s.i ≤ (rd s).2.i) : ∀ (n : Nat) (s : RS) (acc : List T), InvR bs s → lo ≤ s.i → (someR rd n s acc).2.e = 0 →
    ∃ xs, (someR rd n s acc).1 = acc ++ xs ∧ xs.length = n ∧ (∀ t ∈ xs, okD t deep ∧ wfT t) ∧ (someR rd n s acc).2.tm = s.tm + nodK xs ∧ putAll xs = sliR bs s.i (someR rd n s acc).2.i
  | 0, s, acc, _, _, _ => ⟨[], by simp [someR], rfl, fun t ht => (by cases ht), by simp [someR, nodK], by simp [someR, sli_self, putAll]⟩
  | n + 1, s, acc, hs, hlo, h => by
    have hi1 := Hi s hs
    simp only [someR] at h ⊢
    by_cases h1 : (rd s).2.e ≠ 0
    · rw [if_pos h1] at h; exact absurd h h1
    · rw [if_neg h1] at h ⊢
      have h1' : (rd s).2.e = 0 := by simpa using h1
      have o := H s hs hlo h1'
      obtain ⟨xs, g1, g2, g3, g4, g5⟩ := some_one H Hi n (rd s).2 (acc ++ [(rd s).1]) hi1.1 (by omega) h
      have hmono := (someR_inv Hi n (rd s).2 (acc ++ [(rd s).1]) hi1.1).2
      refine ⟨(rd s).1 :: xs, by rw [g1, List.append_assoc]; rfl, by rw [List.length_cons, g2], fun t ht => ?_, ?_, ?_⟩
      · rcases List.mem_cons.1 ht with rfl | ht
        · exact ⟨o.ok, o.wf⟩
        · exact g3 t ht
      · rw [g4, o.tm]; simp only [nodK]; omega
      · rw [sli_app bs hi1.2 hmono, ← g5, ← o.put]
        simp only [putAll, List.flatMap_cons]
theorem one_ok (bs : List UInt8) : ∀ (f : Nat) (deep : Int) (s : RS), InvR bs s → bs.length < s.i + f → (termR bs f deep s).2.e = 0 → OneR bs deep s (termR bs f deep s).1 (termR bs f deep s).2
  | 0, deep, s, hs, hf, _ => by have := hs.i; omega
  | f + 1, deep, s, hs, hf, h => by
    have ht1 : (takeR bs s 1).2.e = 0 := by
      rcases Classical.em ((takeR bs s 1).2.e = 0) with hh | hh
      · exact hh
      · exfalso
        simp only [termR] at h
        rw [if_pos hh] at h
        exact hh h
    obtain ⟨_, he, h4, _⟩ := stepR hs ht1
    obtain ⟨c, hc, _⟩ := take1 h4
    have htm := hs.ok he
    rw [termR_step hs ht1 f deep hc] at h ⊢
    have hno : ¬ (s.tm + 1 > 2000 ∨ deep > 60) := fun hh => by
      unfold tagR at h
      dsimp only at h
      rw [if_pos hh] at h
      cases h
    have hs1 : InvR bs ⟨s.i + 1, s.tm + 1, 0⟩ := ⟨h4, hs.len, by dsimp only; omega, by dsimp only; omega, fun _ => by dsimp only; omega⟩
    have hc1 : sliR bs s.i (s.i + 1) = [c] := by rw [sliR, show s.i + 1 - s.i = 1 by omega]; exact hc
    have hcc : ∀ m : Nat, m < 256 → c.toNat = m → c = UInt8.ofNat m := fun m hm h => by
      apply UInt8.toNat_inj.1
      rw [h, UInt8.toNat_ofNat']; omega
    have IH := fun d s hs (hlo : s.i + 1 ≤ s.i) => one_ok bs f d s hs
    have I := fun d s hs => termR_inv bs f d s hs
    have O := fun d (s' : RS) (hs' : InvR bs s') (hlo : s.i + 1 ≤ s'.i) hh => one_ok bs f d s' hs' (by omega) hh
    clear IH
    generalize htag : c.toNat = tag at h hcc ⊢
    unfold tagR at h ⊢
    dsimp only at h ⊢
    rw [if_neg hno] at h ⊢
    by_cases hp : tag = 97 ∨ tag = 98 ∨ tag = 110 ∨ tag = 119 ∨ tag = 109 ∨ tag = 106
    · rw [if_pos hp] at h ⊢
      obtain ⟨p, r, e, k1, k2, k3, k4⟩ := plain_is bs ⟨s.i + 1, s.tm + 1, 0⟩ tag s.i hp
      rw [e] at h ⊢
      obtain ⟨e1, e2⟩ := endR_e h
      obtain ⟨e3, e4⟩ := endR_ok h
      simp only [finR]
      rw [e2]
      obtain ⟨k, b, lg, l, t, m, kg, ks⟩ := p
      have : ks = [] := k1
      subst this
      refine ⟨?_, ?_, ?_, e3⟩
      · simp only [okD, okJ, and_true]; exact ⟨by omega, e4⟩
      · simp only [wfT, wfK, and_true]; exact k2
      · rw [k3]; simp only [nodT, nodK]; omega
    · rw [if_neg hp] at h ⊢
      by_cases h108 : tag = 108
      · rw [if_pos h108] at h ⊢
        obtain ⟨h1, h2⟩ := list_e h
        rw [listR_ok rfl rfl rfl h2]
        dsimp only at h1 h2 ⊢
        have hbm := bumpR_inv hs1 (by dsimp only; omega)
        have hsm := someR_inv (I (deep + 1)) (manyR bs ⟨s.i + 1, s.tm + 1, 0⟩ 4 1 (2001 - (s.tm + 1))).1.toNat _ [] hbm.1
        have hse : (someR (termR bs f (deep + 1)) (manyR bs ⟨s.i + 1, s.tm + 1, 0⟩ 4 1 (2001 - (s.tm + 1))).1.toNat (bumpR (manyR bs ⟨s.i + 1, s.tm + 1, 0⟩ 4 1 (2001 - (s.tm + 1)))) []).2.e = 0 := termR_e h1
        have hme : (manyR bs ⟨s.i + 1, s.tm + 1, 0⟩ 4 1 (2001 - (s.tm + 1))).2.e = 0 := someR_z (fun s h => termR_e h) _ (bumpR (manyR bs ⟨s.i + 1, s.tm + 1, 0⟩ 4 1 (2001 - (s.tm + 1)))) _ hse
        obtain ⟨m1, m2, m3, _, m5, m6⟩ := many_sli hme
        obtain ⟨xs, g1, g2, g3, g4, g5⟩ := some_one (O (deep + 1)) (I (deep + 1)) _ _ [] hbm.1 hbm.2 hse
        have o := O deep _ hsm.1 (Nat.le_trans hbm.2 hsm.2) h1
        have hti := (I deep _ hsm.1).2
        obtain ⟨m, hm⟩ : ∃ m, manyR bs ⟨s.i + 1, s.tm + 1, 0⟩ 4 1 (2001 - (s.tm + 1)) = m := ⟨_, rfl⟩
        dsimp only at m3
        rw [hm] at m1 m2 m5 m6 g1 g2 g4 g5 o h1 h2 hbm hsm hti ⊢
        obtain ⟨hh, hhq⟩ : ∃ hh, someR (termR bs f (deep + 1)) m.1.toNat (bumpR m) [] = hh := ⟨_, rfl⟩
        rw [hhq] at g1 g4 g5 o h1 h2 hsm hti ⊢
        obtain ⟨t, ht⟩ : ∃ t, termR bs f deep hh.2 = t := ⟨_, rfl⟩
        rw [ht] at o h1 h2 hti ⊢
        rw [List.nil_append] at g1
        have hbi : (bumpR m).i = s.i + 1 + 4 := by show m.2.i = _; rw [m2]
        have hbt : (bumpR m).tm = s.tm + 1 + (m.1 - 1) := by show m.2.tm + _ = _; rw [m2]
        rw [g1]
        have hpos : 1 ≤ xs.length := by omega
        refine ⟨listT_okD _ _ _ (by omega) (fun t ht => (g3 t ht).1) o.ok, listT_wf _ _ (fun t ht => (g3 t ht).2) o.wf, ?_, ?_⟩
        · rw [o.tm, g4, hbt, listT_nod]; omega
        · cases xs with
          | nil => simp at hpos
          | cons a xs =>
            obtain ⟨p1, p2⟩ := listT_put (a :: xs) t.1 h2
            rw [putB_list _ (listT_kind a xs _), p1, p2, g5, o.put, hbi]
            have hl4 : (sliR bs (s.i + 1) (s.i + 1 + 4)).length = 4 := sli_len m3
            have hb32 : be32 (((a :: xs).length : Nat) : Int) = sliR bs (s.i + 1) (s.i + 1 + 4) := by
              rw [← be32_beV _ hl4, ← m1]
              congr 1
              omega
            rw [hb32]
            have hh1 : s.i + 1 + 4 ≤ hh.2.i := by rw [← hbi]; exact hsm.2
            rw [sli_app bs (show s.i ≤ s.i + 1 by omega) (show s.i + 1 ≤ t.2.i by omega), hc1, sli_app bs (show s.i + 1 ≤ s.i + 1 + 4 by omega) (show s.i + 1 + 4 ≤ t.2.i by omega), sli_app bs hh1 hti, hcc 108 (by decide) h108]
            rfl
      · rw [if_neg h108] at h ⊢
        by_cases h104 : tag = 104
        · rw [if_pos h104] at h ⊢
          dsimp only at h ⊢
          have hm := hs1.many (k := 1) (a := 0) (b := 40)
          have hmo := (manyR_mono (bs := bs) (s := ⟨s.i + 1, s.tm + 1, 0⟩) (k := 1) (a := 0) (b := 40)).1
          have hsm := someR_inv (I (deep + 1)) (manyR bs ⟨s.i + 1, s.tm + 1, 0⟩ 1 0 40).1.toNat _ [] hm
          have hme : (manyR bs ⟨s.i + 1, s.tm + 1, 0⟩ 1 0 40).2.e = 0 := someR_z (fun s h => termR_e h) _ _ _ h
          obtain ⟨m1, m2, m3, _, m5, m6⟩ := many_sli hme
          obtain ⟨xs, g1, g2, g3, g4, g5⟩ := some_one (O (deep + 1)) (I (deep + 1)) _ _ [] hm hmo h
          obtain ⟨m, hmq⟩ : ∃ m, manyR bs ⟨s.i + 1, s.tm + 1, 0⟩ 1 0 40 = m := ⟨_, rfl⟩
          dsimp only at m3
          rw [hmq] at m1 m2 m5 m6 g1 g2 g4 g5 hsm ⊢
          obtain ⟨hh, hhq⟩ : ∃ hh, someR (termR bs f (deep + 1)) m.1.toNat m.2 [] = hh := ⟨_, rfl⟩
          rw [hhq] at g1 g4 g5 hsm ⊢
          rw [List.nil_append] at g1
          rw [g1]
          have hmi : m.2.i = s.i + 1 + 1 := by rw [m2]
          have hmt : m.2.tm = s.tm + 1 := by rw [m2]
          refine ⟨?_, ?_, ?_, ?_⟩
          · simp only [okD, tupT]
            refine ⟨by omega, ?_, okJ_of _ _ _ (fun t ht => (g3 t ht).1)⟩
            simp [ownT, zeroB]; omega
          · simp only [wfT, tupT]
            exact ⟨limbs_nilY, wfK_of _ (fun t ht => (g3 t ht).2)⟩
          · rw [g4, hmt]; simp only [nodT, tupT]; omega
          · rw [tupT, putB_5, g5, hmi]
            have hl1 : (sliR bs (s.i + 1) (s.i + 1 + 1)).length = 1 := sli_len m3
            have hb1 : [u8 ((xs.length : Nat) : Int)] = sliR bs (s.i + 1) (s.i + 1 + 1) := by
              rw [← u8_beV _ hl1, ← m1]
              congr 2
              omega
            have hh1 : s.i + 1 + 1 ≤ hh.2.i := by rw [← hmi]; exact hsm.2
            rw [sli_app bs (show s.i ≤ s.i + 1 by omega) (show s.i + 1 ≤ hh.2.i by omega), hc1, sli_app bs (show s.i + 1 ≤ s.i + 1 + 1 by omega) hh1, ← hb1, hcc 104 (by decide) h104]
            rfl
        · rw [if_neg h104] at h
          cases h
end Go.Ab

/- ext.Get of any bytes; what is wrong with bytes that are none (CFG5). Conditions: lengths in range. -/
namespace Go.Ab
open Go.Proofs
set_option maxRecDepth 100000
set_option linter.unusedSimpArgs false

theorem get_any (n D : Nat) (hn : 2200 ≤ n) (bs : List UInt8) (g : Grip) (hg : g = .tight ∨ g = .loose ∨ g = .nil) (hl : bs.length ≤ 150000000000000) (hD : 3 * (bs.length + 2) + 6030 ≤ D) (at_ : Int) :
    evalFn Try.prog cfg5 n (D+1) 13 [.tree (.sl (cellsOfBytes bs) bs.length g), .tree (.int .i64 at_)] = some (.tree (outG (getR bs at_)), [[], []]) :=
  get_eq n D hn bs g hg hl hD (fun _ D hD => by
    obtain ⟨E, rfl⟩ : ∃ E, D = E + 1 := ⟨D - 1, by omega⟩
    exact big_eq n E (by omega)) at_
end Go.Ab

/- The statements' copy of bytes (CFG5). Conditions: lengths in range. -/
namespace Go.Ab
open Go.Proofs
set_option maxRecDepth 100000
set_option linter.unusedSimpArgs false
end Go.Ab

/- ExtOne gives true (CFG5). No conditions. -/
namespace Go.Ab
open Go.Proofs
set_option maxRecDepth 100000
set_option linter.unusedSimpArgs false

theorem ldY_cI (t k : Nat) (u : T) : ldE Try.prog 3 ⟨t, .buf (cellsT u)⟩ k 0 = if t = k then some (.int .i64 (kindT u)) else none := by
  obtain ⟨a, b, c, d, e, f, g, h⟩ := u
  simp only [cellsT, kindT]
  exact ldT_0 _ _ _ _ _ _ _ _
end Go.Ab

/- What is put is got; cut it is short: plain mathematics. Conditions: terms that may be; lengths in range. -/
namespace Go.Ab
open Go.Proofs
set_option maxRecDepth 100000

mutual
theorem putA_len : ∀ t : T, goodT t → (putA t).1.length ≤ 500 * nodT t ∧ (putA t).2.1.length ≤ 500 * nodT t
  | .mk k b lg l s n kg ks, hg => by
    have hg0 := hg
    simp only [goodT] at hg
    by_cases h4 : k = 4
    · subst h4
      obtain ⟨x, u, rfl⟩ := good_pair hg0 rfl
      have hb : ∀ v, (be32 v).length = 4 := fun v => rfl
      simp only [goodK, and_true] at hg
      have hx := putA_len x hg.2.2.1
      have hu := putA_len u hg.2.2.2
      simp only [putA, if_true, putP, putQ, List.length_cons, List.length_append, hb, nodT, nodK]
      omega
    · by_cases h5 : k = 5
      · subst h5
        have hk := putK_len ks hg.2.2
        have e : putA (.mk 5 b lg l s n kg ks) = (putB (.mk 5 b lg l s n kg ks), putB (.mk 5 b lg l s n kg ks), 0) := putA_no _ (by simp [kindT])
        rw [e, putB_5, ← putK_all]
        simp only [List.length_cons, nodT]
        omega
      · have e : putA (.mk k b lg l s n kg ks) = (putB (.mk k b lg l s n kg ks), putB (.mk k b lg l s n kg ks), 0) := putA_no _ (by simpa [kindT] using h4)
        rw [e]
        have h1 : (putB (.mk k b lg l s n kg ks)).length ≤ 500 := Leaf.len ⟨own_none hg.2.1 h4 h5, h4, hg.1⟩ hg.2.1
        simp only [nodT]
        omega
theorem putK_len : ∀ ks : List T, goodK ks → (putK ks).length ≤ 500 * nodK ks
  | [], _ => by simp [putK]
  | t :: r, hg => by
    simp only [goodK] at hg
    have h1 := putA_len t hg.1
    have h2 := putK_len r hg.2
    simp only [putK, nodK, List.length_append]
    omega
end
theorem putB_le (t : T) (hg : goodT t) : (putB t).length ≤ 500 * nodT t := (putA_len t hg).1
section
variable (t : T) (hok : okD t 1) (hg : goodT t) (hn : nodT t ≤ 2000)
include hok hg hn
end
end Go.Ab

/- ExtBack gives true (CFG5). Conditions: lengths in range. -/
namespace Go.Ab
open Go.Proofs
set_option maxRecDepth 100000
set_option linter.unusedSimpArgs false

mutual
theorem bigY_wf (R : Nat) : ∀ t : T, bigT R t → wfT t
  | .mk k b lg l s n kg ks, h => by
    simp only [bigT] at h
    simp only [wfT]
    exact ⟨h.1, bigY_wfK R ks h.2.2⟩
theorem bigY_wfK (R : Nat) : ∀ ks : List T, bigK R ks → wfK ks
  | [], _ => by simp only [wfK]
  | t :: r, h => by
    simp only [bigK] at h
    simp only [wfK]
    exact ⟨bigY_wf R t h.1, bigY_wfK R r h.2⟩
end
end Go.Ab

/- Bytes put behind others by the reference: four bytes, a number's (CFG5). Conditions: a number that may be; lengths in range. -/
namespace Go.Ab
open Go.Proofs
set_option maxRecDepth 100000
set_option linter.unusedSimpArgs false

theorem linRput32 : cfg5.lin 52 0 = true := by rw [lin5]; rfl
theorem linRnumber : cfg5.lin 51 0 = true := by rw [lin5]; rfl
theorem linRput : cfg5.lin 30 0 = true := by rw [lin5]; rfl
set_option maxHeartbeats 4000000 in
theorem rput32_eq (n d : Nat) {a : Arg} {bs : List UInt8} (ha : Base a bs) (v : Int) (hl : bs.length + 4 ≤ 1000000000000) :
    evalFn Try.prog cfg5 n (d+1) 52 [a, .tree (.int .i64 v)] = some (.tok (cellsOfBytes (bs ++ be32 v)) (bs ++ be32 v).length 1, [[], []]) := by
  rw [evalFn_go _ Try.func52 (by unfold Try.f52; rfl) (by unfold Try.f52; decide) (Nat.le_of_ble_eq_true (by unfold Try.f52; rfl)) (by kernel_rfl)]
  have hB := ha.start [.tree (.int .i64 v)]
  have e1 : env0 [a, .tree (.int .i64 v)] 1 = .int .i64 v := rfl
  generalize env0 [a, .tree (.int .i64 v)] = env at hB e1
  generalize st0 [a, .tree (.int .i64 v)] = st at hB
  generalize e0 : env 0 = x at hB
  obtain ⟨st', t', c1, c2, c3⟩ := appendB hB (be32 v) .tight rfl hl 18
  have s1 : binA Try.prog .shr 3 (.int .i64 v) (.int .u64 24) = some (.int .i64 (v / 2 ^ 24)) := by rw [← be_shr]; exact i_shrY Try.prog 3 v .u64 24 (by decide)
  have s2 : binA Try.prog .shr 3 (.int .i64 v) (.int .u64 16) = some (.int .i64 (v / 2 ^ 16)) := by rw [← be_shr]; exact i_shrY Try.prog 3 v .u64 16 (by decide)
  have s3 : binA Try.prog .shr 3 (.int .i64 v) (.int .u64 8) = some (.int .i64 (v / 2 ^ 8)) := by rw [← be_shr]; exact i_shrY Try.prog 3 v .u64 8 (by decide)
  have c1 : appendA Try.prog #[22, 22] 18 st x (.sl [.int .u8 ((u8 (v / 2 ^ 24)).toNat : Int), .int .u8 ((u8 (v / 2 ^ 16)).toNat : Int), .int .u8 ((u8 (v / 2 ^ 8)).toNat : Int), .int .u8 ((u8 v).toNat : Int)] 4 .tight) = some (.sl (cellsOfBytes (bs ++ be32 v)) (bs ++ be32 v).length (.tok 18 t'), st') := c1
  simp only [simB, keep5, Nat.reduceBEq, own5, String.reduceAppend, String.reduceBEq, Bool.or_false, Bool.or_true, Bool.or_self, ↓reduceIte, Nat.reduceEqDiff, Nat.reduceAdd, simL, simN, Nat.zero_add, e0, e1, s1, s2, s3, conv3_5b, opA_lit4, lit4_b, c1]
  exact finish_Bs ha [.int .i64 v] _ rfl _ 18 t' _ _ _ (by simp only [zfk, ↓reduceIte, Nat.reduceEqDiff]; try rfl) c2
theorem Bs.rput32 {n d : Nat} {st : St} {p : Nat} {x : AV} {bs : List UInt8} (h : Bs st p x bs) (v : Int) (hl : bs.length + 4 ≤ 1000000000000) (D : Nat) :
    ∃ st' t', callA cfg5 (evalFn Try.prog cfg5 n (d+1)) D st 52 [x, .int .i64 v] = some (.sl (cellsOfBytes (bs ++ be32 v)) (bs ++ be32 v).length (.tok D t'), st') ∧ st' D = ⟨t', .tok 1⟩ ∧ ∀ q, q ≠ D → q ≠ p → st' q = st q :=
  h.call linRput32 [.int .i64 v] rfl (bs ++ be32 v) (fun _ ha => rput32_eq n d ha v hl) D
noncomputable def rn0 : Code := (Try.f51.body).getD .skip
noncomputable def rn1 : Code := seqR rn0
noncomputable def rn2 : Code := seqR rn1
noncomputable def rn3 : Code := seqR rn2
theorem conv3_44 (s : St) (x : Nat) (h : x < 1000) : convA Try.prog 3 44 s (.int .i64 (x : Int)) = some (.int .u64 (x : Int)) := by
  have ht : tkOf Try.prog 44 = .int .u64 := by kernel_rfl
  have w : IntKind.u64.wrap (x : Int) = (x : Int) := by
    simp [IntKind.wrap, IntKind.bits, IntKind.signed]
    omega
  simp only [convA, tk3, ht, w]
set_option maxHeartbeats 16000000 in
theorem rn3_eq (n d : Nat) {a : Arg} {bs : List UInt8} (ha : Base a bs) (b : Bool) (g : Gk) (l : List Nat) (hL : Limbs l) (hc : chkN b l = true) (hl : bs.length + 100 ≤ 1000000000000) (hn : 100 ≤ n) (K : Kont)
    (hK : ∀ env s, K .ret env s = finishP Try.prog true (a :: [encA b g l].map .tree) #[.tmp 4] env s) (env : Env) (st : St) (x : AV) (e0 : env 0 = x) (e3 : env 3 = .rptr [.bool b, encL g l]) (hB : Bs st 0 x bs) :
    den Try.prog cfg5 (evalFn Try.prog cfg5 n (d+2)) n rn3 K env st = some (.tok (cellsOfBytes (bs ++ (110 :: u8 ((blen (numZ b l).natAbs + 7) / 8 : Nat) :: (if b then 1 else 0) :: limBs l ((blen (numZ b l).natAbs + 7) / 8)))) (bs ++ (110 :: u8 ((blen (numZ b l).natAbs + 7) / 8 : Nat) :: (if b then 1 else 0) :: limBs l ((blen (numZ b l).natAbs + 7) / 8))).length 1, [[], []]) := by
  have cb := fun D s => callA_trees (cfg := cfg5) (d := D) (s := s) (f := 82) (vs := [encA b g l]) rfl (ev5 (n := n) (d := d+1) rfl (rbits_eq 9223372036854775808 6187 (by decide) (isN_A b g l hL)))
  simp only [encA] at cb
  have hbl : blen (numZ b l).natAbs ≤ 384 := by
    have h1 := limbs_bits hL
    rw [chkN_abs hc]
    have h2 : l.length ≤ 12 := by
      simp only [chkN, Bool.and_eq_true, decide_eq_true_eq] at hc
      exact hc.1
    omega
  have hbl2 : blen (numZ b l).natAbs ≤ 32 * l.length := by rw [chkN_abs hc]; exact limbs_bits hL
  obtain ⟨w, hw⟩ : ∃ w, blen (numZ b l).natAbs = w := ⟨_, rfl⟩
  rw [hw] at cb hbl hbl2
  rw [hw]
  have f1 := i_add Try.prog 3 (w : Int) 7 (by omega) (by omega)
  have f2 : binA Try.prog .quo 3 (.int .i64 ((w : Int) + 7)) (.int .i64 8) = some (.int .i64 (((w + 7) / 8 : Nat) : Int)) := i_quo Try.prog 3 (w + 7) 8 (by decide) (by omega)
  obtain ⟨k, hk⟩ : ∃ k, (w + 7) / 8 = k := ⟨_, rfl⟩
  rw [hk] at f2
  rw [hk]
  have hk48 : k ≤ 48 := by omega
  have hkl : k ≤ 4 * l.length := by omega
  obtain ⟨st', t', c1, c2, c3⟩ := appendB hB [110, u8 (k : Int), if b then 1 else 0] .tight rfl (by simp only [List.length_cons, List.length_nil]; omega) 56
  have c1 : appendA Try.prog #[22, 22] 56 st x (.sl [.int .u8 110, .int .u8 ((u8 (k : Int)).toNat : Int), .int .u8 (if b then 1 else 0)] 3 .tight) = some (.sl (cellsOfBytes (bs ++ [110, u8 (k : Int), if b then 1 else 0])) (bs ++ [110, u8 (k : Int), if b then 1 else 0]).length (.tok 56 t'), st') := by
    cases b <;> exact c1
  obtain ⟨hd, hhd⟩ : ∃ hd, bs ++ [110, u8 (k : Int), if b then 1 else 0] = hd := ⟨_, rfl⟩
  have hhl : hd.length = bs.length + 3 := by rw [← hhd, List.length_append]; rfl
  have hfin : bs ++ (110 :: u8 (k : Int) :: (if b then 1 else 0) :: limBs l k) = hd ++ limBs l k := by rw [← hhd, List.append_assoc]; rfl
  rw [hfin]
  rw [hhd] at c1
  have nuI : ∀ (i : Nat), i < k → i / 4 < l.length := fun i hi => by omega
  cases b
  all_goals
    simp only [rn3, rn2, rn1, rn0, seqR, Try.f51, Option.getD_some, simB, keep5, Nat.reduceBEq, own5, String.reduceAppend, String.reduceBEq, Bool.or_false, Bool.or_true, Bool.or_self, ↓reduceIte, Nat.reduceEqDiff, Nat.reduceAdd, simA, simL, simN, Nat.zero_add, e0, e3, ldR24, cb, f1, f2, faR24_0, ldRb, conv3_5b, opA_lit3, lit3_b]
    simp only [Bool.false_eq_true, ↓reduceIte] at c1
    simp only [simB, keep5, Nat.reduceBEq, own5, String.reduceAppend, String.reduceBEq, Bool.or_false, Bool.or_true, Bool.or_self, ↓reduceIte, Nat.reduceEqDiff, Nat.reduceAdd, simA, c1, den_loop]
    refine loop_ends (X := Nat) (fun i env s => env 7 = .int .i64 (k : Int) ∧ env 9 = .int .i64 (i : Int) ∧ env 3 = .rptr [.bool _, encL g l] ∧ i ≤ k ∧ ∃ p t, env 0 = .sl (cellsOfBytes (hd ++ limBs l i)) (hd ++ limBs l i).length (.tok p t) ∧ s p = ⟨t, .tok 1⟩) (fun i => k - i) (fun _ => (.tok (cellsOfBytes (hd ++ limBs l k)) (hd ++ limBs l k).length 1, [[], []])) ?_ n 0 _ _ (by omega) ⟨(by simp only [zfk, ↓reduceIte, Nat.reduceEqDiff]; try rfl), (by simp only [zfk, ↓reduceIte, Nat.reduceEqDiff]; try rfl), (by simp only [zfk, ↓reduceIte, Nat.reduceEqDiff, e3]; try rfl), Nat.zero_le _, 56, t', ?_, c2⟩
    rotate_left
    · have h0 : hd ++ limBs l 0 = hd := List.append_nil hd
      rw [h0]
      exact (by simp only [zfk, ↓reduceIte, Nat.reduceEqDiff]; try rfl)
    rintro rd i hrd ih env1 s1 ⟨e57, e58, e3', hik, p, t1, e0', hp1⟩
    have hBi := Bs.tok (bs := hd ++ limBs l i) hp1
    by_cases hlt : i < k
    · have q1 : (i : Int) < (k : Int) := by omega
      have hi4 := nuI i hlt
      have g1 : binA Try.prog .quo 3 (.int .i64 (i : Int)) (.int .i64 4) = some (.int .i64 ((i / 4 : Nat) : Int)) := i_quo Try.prog 3 i 4 (by decide) (by omega)
      have g2 : binA Try.prog .rem 3 (.int .i64 (i : Int)) (.int .i64 4) = some (.int .i64 ((i % 4 : Nat) : Int)) := i_rem Try.prog 3 i 4 (by decide)
      have g3 := y_mul8 (i % 4) (by omega)
      have g3b := fun s => conv3_44 s (8 * (i % 4)) (by omega)
      have g4 := s_shr Try.prog 56 (l.getD (i / 4) 0) .u64 ((8 * (i % 4) : Nat) : Int) (by omega) (by omega)
      rw [Int.toNat_natCast] at g4
      have g5 := fun s => conv31_5b s (l.getD (i / 4) 0 / 2 ^ (8 * (i % 4)))
      have g6 := fun s => ia22 s g l .i64 ((i / 4 : Nat) : Int) (by omega) (by omega)
      simp only [Int.toNat_natCast] at g6
      have g7 := fun s => ld31 s l (i / 4) hi4
      have g8 := i_add Try.prog 3 (i : Int) 1 (by omega) (by omega)
      obtain ⟨s2, t2, d1, d2, d3⟩ := appendB hBi [limB l i] .tight rfl (by simp only [List.length_append, limBs_len, List.length_cons, List.length_nil]; omega) 76
      have d1 : appendA Try.prog #[22, 22] 76 s1 (.sl (cellsOfBytes (hd ++ limBs l i)) (hd ++ limBs l i).length (.tok p t1)) (.sl [.int .u8 ((UInt8.ofNat (l.getD (i / 4) 0 / 2 ^ (8 * (i % 4)) % 256)).toNat : Int)] 1 .tight) = some (.sl (cellsOfBytes (hd ++ limBs l i ++ [limB l i])) (hd ++ limBs l i ++ [limB l i]).length (.tok 76 t2), s2) := d1
      have e4 : hd ++ limBs l i ++ [limB l i] = hd ++ limBs l (i + 1) := by rw [limBs_succ, List.append_assoc]
      rw [e4] at d1
      simp only [simB, keep5, Nat.reduceBEq, own5, String.reduceAppend, String.reduceBEq, Bool.or_false, Bool.or_true, Bool.or_self, ↓reduceIte, Nat.reduceEqDiff, Nat.reduceAdd, simA, simL, simN, Nat.zero_add, y_lss, e57, e58, e3', e0', q1, faR24_1, ldRl, g1, g2, g3, g3b, g4, g5, g6, g7, g8, opA_lit1, lit1_b, d1]
      exact ih (i + 1) _ _ (by omega) rfl ⟨(by simp only [zfk, ↓reduceIte, Nat.reduceEqDiff, e57]; try rfl), (by simp only [zfk, ↓reduceIte, Nat.reduceEqDiff]; try rfl), (by simp only [zfk, ↓reduceIte, Nat.reduceEqDiff, e3']; try rfl), by omega, 76, t2, (by simp only [zfk, ↓reduceIte, Nat.reduceEqDiff]; try rfl), d2⟩
    · have hie : i = k := by omega
      subst hie
      have q1 : ¬ (i : Int) < (i : Int) := by omega
      simp only [simB, keep5, Nat.reduceBEq, own5, String.reduceAppend, String.reduceBEq, Bool.or_false, Bool.or_true, Bool.or_self, ↓reduceIte, Nat.reduceEqDiff, Nat.reduceAdd, simA, simL, simN, Nat.zero_add, y_lss, e57, e58, e0', q1, hK]
      exact finish_Bs ha [_] true rfl 4 p t1 _ _ _ (by simp only [zfk, ↓reduceIte, Nat.reduceEqDiff]; try rfl) hp1
set_option maxHeartbeats 16000000 in
theorem rnum_eq (n d : Nat) {a : Arg} {bs : List UInt8} (ha : Base a bs) (b : Bool) (g : Gk) (l : List Nat) (hL : Limbs l) (hcc : chkN b l = true) (hl : bs.length + 100 ≤ 1000000000000) (hn : 100 ≤ n) :
    evalFn Try.prog cfg5 n (d+3) 51 [a, .tree (encA b g l)] = some (.tok (cellsOfBytes (bs ++ numB b l)) (bs ++ numB b l).length 1, [[], []]) := by
  rw [evalFn_go _ Try.func51 (by unfold Try.f51; rfl) (by unfold Try.f51; decide) (Nat.le_of_ble_eq_true (by unfold Try.f51; rfl)) (by kernel_rfl)]
  have hB := ha.start [.tree (encA b g l)]
  have e1 : env0 [a, .tree (encA b g l)] 1 = .agg [.bool b, encL g l] := rfl
  generalize env0 [a, .tree (encA b g l)] = env at hB e1
  generalize st0 [a, .tree (encA b g l)] = st at hB
  generalize e0 : env 0 = x at hB
  have ci := fun D s => callA_trees (cfg := cfg5) (d := D) (s := s) (f := 81) (vs := [encA b g l]) rfl (ev5 (n := n) (d := d+1) rfl (rint_eq 9223372036854775808 6187 (by decide) (isN_A b g l hL)))
  rw [intZ_Y] at ci
  simp only [encA] at ci
  obtain ⟨z, hz⟩ : ∃ z, numZ b l = z := ⟨_, rfl⟩
  rw [hz] at ci
  have hnB : numB b l = if 0 ≤ z ∧ z ≤ 255 then [97, u8 z] else if -2147483648 ≤ z ∧ z ≤ 2147483647 then 98 :: be32 z else 110 :: u8 ((blen z.natAbs + 7) / 8 : Nat) :: (if b then 1 else 0) :: limBs l ((blen z.natAbs + 7) / 8) := by
    rw [numB, hz]
  by_cases h1 : 0 ≤ z ∧ z ≤ 255
  · have hi : isI64 z = true := by unfold isI64; rw [Bool.and_eq_true, decide_eq_true_eq, decide_eq_true_eq]; omega
    rw [hi] at ci
    rw [hnB, if_pos h1]
    have q1 : z ≥ 0 := h1.1
    have q2 : z ≤ 255 := h1.2
    obtain ⟨st', t', c1, c2, c3⟩ := appendB hB [97, u8 z] .tight rfl (by simp only [List.length_cons, List.length_nil]; omega) 29
    have c1 : appendA Try.prog #[22, 22] 29 st x (.sl [.int .u8 97, .int .u8 ((u8 z).toNat : Int)] 2 .tight) = some (.sl (cellsOfBytes (bs ++ [97, u8 z])) (bs ++ [97, u8 z]).length (.tok 29 t'), st') := c1
    simp only [simB, keep5, Nat.reduceBEq, own5, String.reduceAppend, String.reduceBEq, Bool.or_false, Bool.or_true, Bool.or_self, ↓reduceIte, Nat.reduceEqDiff, Nat.reduceAdd, simA, simL, simN, Nat.zero_add, e0, e1, boxT_agg, ldR24, ci, zdu, y_geq, y_leq, q1, q2, conv3_5b, opA_lit2, lit2_b, c1]
    exact finish_Bs ha [encA b g l] _ rfl _ 29 t' _ _ _ (by simp only [zfk, ↓reduceIte, Nat.reduceEqDiff]; try rfl) c2
  by_cases h2 : -2147483648 ≤ z ∧ z ≤ 2147483647
  · have hi : isI64 z = true := by unfold isI64; rw [Bool.and_eq_true, decide_eq_true_eq, decide_eq_true_eq]; omega
    rw [hi] at ci
    rw [hnB, if_neg h1, if_pos h2]
    have q3 : z ≥ -2147483648 := h2.1
    have q4 : z < 2147483648 := by omega
    obtain ⟨st', t', c1, c2, c3⟩ := appendB hB [98] .tight rfl (by simp only [List.length_cons, List.length_nil]; omega) 42
    have c1 : appendA Try.prog #[22, 22] 42 st x (.sl [.int .u8 98] 1 .tight) = some (.sl (cellsOfBytes (bs ++ [98])) (bs ++ [98]).length (.tok 42 t'), st') := c1
    obtain ⟨st2, t2, d1, d2, d3⟩ := (Bs.tok (bs := bs ++ [98]) c2).rput32 (n := n) (d := d+1) z (by simp only [List.length_append, List.length_cons, List.length_nil]; omega) 44
    have e3 : bs ++ [98] ++ be32 z = bs ++ 98 :: be32 z := by rw [List.append_assoc]; rfl
    rw [e3] at d1
    by_cases q1 : z ≥ 0
    · have q2 : ¬ z ≤ 255 := fun h => h1 ⟨q1, h⟩
      simp only [simB, keep5, Nat.reduceBEq, own5, String.reduceAppend, String.reduceBEq, Bool.or_false, Bool.or_true, Bool.or_self, ↓reduceIte, Nat.reduceEqDiff, Nat.reduceAdd, simA, simL, simN, Nat.zero_add, e0, e1, boxT_agg, ldR24, ci, zdu, y_geq, y_leq, y_lss, q1, q2, q3, q4, conv3_5b, opA_lit1, lit1_b, c1, d1]
      exact finish_Bs ha [encA b g l] _ rfl _ 44 t2 _ _ _ (by simp only [zfk, ↓reduceIte, Nat.reduceEqDiff]; try rfl) d2
    · simp only [simB, keep5, Nat.reduceBEq, own5, String.reduceAppend, String.reduceBEq, Bool.or_false, Bool.or_true, Bool.or_self, ↓reduceIte, Nat.reduceEqDiff, Nat.reduceAdd, simA, simL, simN, Nat.zero_add, e0, e1, boxT_agg, ldR24, ci, zdu, y_geq, y_leq, y_lss, q1, q3, q4, conv3_5b, opA_lit1, lit1_b, c1, d1]
      exact finish_Bs ha [encA b g l] _ rfl _ 44 t2 _ _ _ (by simp only [zfk, ↓reduceIte, Nat.reduceEqDiff]; try rfl) d2
  have hc : rn0 = .seq (seqL rn0) (.seq (seqL rn1) (.seq (seqL rn2) rn3)) := rfl
  rw [hnB, if_neg h1, if_neg h2, ← hz]
  show den _ _ _ _ rn0 _ _ _ = _
  rw [hc]
  by_cases hi : isI64 z = true
  · rw [hi] at ci
    unfold isI64 at hi
    rw [Bool.and_eq_true, decide_eq_true_eq, decide_eq_true_eq] at hi
    by_cases q1 : z ≥ 0
    · have q2 : ¬ z ≤ 255 := by omega
      have q3 : z ≥ -2147483648 := by omega
      have q4 : ¬ z < 2147483648 := by omega
      simp only [seqL, rn2, rn1, rn0, seqR, Try.f51, Option.getD_some, simB, keep5, Nat.reduceBEq, own5, String.reduceAppend, String.reduceBEq, Bool.or_false, Bool.or_true, Bool.or_self, ↓reduceIte, Nat.reduceEqDiff, Nat.reduceAdd, simA, simL, simN, Nat.zero_add, e0, e1, boxT_agg, ldR24, ci, zdu, y_geq, y_leq, y_lss, q1, q2, q3, q4]
      exact rn3_eq n d ha b g l hL hcc hl hn _ (fun _ _ => rfl) _ _ x (by simp only [zfk, ↓reduceIte, Nat.reduceEqDiff, e0]; try rfl) (by simp only [zfk, ↓reduceIte, Nat.reduceEqDiff]; try rfl) hB
    · have q3 : ¬ z ≥ -2147483648 := by omega
      simp only [seqL, rn2, rn1, rn0, seqR, Try.f51, Option.getD_some, simB, keep5, Nat.reduceBEq, own5, String.reduceAppend, String.reduceBEq, Bool.or_false, Bool.or_true, Bool.or_self, ↓reduceIte, Nat.reduceEqDiff, Nat.reduceAdd, simA, simL, simN, Nat.zero_add, e0, e1, boxT_agg, ldR24, ci, zdu, y_geq, y_leq, y_lss, q1, q3]
      exact rn3_eq n d ha b g l hL hcc hl hn _ (fun _ _ => rfl) _ _ x (by simp only [zfk, ↓reduceIte, Nat.reduceEqDiff, e0]; try rfl) (by simp only [zfk, ↓reduceIte, Nat.reduceEqDiff]; try rfl) hB
  · have hi : isI64 z = false := by simpa using hi
    rw [hi] at ci
    simp only [seqL, rn2, rn1, rn0, seqR, Try.f51, Option.getD_some, simB, keep5, Nat.reduceBEq, own5, String.reduceAppend, String.reduceBEq, Bool.or_false, Bool.or_true, Bool.or_self, ↓reduceIte, Nat.reduceEqDiff, Nat.reduceAdd, simA, simL, simN, Nat.zero_add, e0, e1, boxT_agg, ldR24, ci, zdu, y_geq, y_leq, y_lss]
    exact rn3_eq n d ha b g l hL hcc hl hn _ (fun _ _ => rfl) _ _ x (by simp only [zfk, ↓reduceIte, Nat.reduceEqDiff, e0]; try rfl) (by simp only [zfk, ↓reduceIte, Nat.reduceEqDiff]; try rfl) hB
end Go.Ab

/- A term's bytes put behind others by the reference: all but lists (CFG5). Conditions: a term all of whose parts may be; lengths in range. -/
namespace Go.Ab
open Go.Proofs
set_option maxRecDepth 100000
set_option linter.unusedSimpArgs false

def RTerm1 (n D : Nat) (t : T) : Prop := ∀ (a : Arg) (bs : List UInt8), Base a bs → bs.length + (putB t).length + 200 ≤ 1000000000000 →
  evalFn Try.prog cfg5 n D 30 [a, .tree (encT t)] = some (.tok (cellsOfBytes (bs ++ putB t)) (bs ++ putB t).length 1, [[], []])
theorem Bs.rterm {n D : Nat} {t : T} (H : RTerm1 n D t) {st : St} {p : Nat} {x : AV} {bs : List UInt8} (h : Bs st p x bs) (hl : bs.length + (putB t).length + 200 ≤ 1000000000000) (dst : Nat) :
    ∃ st' t', callA cfg5 (evalFn Try.prog cfg5 n D) dst st 30 [x, encT t] = some (.sl (cellsOfBytes (bs ++ putB t)) (bs ++ putB t).length (.tok dst t'), st') ∧ st' dst = ⟨t', .tok 1⟩ ∧ ∀ q, q ≠ dst → q ≠ p → st' q = st q :=
  h.call linRput [encT t] rfl (bs ++ putB t) (fun a ha => H a bs ha hl) dst
theorem tok_rterm {n D : Nat} {t : T} (H : RTerm1 n D t) {p i : Nat} {bs : List UInt8} (hl : bs.length + (putB t).length + 200 ≤ 1000000000000) (dst : Nat) (st : St) (hp : st p = ⟨i, .tok 1⟩) :
    callA cfg5 (evalFn Try.prog cfg5 n D) dst st 30 [.sl (cellsOfBytes bs) bs.length (.tok p i), encT t] = some (.sl (cellsOfBytes (bs ++ putB t)) (bs ++ putB t).length (.tok dst (((upd st p ⟨i, .dead⟩) dst).t + 1)), upd (upd st p ⟨i, .dead⟩) dst ⟨((upd st p ⟨i, .dead⟩) dst).t + 1, .tok 1⟩) :=
  tok_call linRput [encT t] rfl (bs ++ putB t) (H _ bs (.inr rfl) hl) dst st hp
theorem appendBS {st : St} {p t : Nat} {a : List UInt8} (hp : st p = ⟨t, .tok 1⟩) (b : List UInt8) (hl : a.length + b.length ≤ 1000000000000) (D : Nat) :
    appendA Try.prog #[22, 9] D st (.sl (cellsOfBytes a) a.length (.tok p t)) (.str b) = some (.sl (cellsOfBytes (a ++ b)) (a ++ b).length (.tok D (((upd st p ⟨t, .dead⟩) D).t + 1)), upd (upd st p ⟨t, .dead⟩) D ⟨((upd st p ⟨t, .dead⟩) D).t + 1, .tok 1⟩) := by
  have e1 : (#[22, 9] : Array TypeId)[0]? = some 22 := rfl
  have e2 : (#[22, 9] : Array TypeId)[1]? = some 9 := rfl
  have hz : (zeroOf Try.prog 5).map List.length = some 1 := by rw [zeroB8]; rfl
  have hm : ∀ s, moreA Try.prog 5 1 (some 9) s (.str b) = some (cellsOfBytes b, b.length) := fun s => by
    simp only [moreA, Option.map_some, tk9, if_true]
  have hb : baseA 1 st (.sl (cellsOfBytes a) a.length (.tok p t)) = some (cellsOfBytes a, a.length, upd st p ⟨t, .dead⟩) := by
    simp only [baseA, hp, cB_len, Nat.mul_one, and_self, if_true]
  simp only [appendA, e1, e2, Option.map_some, tkB, eszB, Option.bind_some, hm, hb, byB]
  rw [if_pos ⟨by omega, by omega, hz⟩, ← cB_app, List.length_append]
set_option maxHeartbeats 16000000 in
theorem rput_1 (n D : Nat) (hn : 100 ≤ n) (b : Bool) (lg : Gk) (l : List Nat) (s : List UInt8) (m : Int) (kg : Gk) (ks : List T) (hg : goodT (.mk 1 b lg l s m kg ks)) : RTerm1 n (D+4) (.mk 1 b lg l s m kg ks) := by
  intro a bs ha hl
  simp only [goodT] at hg
  have hc := own_num hg.2.1
  have hp : putB (.mk 1 b lg l s m kg ks) = numB b l := rfl
  rw [hp] at hl ⊢
  rw [evalFn_goP _ Try.func30 (by unfold Try.f30; rfl) (by unfold Try.f30; decide) (Nat.le_of_ble_eq_true (by unfold Try.f30; rfl)) (by kernel_rfl)]
  have hB := ha.start [.tree (encT (.mk 1 b lg l s m kg ks))]
  have e1 : env0 [a, .tree (encT (.mk 1 b lg l s m kg ks))] 1 = encT (.mk 1 b lg l s m kg ks) := rfl
  generalize env0 [a, .tree (encT (.mk 1 b lg l s m kg ks))] = env at hB e1
  generalize st0 [a, .tree (encT (.mk 1 b lg l s m kg ks))] = st at hB
  generalize e0 : env 0 = x at hB
  obtain ⟨st', t', c1, c2, c3⟩ := hB.call (f := 51) (call := evalFn Try.prog cfg5 n (D+3)) linRnumber [encA b lg l] rfl (bs ++ numB b l) (fun a ha => rnum_eq n D ha b lg l hg.1 hc (by omega) hn) 16
  simp only [encA] at c1
  simp only [encT, cellsT] at e1
  have b1 : ((1 : Int) == 1) = true := rfl
  simp only [simP, simB, keep5, Nat.reduceBEq, own5, String.reduceAppend, String.reduceBEq, Bool.or_false, Bool.or_true, Bool.or_self, ↓reduceIte, Nat.reduceEqDiff, Nat.reduceAdd, simA, simL, simN, Nat.zero_add, e0, e1, boxT_agg, faRT_0, faRT_1, ldRT_int, ldRT_num, y_eql, b1, c1]
  exact finish_Bs ha [_] _ rfl _ 16 t' _ _ _ (by simp only [zfk, ↓reduceIte, Nat.reduceEqDiff]; try rfl) c2
set_option maxHeartbeats 16000000 in
theorem rput_2 (n D : Nat) (b : Bool) (lg : Gk) (l : List Nat) (s : List UInt8) (m : Int) (kg : Gk) (ks : List T) (hg : goodT (.mk 2 b lg l s m kg ks)) : RTerm1 n (D+4) (.mk 2 b lg l s m kg ks) := by
  intro a bs ha hl
  simp only [goodT] at hg
  have hs := own_str hg.2.1
  rw [putB_2] at hl ⊢
  simp only [List.length_cons] at hl
  rw [evalFn_goP _ Try.func30 (by unfold Try.f30; rfl) (by unfold Try.f30; decide) (Nat.le_of_ble_eq_true (by unfold Try.f30; rfl)) (by kernel_rfl)]
  have hB := ha.start [.tree (encT (.mk 2 b lg l s m kg ks))]
  have e1 : env0 [a, .tree (encT (.mk 2 b lg l s m kg ks))] 1 = encT (.mk 2 b lg l s m kg ks) := rfl
  generalize env0 [a, .tree (encT (.mk 2 b lg l s m kg ks))] = env at hB e1
  generalize st0 [a, .tree (encT (.mk 2 b lg l s m kg ks))] = st at hB
  generalize e0 : env 0 = x at hB
  obtain ⟨st', t', c1, c2, c3⟩ := appendB hB [119, u8 (s.length : Int)] .tight rfl (by simp only [List.length_cons, List.length_nil]; omega) 25
  have c1 : appendA Try.prog #[22, 22] 25 st x (.sl [.int .u8 119, .int .u8 ((u8 (s.length : Int)).toNat : Int)] 2 .tight) = some (.sl (cellsOfBytes (bs ++ [119, u8 (s.length : Int)])) (bs ++ [119, u8 (s.length : Int)]).length (.tok 25 t'), st') := c1
  have e2 : bs ++ [119, u8 (s.length : Int)] ++ s = bs ++ 119 :: u8 (s.length : Int) :: s := by rw [List.append_assoc]; rfl
  have d1 := appendBS (a := bs ++ [119, u8 (s.length : Int)]) c2 s (by simp only [List.length_append, List.length_cons, List.length_nil]; omega) 28
  rw [e2] at d1
  simp only [encT, cellsT] at e1
  have b1 : ((2 : Int) == 1) = false := rfl
  have b2 : ((2 : Int) == 2) = true := rfl
  simp only [simP, simB, keep5, Nat.reduceBEq, own5, String.reduceAppend, String.reduceBEq, Bool.or_false, Bool.or_true, Bool.or_self, ↓reduceIte, Nat.reduceEqDiff, Nat.reduceAdd, simA, simL, simN, Nat.zero_add, zex, List.toList_toArray, len9, ix9, zey, zez, zfa, zfb, zfc, e0, e1, boxT_agg, faRT_0, faRT_2, ldRT_int, ldRT_str, y_eql, b1, b2]
  rw [prune_L (c := .seq (.goto 20) (.seq (.goto 20) (.seq (.goto 21) (.seq (.goto 22) (.seq (.goto 26) (.seq (.goto 26) .skip)))))) (by rfl) (by rfl)]
  simp only [simB, keep5, Nat.reduceBEq, own5, String.reduceAppend, String.reduceBEq, Bool.or_false, Bool.or_true, Bool.or_self, ↓reduceIte, Nat.reduceEqDiff, Nat.reduceAdd, simA, simL, simN, Nat.zero_add, zex, List.toList_toArray, len9, ix9, zey, zez, zfa, zfb, zfc, e0, e1, boxT_agg, faRT_0, faRT_2, ldRT_int, ldRT_str, conv3_5b, opA_lit2, lit2_b, c1, d1, den_gotoY 20 (by decide), den_gotoY 21 (by decide), den_gotoY 22 (by decide), den_gotoY 26 (by decide), gotoY_r, gotoY_s, gotoY_i]
  exact finish_Bs ha [_] _ rfl _ 28 _ _ _ _ (by simp only [zfk, ↓reduceIte, Nat.reduceEqDiff]; try rfl) (by simp only [zfk, ↓reduceIte, Nat.reduceEqDiff]; try rfl)
set_option maxHeartbeats 16000000 in
theorem rput_3 (n D : Nat) (b : Bool) (lg : Gk) (l : List Nat) (s : List UInt8) (m : Int) (kg : Gk) (ks : List T) : RTerm1 n (D+4) (.mk 3 b lg l s m kg ks) := by
  intro a bs ha hl
  rw [putB_3] at hl ⊢
  simp only [List.length_cons, List.length_nil] at hl
  rw [evalFn_goP _ Try.func30 (by unfold Try.f30; rfl) (by unfold Try.f30; decide) (Nat.le_of_ble_eq_true (by unfold Try.f30; rfl)) (by kernel_rfl)]
  have hB := ha.start [.tree (encT (.mk 3 b lg l s m kg ks))]
  have e1 : env0 [a, .tree (encT (.mk 3 b lg l s m kg ks))] 1 = encT (.mk 3 b lg l s m kg ks) := rfl
  generalize env0 [a, .tree (encT (.mk 3 b lg l s m kg ks))] = env at hB e1
  generalize st0 [a, .tree (encT (.mk 3 b lg l s m kg ks))] = st at hB
  generalize e0 : env 0 = x at hB
  obtain ⟨st', t', c1, c2, c3⟩ := appendB hB [106] .tight rfl (by simp only [List.length_cons, List.length_nil]; omega) 33
  have c1 : appendA Try.prog #[22, 22] 33 st x (.sl [.int .u8 106] 1 .tight) = some (.sl (cellsOfBytes (bs ++ [106])) (bs ++ [106]).length (.tok 33 t'), st') := c1
  simp only [encT, cellsT] at e1
  have b1 : ((3 : Int) == 1) = false := rfl
  have b2 : ((3 : Int) == 2) = false := rfl
  have b3 : ((3 : Int) == 3) = true := rfl
  simp only [simP, simB, keep5, Nat.reduceBEq, own5, String.reduceAppend, String.reduceBEq, Bool.or_false, Bool.or_true, Bool.or_self, ↓reduceIte, Nat.reduceEqDiff, Nat.reduceAdd, simA, simL, simN, Nat.zero_add, e0, e1, boxT_agg, faRT_0, ldRT_int, y_eql, b1, b2, b3, opA_lit1, lit1_b, c1]
  exact finish_Bs ha [_] _ rfl _ 33 t' _ _ _ (by simp only [zfk, ↓reduceIte, Nat.reduceEqDiff]; try rfl) c2
set_option maxHeartbeats 16000000 in
theorem rput_6 (n D : Nat) (b : Bool) (lg : Gk) (l : List Nat) (s : List UInt8) (m : Int) (kg : Gk) (ks : List T) (hg : goodT (.mk 6 b lg l s m kg ks)) : RTerm1 n (D+4) (.mk 6 b lg l s m kg ks) := by
  intro a bs ha hl
  simp only [goodT] at hg
  have hs := own_str hg.2.1
  rw [putB_6] at hl ⊢
  simp only [List.length_cons, List.length_append] at hl
  have hb4 : (be32 (s.length : Int)).length = 4 := rfl
  rw [evalFn_goP _ Try.func30 (by unfold Try.f30; rfl) (by unfold Try.f30; decide) (Nat.le_of_ble_eq_true (by unfold Try.f30; rfl)) (by kernel_rfl)]
  have hB := ha.start [.tree (encT (.mk 6 b lg l s m kg ks))]
  have e1 : env0 [a, .tree (encT (.mk 6 b lg l s m kg ks))] 1 = encT (.mk 6 b lg l s m kg ks) := rfl
  generalize env0 [a, .tree (encT (.mk 6 b lg l s m kg ks))] = env at hB e1
  generalize st0 [a, .tree (encT (.mk 6 b lg l s m kg ks))] = st at hB
  generalize e0 : env 0 = x at hB
  obtain ⟨st', t', c1, c2, c3⟩ := appendB hB [109] .tight rfl (by simp only [List.length_cons, List.length_nil]; omega) 38
  have c1 : appendA Try.prog #[22, 22] 38 st x (.sl [.int .u8 109] 1 .tight) = some (.sl (cellsOfBytes (bs ++ [109])) (bs ++ [109]).length (.tok 38 t'), st') := c1
  obtain ⟨st2, t2, d1, d2, d3⟩ := (Bs.tok (bs := bs ++ [109]) c2).rput32 (n := n) (d := D+2) (s.length : Int) (by simp only [List.length_append, List.length_cons, List.length_nil]; omega) 42
  have e2 : bs ++ [109] ++ be32 (s.length : Int) ++ s = bs ++ 109 :: (be32 (s.length : Int) ++ s) := by rw [List.append_assoc, List.append_assoc]; rfl
  have f1 := appendBS (a := bs ++ [109] ++ be32 (s.length : Int)) d2 s (by simp only [List.length_append, List.length_cons, List.length_nil]; omega) 45
  rw [e2] at f1
  simp only [encT, cellsT] at e1
  have b1 : ((6 : Int) == 1) = false := rfl
  have b2 : ((6 : Int) == 2) = false := rfl
  have b3 : ((6 : Int) == 3) = false := rfl
  have b6 : ((6 : Int) == 6) = true := rfl
  simp only [simP, simB, keep5, Nat.reduceBEq, own5, String.reduceAppend, String.reduceBEq, Bool.or_false, Bool.or_true, Bool.or_self, ↓reduceIte, Nat.reduceEqDiff, Nat.reduceAdd, simA, simL, simN, Nat.zero_add, zex, List.toList_toArray, len9, ix9, zey, zez, zfa, zfb, zfc, e0, e1, boxT_agg, faRT_0, faRT_2, ldRT_int, ldRT_str, y_eql, b1, b2, b3, b6]
  rw [prune_L (c := .seq (.goto 39) (.seq (.goto 39) (.seq (.goto 40) (.seq (.goto 43) (.seq (.goto 43) .skip))))) (by rfl) (by rfl)]
  simp only [simB, keep5, Nat.reduceBEq, own5, String.reduceAppend, String.reduceBEq, Bool.or_false, Bool.or_true, Bool.or_self, ↓reduceIte, Nat.reduceEqDiff, Nat.reduceAdd, simA, simL, simN, Nat.zero_add, zex, List.toList_toArray, len9, ix9, zey, zez, zfa, zfb, zfc, e0, e1, boxT_agg, faRT_0, faRT_2, ldRT_int, ldRT_str, conv3_5b, opA_lit1, lit1_b, c1, d1, f1, den_gotoY 39 (by decide), den_gotoY 40 (by decide), den_gotoY 43 (by decide), gotoY_r, gotoY_s, gotoY_i]
  exact finish_Bs ha [_] _ rfl _ 45 _ _ _ _ (by simp only [zfk, ↓reduceIte, Nat.reduceEqDiff]; try rfl) (by simp only [zfk, ↓reduceIte, Nat.reduceEqDiff]; try rfl)
set_option maxHeartbeats 16000000 in
theorem rput_5 (n D : Nat) (b : Bool) (lg : Gk) (l : List Nat) (s : List UInt8) (m : Int) (kg : Gk) (ks : List T) (hg : goodT (.mk 5 b lg l s m kg ks)) (hn : ks.length < n) (H : ∀ t ∈ ks, RTerm1 n (D+3) t) : RTerm1 n (D+4) (.mk 5 b lg l s m kg ks) := by
  intro a bs ha hl
  have hk40 : ks.length ≤ 1000000 := by
    simp only [goodT, ownT, Bool.and_eq_true] at hg
    have := hg.2.1.2.1.2
    simp at this
    omega
  rw [putB_5] at hl ⊢
  simp only [List.length_cons] at hl
  rw [evalFn_goP _ Try.func30 (by unfold Try.f30; rfl) (by unfold Try.f30; decide) (Nat.le_of_ble_eq_true (by unfold Try.f30; rfl)) (by kernel_rfl)]
  have hB := ha.start [.tree (encT (.mk 5 b lg l s m kg ks))]
  have e1 : env0 [a, .tree (encT (.mk 5 b lg l s m kg ks))] 1 = encT (.mk 5 b lg l s m kg ks) := rfl
  generalize env0 [a, .tree (encT (.mk 5 b lg l s m kg ks))] = env at hB e1
  generalize st0 [a, .tree (encT (.mk 5 b lg l s m kg ks))] = st at hB
  generalize e0 : env 0 = x at hB
  obtain ⟨st', t', c1, c2, c3⟩ := appendB hB [104, u8 (ks.length : Int)] .tight rfl (by simp only [List.length_cons, List.length_nil]; omega) 54
  have c1 : appendA Try.prog #[22, 22] 54 st x (.sl [.int .u8 104, .int .u8 ((u8 (ks.length : Int)).toNat : Int)] 2 .tight) = some (.sl (cellsOfBytes (bs ++ [104, u8 (ks.length : Int)])) (bs ++ [104, u8 (ks.length : Int)]).length (.tok 54 t'), st') := c1
  obtain ⟨hd, hhd⟩ : ∃ hd, bs ++ [104, u8 (ks.length : Int)] = hd := ⟨_, rfl⟩
  have hhl : hd.length = bs.length + 2 := by rw [← hhd, List.length_append]; rfl
  have hfin : bs ++ (104 :: u8 (ks.length : Int) :: putAll ks) = hd ++ putAll ks := by rw [← hhd, List.append_assoc]; rfl
  rw [hfin]
  rw [hhd] at c1
  simp only [encT, cellsT] at e1
  have b1 : ((5 : Int) == 1) = false := rfl
  have b2 : ((5 : Int) == 2) = false := rfl
  have b3 : ((5 : Int) == 3) = false := rfl
  have b6 : ((5 : Int) == 6) = false := rfl
  have b5 : ((5 : Int) == 5) = true := rfl
  simp only [simP, simB, keep5, Nat.reduceBEq, own5, String.reduceAppend, String.reduceBEq, Bool.or_false, Bool.or_true, Bool.or_self, ↓reduceIte, Nat.reduceEqDiff, Nat.reduceAdd, simA, simL, simN, Nat.zero_add, e0, e1, boxT_agg, faRT_0, faRT_4, ldRT_int, ldRT_k, y_eql, b1, b2, b3, b5, b6, lenTk, conv3_5b, opA_lit2, lit2_b, c1, den_loop]
  refine loop_ends (X := Nat) (fun i env sg => env 3 = .rptr [.int .i64 5, .bool b, encL lg l, .str s, .int .i64 m, .sl (cellsK ks) ks.length (gr kg)] ∧ env 5 = .int .i64 (i : Int) ∧ i ≤ ks.length ∧ ∃ p t, env 0 = .sl (cellsOfBytes (hd ++ putAll (ks.take i))) (hd ++ putAll (ks.take i)).length (.tok p t) ∧ sg p = ⟨t, .tok 1⟩) (fun i => ks.length - i) (fun _ => (.tok (cellsOfBytes (hd ++ putAll ks)) (hd ++ putAll ks).length 1, [[], []])) ?_ n 0 _ _ (by omega) ⟨(by simp only [zfk, ↓reduceIte, Nat.reduceEqDiff]; try rfl), (by simp only [zfk, ↓reduceIte, Nat.reduceEqDiff]; try rfl), Nat.zero_le _, 54, t', ?_, c2⟩
  rotate_left
  · have h0 : hd ++ putAll (ks.take 0) = hd := List.append_nil hd
    rw [h0]
    exact (by simp only [zfk, ↓reduceIte, Nat.reduceEqDiff]; try rfl)
  rintro rd i hrd ih env1 s1 ⟨e3, e5, hik, p, t1, e0', hp1⟩
  cases hdr : ks.drop i with
  | nil =>
    have hie : i = ks.length := by have := congrArg List.length hdr; simp only [List.length_drop, List.length_nil] at this; omega
    subst hie
    rw [List.take_length] at e0'
    have q1 : ¬ (ks.length : Int) < (ks.length : Int) := by omega
    simp only [simB, keep5, Nat.reduceBEq, own5, String.reduceAppend, String.reduceBEq, Bool.or_false, Bool.or_true, Bool.or_self, ↓reduceIte, Nat.reduceEqDiff, Nat.reduceAdd, simA, simL, simN, Nat.zero_add, y_lss, e3, e5, faRT_4, ldRT_k, lenTk, e0', q1]
    exact finish_Bs ha [_] _ rfl _ p t1 _ _ _ (by simp only [zfk, ↓reduceIte, Nat.reduceEqDiff]; try rfl) hp1
  | cons u r =>
    have hlt : i < ks.length := by have := congrArg List.length hdr; simp only [List.length_drop, List.length_cons] at this; omega
    have q1 : (i : Int) < (ks.length : Int) := by omega
    have hmem : u ∈ ks := List.mem_of_mem_drop (i := i) (by rw [hdr]; exact List.mem_cons_self ..)
    have ia := fun st => ia_K st ks (gr kg) i hlt
    rw [hdr] at ia
    have ld := fun st => ld_K st u r
    simp only [encT] at ld
    have hlu := putAll_len hmem
    have hlt2 := putAll_take ks i
    have htake : putAll (ks.take (i + 1)) = putAll (ks.take i) ++ putB u := by
      have hx : ks[i]? = some u := by rw [← Nat.add_zero i, ← List.getElem?_drop, hdr]; rfl
      rw [List.take_add_one, hx, putAll_app]
      exact congrArg _ (putAll_one u)
    have hsum : (putAll (ks.take (i + 1))).length ≤ (putAll ks).length := putAll_take ks (i + 1)
    rw [htake, List.length_append] at hsum
    have d1 := fun st hp => tok_rterm (H u hmem) (p := p) (i := t1) (bs := hd ++ putAll (ks.take i)) (by rw [List.length_append]; omega) 68 st hp
    rw [List.append_assoc, ← htake] at d1
    simp only [encT] at d1
    have g8 := i_add Try.prog 3 (i : Int) 1 (by omega) (by omega)
    simp only [simB, keep5, Nat.reduceBEq, own5, String.reduceAppend, String.reduceBEq, Bool.or_false, Bool.or_true, Bool.or_self, ↓reduceIte, Nat.reduceEqDiff, Nat.reduceAdd, simA, simL, simN, Nat.zero_add, y_lss, e3, e5, faRT_4, ldRT_k, lenTk, e0', q1, ia, ld, hp1, d1, g8]
    exact ih (i + 1) _ _ (by omega) rfl ⟨(by simp only [zfk, ↓reduceIte, Nat.reduceEqDiff, e3]; try rfl), (by simp only [zfk, ↓reduceIte, Nat.reduceEqDiff]; try rfl), by omega, 68, _, (by simp only [zfk, ↓reduceIte, Nat.reduceEqDiff]; try rfl), (by simp only [zfk, ↓reduceIte, Nat.reduceEqDiff]; try rfl)⟩
end Go.Ab

/- Lists put behind bytes by the reference; every term that may be; its Put (CFG5). Conditions: a term all of whose parts may be; lengths in range. -/
namespace Go.Ab
open Go.Proofs
set_option maxRecDepth 100000
set_option linter.unusedSimpArgs false

noncomputable def rp0 : Code := (Try.f30.body).getD .skip
noncomputable def rp1 : Code := seqR rp0
noncomputable def rp2 : Code := seqR rp1
noncomputable def rp3 : Code := seqR rp2
noncomputable def rp4 : Code := seqR rp3
set_option maxHeartbeats 4000000 in
theorem rp4_eq (n D : Nat) {a : Arg} {bs : List UInt8} (ha : Base a bs) (v : AV) (t : T) (us : List T) (tl : T) (hg : goodT t) (hus : (spineT (nodT t) t).1 = us) (htl : (spineT (nodT t) t).2 = tl) (hnt : nodT t < n) (H : ∀ t ∈ us, RTerm1 n (D+3) t) (Ht : RTerm1 n (D+3) tl) (hl : bs.length + 5 + (putAll us).length + (putB tl).length + 200 ≤ 1000000000000) (K : Kont)
    (hK : ∀ env s, K .ret env s = finishP Try.prog true (a :: [v].map .tree) #[.tmp 4] env s) (env : Env) (st : St) (x : AV) (e0 : env 0 = x) (e3 : env 3 = .rptr (cellsT t)) (e6 : env 6 = .int .i64 (us.length : Int)) (hB : Bs st 0 x bs) :
    den Try.prog cfg5 (evalFn Try.prog cfg5 n (D+3)) n rp4 K env st = some (.tok (cellsOfBytes (bs ++ 108 :: (be32 us.length ++ (putAll us ++ putB tl)))) (bs ++ 108 :: (be32 us.length ++ (putAll us ++ putB tl))).length 1, [[], []]) := by
  obtain ⟨st', t', c1, c2, c3⟩ := appendB hB [108] .tight rfl (by simp only [List.length_cons, List.length_nil]; omega) 83
  have c1 : appendA Try.prog #[22, 22] 83 st x (.sl [.int .u8 108] 1 .tight) = some (.sl (cellsOfBytes (bs ++ [108])) (bs ++ [108]).length (.tok 83 t'), st') := c1
  obtain ⟨st2, t2, d1, d2, d3⟩ := (Bs.tok (bs := bs ++ [108]) c2).rput32 (n := n) (d := D+2) (us.length : Int) (by simp only [List.length_append, List.length_cons, List.length_nil]; omega) 85
  obtain ⟨hd, hhd⟩ : ∃ hd, bs ++ [108] ++ be32 (us.length : Int) = hd := ⟨_, rfl⟩
  have hb4 : (be32 (us.length : Int)).length = 4 := rfl
  have hhl : hd.length = bs.length + 5 := by rw [← hhd, List.length_append, List.length_append, hb4]; rfl
  have hfin : bs ++ (108 :: (be32 (us.length : Int) ++ (putAll us ++ putB tl))) = hd ++ putAll us ++ putB tl := by rw [← hhd]; simp only [List.append_assoc]; rfl
  rw [hfin]
  rw [hhd] at d1
  have lr : ∀ s, loadA Try.prog 28 s (.rptr (cellsT t)) = some (.agg (cellsT t)) := fun s => by
    obtain ⟨k, b1, lg, l, s1, m, kg, ks⟩ := t
    exact ldRT _ _ _ _ _ _ _
  have stt := fun s p k => st_Tt s p k t
  have s6t := fun t' k p st => stT_6 t' k p st (.int .i64 0) (.bool false) (.sl [] 0 .nil) (.str []) (.int .i64 0) (.sl [] 0 .nil) t
  simp only [rp4, rp3, rp2, rp1, rp0, seqR, Try.f30, Option.getD_some, simB, keep5, Nat.reduceBEq, own5, String.reduceAppend, String.reduceBEq, Bool.or_false, Bool.or_true, Bool.or_self, ↓reduceIte, Nat.reduceEqDiff, Nat.reduceAdd, simA, simL, simN, Nat.zero_add, e0, e3, e6, lr, zeroT, stt, s6t, opA_lit1, lit1_b, c1, d1, den_loop]
  refine loop_ends (X := Nat × T × List T) (fun q env s => s 8 = ⟨(st2 8).t + 1, .buf (cellsT q.2.1)⟩ ∧ env 8 = .ptr 8 ((st2 8).t + 1) 0 ∧ q.2.2 ++ (spineT q.1 q.2.1).1 = us ∧ (spineT q.1 q.2.1).2 = tl ∧ goodT q.2.1 ∧ nodT q.2.1 ≤ q.1 ∧ ∃ p tp, p ≠ 8 ∧ env 0 = .sl (cellsOfBytes (hd ++ putAll q.2.2)) (hd ++ putAll q.2.2).length (.tok p tp) ∧ s p = ⟨tp, .tok 1⟩) (fun q => q.1) (fun _ => (.tok (cellsOfBytes (hd ++ putAll us ++ putB tl)) (hd ++ putAll us ++ putB tl).length 1, [[], []])) ?_ n (nodT t, t, []) _ _ (by dsimp only; omega) ⟨(by simp only [zfk, ↓reduceIte, Nat.reduceEqDiff]; try rfl), (by simp only [zfk, ↓reduceIte, Nat.reduceEqDiff]; try rfl), hus, htl, hg, Nat.le_refl _, 85, t2, by decide, ?_, (by simp only [zfk, ↓reduceIte, Nat.reduceEqDiff, d2]; try rfl)⟩
  rotate_left
  · have h0 : hd ++ putAll [] = hd := List.append_nil hd
    dsimp only
    rw [h0]
    exact (by simp only [zfk, ↓reduceIte, Nat.reduceEqDiff]; try rfl)
  rintro rd ⟨f, u, acc⟩ hrd ih env1 s1 ⟨k8, e8, hac, htl', hgu, hnu, p, tp, hp8, e0', hp1⟩
  dsimp only at k8 hac htl' hgu hnu e0'
  obtain ⟨k, b, lg, l, s, m, kg, ks⟩ := u
  simp only [cellsT] at k8
  by_cases hk4 : k = 4
  · subst hk4
    obtain ⟨h, w, rfl⟩ := good_pair hgu rfl
    have hnw : nodT (.mk 4 b lg l s m kg [h, w]) = nodT h + (nodT w + 0) + 1 := rfl
    rw [hnw] at hnu
    obtain ⟨f, rfl⟩ : ∃ f', f = f' + 1 := ⟨f - 1, by omega⟩
    rw [spine_cons] at hac htl'
    dsimp only at hac htl'
    simp only [goodT, goodK, and_true] at hgu
    have b1 : ((4 : Int) == 4) = true := rfl
    have ia0 : ∀ st, indexAddrA Try.prog 26 st (.sl (cellsK [h, w]) [h, w].length (gr kg)) (.int .i64 0) = some (.rptr (cellsK [h, w])) := fun st => ia_K st [h, w] (gr kg) 0 (by simp)
    have ia1 : ∀ st, indexAddrA Try.prog 26 st (.sl (cellsK [h, w]) [h, w].length (gr kg)) (.int .i64 1) = some (.rptr (cellsK [w])) := fun st => ia_K st [h, w] (gr kg) 1 (by simp)
    have l0 := fun st => ld_K st h [w]
    have l1 := fun st => ld_K st w []
    simp only [encT] at l0 l1
    have hmem : h ∈ us := by rw [← hac]; simp
    have hsum : (putAll acc).length + (putB h).length ≤ (putAll us).length := by
      rw [← hac, putAll_app]
      simp only [putAll, List.flatMap_cons, List.length_append]; omega
    have f1 := fun st hp => tok_rterm (H h hmem) (p := p) (i := tp) (bs := hd ++ putAll acc) (by rw [List.length_append]; omega) 99 st hp
    have hpe : hd ++ putAll acc ++ putB h = hd ++ putAll (acc ++ [h]) := by rw [putAll_app, putAll_one, List.append_assoc]
    rw [hpe] at f1
    simp only [encT] at f1
    have h8p : ¬ 8 = p := fun h => hp8 h.symm
    simp only [simB, keep5, Nat.reduceBEq, own5, String.reduceAppend, String.reduceBEq, Bool.or_false, Bool.or_true, Bool.or_self, ↓reduceIte, Nat.reduceEqDiff, Nat.reduceAdd, simA, simL, simN, Nat.zero_add, e0', e8, k8, faT_0, faT_4, ldT_0, ldT_4, Nat.reduceAdd, y_eql, b1, ia0, ia1, l0, l1, hp1, f1, h8p, st_Tt, stT_6]
    refine ih (f, w, acc ++ [h]) _ _ (by dsimp only; omega) rfl ⟨(by simp only [zfk, ↓reduceIte, Nat.reduceEqDiff, k8]; try rfl), (by simp only [zfk, ↓reduceIte, Nat.reduceEqDiff, e8]; try rfl), by dsimp only; rw [List.append_assoc]; exact hac, htl', hgu.2.2.2, by dsimp only; omega, 99, _, by decide, (by simp only [zfk, ↓reduceIte, Nat.reduceEqDiff]; try rfl), (by simp only [zfk, ↓reduceIte, Nat.reduceEqDiff]; try rfl)⟩
  · have hkk : kindT (.mk k b lg l s m kg ks) ≠ 4 := by simpa [kindT] using hk4
    rw [spine_no _ _ hkk, List.append_nil] at hac
    rw [spine_no _ _ hkk] at htl'
    dsimp only at htl'
    subst hac
    have b1 : (k == 4) = false := beq_eq_false_iff_ne.mpr hk4
    have f1 := tok_rterm Ht (p := p) (i := tp) (bs := hd ++ putAll acc) (by rw [List.length_append]; omega) 102 s1 hp1
    rw [← htl'] at f1
    rw [← htl']
    simp only [encT, cellsT] at f1
    simp only [simB, keep5, Nat.reduceBEq, own5, String.reduceAppend, String.reduceBEq, Bool.or_false, Bool.or_true, Bool.or_self, ↓reduceIte, Nat.reduceEqDiff, Nat.reduceAdd, simA, simL, simN, Nat.zero_add, e0', e8, k8, faT_0, ldT_0, ldT_a, Nat.reduceAdd, y_eql, b1, f1, hK]
    exact finish_Bs ha [v] true rfl 4 102 _ _ _ _ (by simp only [zfk, ↓reduceIte, Nat.reduceEqDiff]; try rfl) (by simp only [zfk, ↓reduceIte, Nat.reduceEqDiff]; try rfl)
theorem ldY_4 (t k : Nat) (k' : Int) (b : Bool) (lg : Gk) (l : List Nat) (s : List UInt8) (m : Int) (kg : Gk) (ks : List T) : ldE Try.prog 26 ⟨t, .buf (cellsT (.mk k' b lg l s m kg ks))⟩ k 5 = if t = k then some (.sl (cellsK ks) ks.length (gr kg)) else none := ldT_4 _ _ _ _ _ _ _ _
set_option maxHeartbeats 4000000 in
theorem rput_4 (n D : Nat) (t : T) (hg : goodT t) (hk : kindT t = 4) (hn : nodT t < n) (hnl : nodT t ≤ 1000000) (H : ∀ u, goodT u → nodT u < nodT t → RTerm1 n (D+3) u) : RTerm1 n (D+4) t := by
  intro a bs ha hl
  obtain ⟨h1, h2, h3, h4, h5, h6⟩ := spine_ok (nodT t) t hg (Nat.le_refl _)
  obtain ⟨us, hus⟩ : ∃ us, (spineT (nodT t) t).1 = us := ⟨_, rfl⟩
  obtain ⟨tl, htl⟩ : ∃ tl, (spineT (nodT t) t).2 = tl := ⟨_, rfl⟩
  rw [hus] at h3 h4 h5 h6
  rw [htl] at h1 h2 h4 h5
  have hpos : 0 < us.length := by
    obtain ⟨k, b, lg, l, s, m, kg, ks⟩ := t
    simp only [kindT] at hk
    subst hk
    obtain ⟨x, u, rfl⟩ := good_pair hg rfl
    rw [show nodT (T.mk 4 b lg l s m kg [x, u]) = nodK [x, u] + 1 from rfl, spine_cons] at hus
    rw [← hus]; exact Nat.succ_pos _
  have hnus := nodK_len us
  rw [putB_list t hk, h5, h6] at hl ⊢
  simp only [List.length_cons, List.length_append] at hl
  have hb4 : (be32 (us.length : Int)).length = 4 := rfl
  rw [evalFn_goP _ Try.func30 (by unfold Try.f30; rfl) (by unfold Try.f30; decide) (Nat.le_of_ble_eq_true (by unfold Try.f30; rfl)) (by kernel_rfl)]
  have hB := ha.start [.tree (encT t)]
  have e1 : env0 [a, .tree (encT t)] 1 = .agg (cellsT t) := rfl
  have j7 : (st0 [a, .tree (encT t)] 7).t = 0 := rfl
  generalize env0 [a, .tree (encT t)] = env at hB e1
  generalize st0 [a, .tree (encT t)] = st at hB j7
  generalize e0 : env 0 = x at hB
  have hc : prune cfg5.keep rp0 = .seq (seqL rp0) (.seq (prune cfg5.keep (seqL rp1)) (.seq (seqL rp2) (.seq (seqL rp3) rp4))) := by kernel_rfl
  show den _ _ _ _ (prune cfg5.keep rp0) _ _ _ = _
  rw [hc]
  have fin := rp4_eq n D ha (encT t) t us tl hg hus htl (by omega) (fun w hw => H w (goodK_memY h3 hw) (by have := nodK_memY hw; omega)) (H tl h2 (by omega)) (by omega)
  have lr : ∀ s, loadA Try.prog 28 s (.rptr (cellsT t)) = some (.agg (cellsT t)) := fun s => by
    obtain ⟨k, b1, lg, l, s1, m, kg, ks⟩ := t
    exact ldRT _ _ _ _ _ _ _
  have fk : ∀ s, fieldAddrA Try.prog 28 s (.rptr (cellsT t)) 0 = some (.rptr (cellsT t)) := fun s => by
    obtain ⟨k, b1, lg, l, s1, m, kg, ks⟩ := t
    exact faRT_0 _ _ _ _ _ _ _
  have lk : ∀ s, loadA Try.prog 3 s (.rptr (cellsT t)) = some (.int .i64 4) := fun s => by
    obtain ⟨k, b1, lg, l, s1, m, kg, ks⟩ := t
    simp only [kindT] at hk
    subst hk
    exact ldRT_int _ _ _
  have stt := fun s p k => st_Tt s p k t
  have s6t := fun t' k p st => stT_6 t' k p st (.int .i64 0) (.bool false) (.sl [] 0 .nil) (.str []) (.int .i64 0) (.sl [] 0 .nil) t
  have b1 : ((4 : Int) == 1) = false := rfl
  have b2 : ((4 : Int) == 2) = false := rfl
  have b3 : ((4 : Int) == 3) = false := rfl
  have b6 : ((4 : Int) == 6) = false := rfl
  have b5 : ((4 : Int) == 5) = false := rfl
  simp only [seqL, rp3, rp2, rp1, rp0, seqR, Try.f30, Option.getD_some, simP, simB, keep5, Nat.reduceBEq, own5, String.reduceAppend, String.reduceBEq, Bool.or_false, Bool.or_true, Bool.or_self, ↓reduceIte, Nat.reduceEqDiff, Nat.reduceAdd, simA, simL, simN, Nat.zero_add, e0, e1, j7, boxT_agg, fk, lk, y_eql, b1, b2, b3, b5, b6, lr, zeroT, stt, s6t, den_loop]
  refine loop_ends (X := Nat × T × Nat) (fun q env s => env 0 = x ∧ env 3 = .rptr (cellsT t) ∧ env 6 = .int .i64 (q.2.2 : Int) ∧ s 0 = st 0 ∧ q.2.2 + (spineT q.1 q.2.1).1.length = us.length ∧ goodT q.2.1 ∧ nodT q.2.1 ≤ q.1 ∧ q.2.2 ≤ 1000000 ∧ ∃ t7, env 7 = .ptr 7 t7 0 ∧ s 7 = ⟨t7, .buf (cellsT q.2.1)⟩) (fun q => q.1) (fun _ => (.tok (cellsOfBytes (bs ++ 108 :: (be32 us.length ++ (putAll us ++ putB tl)))) (bs ++ 108 :: (be32 us.length ++ (putAll us ++ putB tl))).length 1, [[], []])) ?_ n (nodT t, t, 0) _ _ (by dsimp only; omega) ⟨(by simp only [zfk, ↓reduceIte, Nat.reduceEqDiff, e0]; try rfl), (by simp only [zfk, ↓reduceIte, Nat.reduceEqDiff]; try rfl), (by simp only [zfk, ↓reduceIte, Nat.reduceEqDiff]; try rfl), (by simp only [zfk, ↓reduceIte, Nat.reduceEqDiff]; try rfl), by dsimp only; rw [hus]; omega, hg, Nat.le_refl _, Nat.zero_le _, 1, (by simp only [zfk, ↓reduceIte, Nat.reduceEqDiff]; try rfl), (by simp only [zfk, ↓reduceIte, Nat.reduceEqDiff]; try rfl)⟩
  rintro rd ⟨f, u, c⟩ hrd ih env1 s1 ⟨e0', e3', e6', k0, hcn, hgu, hnu, hcl, t7, e7', k7⟩
  dsimp only at k7 hcn hgu hnu e6' hcl
  obtain ⟨k, b, lg, l, s, m, kg, ks⟩ := u
  have lc := fun t' k' => ldY_cI t' k' (.mk k b lg l s m kg ks)
  simp only [kindT] at lc
  by_cases hk4 : k = 4
  · subst hk4
    obtain ⟨h, w, rfl⟩ := good_pair hgu rfl
    have hnw : nodT (.mk 4 b lg l s m kg [h, w]) = nodT h + (nodT w + 0) + 1 := rfl
    rw [hnw] at hnu
    obtain ⟨f, rfl⟩ : ∃ f', f = f' + 1 := ⟨f - 1, by omega⟩
    rw [spine_cons] at hcn
    dsimp only at hcn
    simp only [List.length_cons] at hcn
    simp only [goodT, goodK, and_true] at hgu
    have q4 : ((4 : Int) == 4) = true := rfl
    have ia1 : ∀ st, indexAddrA Try.prog 26 st (.sl (cellsK [h, w]) [h, w].length (gr kg)) (.int .i64 1) = some (.rptr (cellsK [w])) := fun st => ia_K st [h, w] (gr kg) 1 (by simp)
    have l1 := fun st => ld_K st w []
    simp only [encT] at l1
    have g8 := i_add Try.prog 3 (c : Int) 1 (by omega) (by omega)
    have su := fun s' p k => st_Tt s' p k (.mk 4 b lg l s m kg [h, w])
    have s6u := fun t' k p st => stT_6 t' k p st (.int .i64 0) (.bool false) (.sl [] 0 .nil) (.str []) (.int .i64 0) (.sl [] 0 .nil) (.mk 4 b lg l s m kg [h, w])
    have sw := fun s' p k => st_Tt s' p k w
    have s6w := fun t' k p st => stT_u t' k p st (.mk 4 b lg l s m kg [h, w]) w
    have lu := fun t' k => ldT_u t' k (.mk 4 b lg l s m kg [h, w])
    have l4 := fun t' k => ldY_4 t' k 4 b lg l s m kg [h, w]
    simp only [simB, keep5, Nat.reduceBEq, own5, String.reduceAppend, String.reduceBEq, Bool.or_false, Bool.or_true, Bool.or_self, ↓reduceIte, Nat.reduceEqDiff, Nat.reduceAdd, simA, simL, simN, Nat.zero_add, e0', e3', e6', e7', k7, faT_0, faT_4, lc, lu, l4, zeroT, Nat.reduceAdd, y_eql, q4, g8, su, s6u, sw, s6w, ia1, l1]
    exact ih (f, w, c + 1) _ _ (by dsimp only; omega) rfl ⟨(by simp only [zfk, ↓reduceIte, Nat.reduceEqDiff, e0']; try rfl), (by simp only [zfk, ↓reduceIte, Nat.reduceEqDiff, e3']; try rfl), (by simp only [zfk, ↓reduceIte, Nat.reduceEqDiff]; try rfl), (by simp only [zfk, ↓reduceIte, Nat.reduceEqDiff, k0]; try rfl), by dsimp only; omega, hgu.2.2.2, by dsimp only; omega, by dsimp only; omega, t7 + 1, (by simp only [zfk, ↓reduceIte, Nat.reduceEqDiff]; try rfl), (by simp only [zfk, ↓reduceIte, Nat.reduceEqDiff]; try rfl)⟩
  · have hkk : kindT (.mk k b lg l s m kg ks) ≠ 4 := by simpa [kindT] using hk4
    rw [spine_no _ _ hkk] at hcn
    simp only [List.length_nil, Nat.add_zero] at hcn
    subst hcn
    have q4 : (k == 4) = false := beq_eq_false_iff_ne.mpr hk4
    simp only [simB, keep5, Nat.reduceBEq, own5, String.reduceAppend, String.reduceBEq, Bool.or_false, Bool.or_true, Bool.or_self, ↓reduceIte, Nat.reduceEqDiff, Nat.reduceAdd, simA, simL, simN, Nat.zero_add, e0', e3', e6', e7', k7, faT_0, lc, Nat.reduceAdd, y_eql, q4]
    exact fin _ (fun _ _ => rfl) _ _ x (by simp only [zfk, ↓reduceIte, Nat.reduceEqDiff, e0']; try rfl) (by simp only [zfk, ↓reduceIte, Nat.reduceEqDiff, e3']; try rfl) (by simp only [zfk, ↓reduceIte, Nat.reduceEqDiff, e6']; try rfl) (hB.at k0)
end Go.Ab

/- Every term that may be, put behind bytes by the reference; its Put (CFG5). Conditions: so many nodes at most; lengths in range. -/
namespace Go.Ab
open Go.Proofs
set_option maxRecDepth 100000
set_option linter.unusedSimpArgs false

theorem walk_rterm : ∀ (N : Nat) (t : T), goodT t → nodT t ≤ N → nodT t ≤ 1000000 → ∀ n D, nodT t + 100 ≤ n → 3 * nodT t + 6 ≤ D → RTerm1 n D t
  | 0, t, _, h, _, _, _, _, _ => by have := nod_pos t; omega
  | N + 1, .mk k b lg l s m kg ks, hg, h, h6, n, D, hn, hD => by
    have hg0 := hg
    simp only [goodT] at hg
    have hnd : nodT (.mk k b lg l s m kg ks) = nodK ks + 1 := rfl
    rw [hnd] at h h6 hn hD
    obtain ⟨E, rfl⟩ : ∃ E, D = E + 4 := ⟨D - 4, by omega⟩
    rcases own_kind hg.2.1 with rfl | rfl | rfl | rfl | rfl | rfl
    · exact rput_1 n E (by omega) b lg l s m kg ks hg0
    · exact rput_2 n E b lg l s m kg ks hg0
    · exact rput_3 n E b lg l s m kg ks
    · exact rput_4 n E _ hg0 rfl (by rw [hnd]; omega) (by rw [hnd]; omega) (fun u hu hlt => walk_rterm N u hu (by rw [hnd] at hlt; omega) (by rw [hnd] at hlt; omega) n (E+3) (by rw [hnd] at hlt; omega) (by rw [hnd] at hlt; omega))
    · have := nodK_len ks
      exact rput_5 n E b lg l s m kg ks hg0 (by omega) (fun u hu => walk_rterm N u (goodK_memY hg.2.2 hu) (by have := nodK_memY hu; omega) (by have := nodK_memY hu; omega) n (E+3) (by have := nodK_memY hu; omega) (by have := nodK_memY hu; omega))
    · exact rput_6 n E b lg l s m kg ks hg0
set_option maxHeartbeats 4000000 in
theorem rPut_ok (n D : Nat) (t : T) (hb : bigT 9223372036854775808 t) (hc : rwT t 1 0 ≥ 0) (hn : 2200 ≤ n) (hD : 6010 ≤ D) :
    evalFn Try.prog cfg5 n (D+2) 12 [.tree (encT t)] = some (.tree (.sl (cellsOfBytes (putB t)) (putB t).length .loose), [[]]) := by
  obtain ⟨hok, hr1, hr2⟩ := rw_okD t 1 0 (by decide) hc
  have hwf := bigY_wf 9223372036854775808 t hb
  have hg := good_okD t 1 hok hwf
  have hpl := putB_le t hg
  have ck := fun D' st => callA_trees (cfg := cfg5) (d := D') (s := st) (f := 16) (vs := [encT t]) rfl (ev5 (n := n) (d := D) rfl (rCheck_eq 9223372036854775808 (by decide) (Nat.le_refl _) 4185 t hb))
  rw [decide_eq_true hc] at ck
  simp only [encT] at ck
  rw [evalFn_go _ Try.func12 (by unfold Try.f12; rfl) (by unfold Try.f12; decide) (Nat.le_of_ble_eq_true (by unfold Try.f12; rfl)) (by kernel_rfl)]
  have e0 : env0 [.tree (encT t)] 0 = .agg (cellsT t) := rfl
  have ho : ∀ s, outsA s 0 [.tree (encT t)] = some [[]] := fun s => rfl
  generalize [Arg.tree (encT t)] = as1 at e0 ho
  generalize env0 as1 = env at e0
  generalize st0 as1 = st
  have lr : ∀ s, loadA Try.prog 28 s (.rptr (cellsT t)) = some (.agg (cellsT t)) := fun s => by
    obtain ⟨k, b1, lg, l, s1, m, kg, ks⟩ := t
    exact ldRT _ _ _ _ _ _ _
  have hT := walk_rterm 2000 t hg (by omega) (by omega) n (D+1) (by omega) (by omega)
  obtain ⟨st', t', c1, c2, c3⟩ := Bs.rterm hT (st := st) (p := 0) (x := .sl (cellsOfBytes []) ([] : List UInt8).length .nil) (bs := []) (.inl ⟨.nil, .inr rfl, rfl⟩) (by simp only [List.length_nil]; omega) 7
  rw [List.nil_append] at c1
  have c1 : callA cfg5 (evalFn Try.prog cfg5 n (D+1)) 7 st 30 [.sl [] 0 .nil, .agg (cellsT t)] = some (.sl (cellsOfBytes (putB t)) (putB t).length (.tok 7 t'), st') := c1
  simp only [simB, keep5, Nat.reduceBEq, own5, String.reduceAppend, String.reduceBEq, Bool.or_false, Bool.or_true, Bool.or_self, ↓reduceIte, Nat.reduceEqDiff, Nat.reduceAdd, simA, simL, simN, Nat.zero_add, e0, boxT_agg, lr, ck, unA_not', Bool.not_true, c1]
  exact finish_tok _ rfl _ 7 t' _ _ _ (by simp only [zfk, ↓reduceIte, Nat.reduceEqDiff]; try rfl) (ho _)
set_option maxHeartbeats 4000000 in
theorem rPut_no (n D : Nat) (t : T) (hb : bigT 9223372036854775808 t) (hc : ¬ rwT t 1 0 ≥ 0) :
    evalFn Try.prog cfg5 n (D+2) 12 [.tree (encT t)] = some (.tree (.sl [] 0 .nil), [[]]) := by
  have ck := fun D' st => callA_trees (cfg := cfg5) (d := D') (s := st) (f := 16) (vs := [encT t]) rfl (ev5 (n := n) (d := D) rfl (rCheck_eq 9223372036854775808 (by decide) (Nat.le_refl _) 4185 t hb))
  rw [decide_eq_false hc] at ck
  simp only [encT] at ck
  rw [evalFn_go _ Try.func12 (by unfold Try.f12; rfl) (by unfold Try.f12; decide) (Nat.le_of_ble_eq_true (by unfold Try.f12; rfl)) (by kernel_rfl)]
  have e0 : env0 [.tree (encT t)] 0 = .agg (cellsT t) := rfl
  have ho : ∀ s, outsA s 0 [.tree (encT t)] = some [[]] := fun s => rfl
  generalize [Arg.tree (encT t)] = as1 at e0 ho
  generalize env0 as1 = env at e0
  generalize st0 as1 = st
  have lr : ∀ s, loadA Try.prog 28 s (.rptr (cellsT t)) = some (.agg (cellsT t)) := fun s => by
    obtain ⟨k, b1, lg, l, s1, m, kg, ks⟩ := t
    exact ldRT _ _ _ _ _ _ _
  simp only [simB, keep5, Nat.reduceBEq, own5, String.reduceAppend, String.reduceBEq, Bool.or_false, Bool.or_true, Bool.or_self, ↓reduceIte, Nat.reduceEqDiff, Nat.reduceAdd, simA, simL, simN, Nat.zero_add, e0, boxT_agg, lr, ck, unA_not', Bool.not_false]
  exact finish_slB _ rfl _ _ _ .nil rfl _ _ (by simp only [zfk, ↓reduceIte, Nat.reduceEqDiff]; try rfl) (ho _)
end Go.Ab

/- The reference's reading: its parts, what is wrong, a number taken (CFG5). Conditions: places in range. -/
namespace Go.Ab
open Go.Proofs
set_option maxRecDepth 100000
set_option linter.unusedSimpArgs false

section
variable (s : St) (p k : Nat)
theorem fd63_0 : fieldOf Try.prog 63 0 = some (22, 0) := by kernel_rfl
theorem fd63_1 : fieldOf Try.prog 63 1 = some (3, 1) := by kernel_rfl
theorem fd63_2 : fieldOf Try.prog 63 2 = some (3, 2) := by kernel_rfl
theorem fd63_3 : fieldOf Try.prog 63 3 = some (34, 3) := by kernel_rfl
theorem fa63_0 : fieldAddrA Try.prog 63 s (.ptr p k 0) 0 = faE (s p) p k 0 := by
  simp only [fieldAddrA, fd63_0, esz59b, live, cellsAt_E, faE, Nat.zero_add]
theorem fa63_1 : fieldAddrA Try.prog 63 s (.ptr p k 0) 1 = faE (s p) p k 1 := by
  simp only [fieldAddrA, fd63_1, esz59i, live, cellsAt_E, faE, Nat.zero_add]
theorem fa63_2 : fieldAddrA Try.prog 63 s (.ptr p k 0) 2 = faE (s p) p k 2 := by
  simp only [fieldAddrA, fd63_2, esz59i, live, cellsAt_E, faE, Nat.zero_add]
theorem fa63_3 : fieldAddrA Try.prog 63 s (.ptr p k 0) 3 = faE (s p) p k 3 := by
  simp only [fieldAddrA, fd63_3, esz59a, live, cellsAt_E, faE, Nat.zero_add]
end
set_option maxHeartbeats 4000000 in
theorem rwrong_eq (n d : Nat) (bs : List UInt8) (g : Grip) (s : RS) (e : Int) : evalFn Try.prog cfg5 n (d+1) 60 [.ptr (rC bs g s) 0, .tree (.int .i64 e)] = some (.tree (.tup []), [rC bs g (s.fail e), []]) := by
  rw [evalFn_go _ Try.func60 (by unfold Try.f60; rfl) (by unfold Try.f60; decide) (Nat.le_of_ble_eq_true (by unfold Try.f60; rfl)) (by kernel_rfl)]
  have e0 : env0 [.ptr (rC bs g s) 0, .tree (.int .i64 e)] 0 = .ptr 0 0 0 := rfl
  have e1 : env0 [.ptr (rC bs g s) 0, .tree (.int .i64 e)] 1 = .int .i64 e := rfl
  have j0 : st0 [.ptr (rC bs g s) 0, .tree (.int .i64 e)] 0 = ⟨0, .buf (rC bs g s)⟩ := rfl
  have ho : ∀ s' ys, s' 0 = ⟨0, .buf ys⟩ → outsA s' 0 [.ptr (rC bs g s) 0, .tree (.int .i64 e)] = some [ys, []] := fun s' ys h => outs_ptr s' (rC bs g s) ys h [.int .i64 e]
  generalize [Arg.ptr (rC bs g s) 0, .tree (.int .i64 e)] = as1 at e0 e1 j0 ho
  generalize env0 as1 = env at e0 e1
  generalize st0 as1 = st at j0
  obtain ⟨i, tm, e'⟩ := s
  simp only [rC, RS.fail] at j0 ⊢
  by_cases h : e' = 0
  · have b1 : (e' == 0) = true := by rw [h]; rfl
    rw [if_pos h]
    simp only [simB, keep5, Nat.reduceBEq, own5, String.reduceAppend, String.reduceBEq, Bool.or_false, Bool.or_true, Bool.or_self, ↓reduceIte, Nat.reduceEqDiff, Nat.reduceAdd, simA, simL, simN, Nat.zero_add, e0, e1, j0, opA_nck, nckA_p, fa63_3, ld59_3, y_eql, b1, st_eY, stY_3]
    exact finish_0 _ _ _ _ _ (ho _ _ (by simp only [zfk, ↓reduceIte, Nat.reduceEqDiff]; try rfl))
  · have b1 : (e' == 0) = false := beq_eq_false_iff_ne.mpr h
    rw [if_neg h]
    simp only [simB, keep5, Nat.reduceBEq, own5, String.reduceAppend, String.reduceBEq, Bool.or_false, Bool.or_true, Bool.or_self, ↓reduceIte, Nat.reduceEqDiff, Nat.reduceAdd, simA, simL, simN, Nat.zero_add, e0, e1, j0, opA_nck, nckA_p, fa63_3, ld59_3, y_eql, b1, st_eY, stY_3]
    exact finish_0 _ _ _ _ _ (ho _ _ j0)
def numR (bs : List UInt8) (s : RS) (k : Nat) : Int := beV ((takeR bs s k).1.getD []) 0
set_option maxHeartbeats 4000000 in
theorem rtake_eq (n d : Nat) (hn : 100 ≤ n) (bs : List UInt8) (g : Grip) (s : RS) (k : Nat) (hs : okR bs s) (hk : k ≤ 4) : evalFn Try.prog cfg5 n (d+2) 59 [.ptr (rC bs g s) 0, .tree (.int .i64 (k : Int))] = some (.tree (.int .i64 (numR bs s k)), [rC bs g (takeR bs s k).2, []]) := by
  rw [evalFn_go _ Try.func59 (by unfold Try.f59; rfl) (by unfold Try.f59; decide) (Nat.le_of_ble_eq_true (by unfold Try.f59; rfl)) (by kernel_rfl)]
  have e0 : env0 [.ptr (rC bs g s) 0, .tree (.int .i64 (k : Int))] 0 = .ptr 0 0 0 := rfl
  have e1 : env0 [.ptr (rC bs g s) 0, .tree (.int .i64 (k : Int))] 1 = .int .i64 (k : Int) := rfl
  have j0 : st0 [.ptr (rC bs g s) 0, .tree (.int .i64 (k : Int))] 0 = ⟨0, .buf (rC bs g s)⟩ := rfl
  have ho : ∀ s' ys, s' 0 = ⟨0, .buf ys⟩ → outsA s' 0 [.ptr (rC bs g s) 0, .tree (.int .i64 (k : Int))] = some [ys, []] := fun s' ys h => outs_ptr s' (rC bs g s) ys h [.int .i64 (k : Int)]
  have cf := fun D (st : St) (hp : st 0 = ⟨0, .buf (rC bs g s)⟩) => callA_ptr (call := evalFn Try.prog cfg5 n (d+1)) [.int .i64 3] rfl (rwrong_eq n d bs g s 3) D hp
  generalize [Arg.ptr (rC bs g s) 0, .tree (.int .i64 (k : Int))] = as1 at e0 e1 j0 ho
  generalize env0 as1 = env at e0 e1
  generalize st0 as1 = st at j0
  obtain ⟨i, tm, e⟩ := s
  obtain ⟨hi, hb, h3, h4⟩ := hs
  dsimp only at hi h3 h4
  unfold numR takeR
  dsimp only
  simp only [rC] at j0 cf
  by_cases he : e = 0
  · subst he
    have b1 : ((0 : Int) != 0) = false := rfl
    have f1 := i_sub Try.prog 3 (bs.length : Int) (i : Int) (by omega) (by omega)
    by_cases hk2 : bs.length < i + k
    · have q1 : (bs.length : Int) - (i : Int) < (k : Int) := by omega
      rw [if_pos (.inr hk2)]
      simp only [simB, keep5, Nat.reduceBEq, own5, String.reduceAppend, String.reduceBEq, Bool.or_false, Bool.or_true, Bool.or_self, ↓reduceIte, Nat.reduceEqDiff, Nat.reduceAdd, simA, simL, simN, Nat.zero_add, e0, e1, j0, opA_nck, nckA_p, fa63_0, fa63_1, fa63_3, ld59_0, ld59_1, ld59_3, y_neq, y_lss, b1, lenB, f1, q1, cf]
      exact finish_iY _ _ _ _ _ _ _ (by simp only [zfk, ↓reduceIte, Nat.reduceEqDiff]; try rfl) (ho _ _ (by simp only [zfk, ↓reduceIte, Nat.reduceEqDiff]; try rfl))
    · have q1 : ¬ (bs.length : Int) - (i : Int) < (k : Int) := by omega
      rw [if_neg (by omega)]
      have f2 := i_add Try.prog 3 (i : Int) (k : Int) (by omega) (by omega)
      have e2 : (i : Int) + (k : Int) = ((i + k : Nat) : Int) := by omega
      rw [e2] at f2
      simp only [Option.getD_some]
      obtain ⟨x, hx⟩ : ∃ x, (bs.drop i).take k = x := ⟨_, rfl⟩
      have hv0 : beV x 0 = ((beN x 0 : Nat) : Int) := beV_N x 0
      rw [hx, hv0]
      have hxl : x.length = k := by rw [← hx, List.length_take, List.length_drop]; omega
      simp only [simB, keep5, Nat.reduceBEq, own5, String.reduceAppend, String.reduceBEq, Bool.or_false, Bool.or_true, Bool.or_self, ↓reduceIte, Nat.reduceEqDiff, Nat.reduceAdd, simA, simL, simN, Nat.zero_add, e0, e1, j0, opA_nck, nckA_p, fa63_0, fa63_1, fa63_3, ld59_0, ld59_1, ld59_3, y_neq, y_lss, b1, lenB, f1, q1, den_loop]
      refine loop_ends (X := Nat) (fun m env s => env 0 = .ptr 0 0 0 ∧ env 1 = .int .i64 (k : Int) ∧ env 5 = .int .i64 ((beN (x.take m) 0 : Nat) : Int) ∧ env 6 = .int .i64 (m : Int) ∧ m ≤ k ∧ s 0 = ⟨0, .buf [.sl (cellsOfBytes bs) bs.length g, .int .i64 (i : Int), .int .i64 tm, .int .i64 0]⟩) (fun m => k - m) (fun _ => (.tree (.int .i64 ((beN x 0 : Nat) : Int)), [rC bs g ⟨i + k, tm, 0⟩, []])) ?_ n 0 _ _ (by omega) ⟨(by simp only [zfk, ↓reduceIte, Nat.reduceEqDiff, e0]; try rfl), (by simp only [zfk, ↓reduceIte, Nat.reduceEqDiff, e1]; try rfl), (by simp only [zfk, ↓reduceIte, Nat.reduceEqDiff]; try rfl), (by simp only [zfk, ↓reduceIte, Nat.reduceEqDiff]; try rfl), by omega, (by simp only [zfk, ↓reduceIte, Nat.reduceEqDiff, j0]; try rfl)⟩
      rintro rd m hrd ih env1 s1 ⟨e0', e1', e5, e6, hm, k0⟩
      cases hdr : x.drop m with
      | cons c q =>
        have hlt : m < x.length := by have := congrArg List.length hdr; simp only [List.length_drop, List.length_cons] at this; omega
        have q1 : (m : Int) < (k : Int) := by omega
        have hbd : bs.drop (i + m) = c :: bs.drop (i + m + 1) := by
          have h1 : bs[i + m]? = some c := by
            have h2 : x[m]? = some c := by rw [← Nat.add_zero m, ← List.getElem?_drop, hdr]; rfl
            rw [← hx, List.getElem?_take, if_pos (by omega), List.getElem?_drop] at h2
            exact h2
          obtain ⟨hl, h2⟩ := List.getElem?_eq_some_iff.1 h1
          rw [List.drop_eq_getElem_cons hl, h2]
        have ia := fun st => iaB st bs g (i + m) (by omega)
        rw [hbd] at ia
        have ld := fun st => ldB st c (bs.drop (i + m + 1))
        have hv : beN (x.take m) 0 < 256 ^ (0 + (x.take m).length) := beN_lt _ 0 0 (by decide)
        have hv2 : beN (x.take m) 0 < 256 ^ 4 := Nat.lt_of_lt_of_le hv (Nat.pow_le_pow_right (by decide) (by rw [List.length_take]; omega))
        have hv3 : beN (x.take m) 0 < 4294967296 := hv2
        have g1 := y_shl8 Try.prog 3 (beN (x.take m) 0) (by omega)
        have hc : c.toNat < 256 := c.toNat_lt
        have g2 := fun s => conv5_3 s c.toNat hc
        have g3 := i_add Try.prog 3 ((beN (x.take m) 0 * 256 : Nat) : Int) (c.toNat : Int) (by omega) (by omega)
        have e3 : ((beN (x.take m) 0 * 256 : Nat) : Int) + (c.toNat : Int) = ((beN (x.take m) 0 * 256 + c.toNat : Nat) : Int) := by omega
        rw [e3] at g3
        have hnx : beN (x.take (m + 1)) 0 = beN (x.take m) 0 * 256 + c.toNat := by
          have hxi : x[m]? = some c := by rw [← Nat.add_zero m, ← List.getElem?_drop, hdr]; rfl
          rw [List.take_add_one, hxi, beN_app]; rfl
        rw [← hnx] at g3
        have g8 := i_add Try.prog 3 (m : Int) 1 (by omega) (by omega)
        have g9 := i_add Try.prog 3 (i : Int) (m : Int) (by omega) (by omega)
        have e4 : (i : Int) + (m : Int) = ((i + m : Nat) : Int) := by omega
        rw [e4] at g9
        simp only [simB, keep5, Nat.reduceBEq, own5, String.reduceAppend, String.reduceBEq, Bool.or_false, Bool.or_true, Bool.or_self, ↓reduceIte, Nat.reduceEqDiff, Nat.reduceAdd, simA, simL, simN, Nat.zero_add, y_lss, e0', e1', e5, e6, k0, q1, opA_nck, nckA_p, fa63_0, fa63_1, ld59_0, ld59_1, ia, ld, g1, g2, g3, g8, g9]
        exact ih (m + 1) _ _ (by omega) rfl ⟨(by simp only [zfk, ↓reduceIte, Nat.reduceEqDiff, e0']; try rfl), (by simp only [zfk, ↓reduceIte, Nat.reduceEqDiff, e1']; try rfl), (by simp only [zfk, ↓reduceIte, Nat.reduceEqDiff]; try rfl), (by simp only [zfk, ↓reduceIte, Nat.reduceEqDiff]; try rfl), by omega, (by simp only [zfk, ↓reduceIte, Nat.reduceEqDiff, k0]; try rfl)⟩
      | nil =>
        have hie : m = x.length := by have := congrArg List.length hdr; simp only [List.length_drop, List.length_nil] at this; omega
        subst hie
        rw [List.take_length] at e5
        have q1 : ¬ (x.length : Int) < (k : Int) := by omega
        simp only [simB, keep5, Nat.reduceBEq, own5, String.reduceAppend, String.reduceBEq, Bool.or_false, Bool.or_true, Bool.or_self, ↓reduceIte, Nat.reduceEqDiff, Nat.reduceAdd, simA, simL, simN, Nat.zero_add, y_lss, e0', e1', e5, e6, k0, q1, opA_nck, nckA_p, fa63_1, ld59_1, f2, st_iY, stY_1]
        exact finish_iY _ _ _ _ _ _ _ (by simp only [zfk, ↓reduceIte, Nat.reduceEqDiff]; try rfl) (ho _ _ (by simp only [zfk, ↓reduceIte, Nat.reduceEqDiff]; try rfl))
  · have b1 : (e != 0) = true := by simpa using he
    rw [if_pos (.inl he)]
    simp only [simB, keep5, Nat.reduceBEq, own5, String.reduceAppend, String.reduceBEq, Bool.or_false, Bool.or_true, Bool.or_self, ↓reduceIte, Nat.reduceEqDiff, Nat.reduceAdd, simA, simL, simN, Nat.zero_add, e0, e1, j0, opA_nck, nckA_p, fa63_0, fa63_1, fa63_3, ld59_0, ld59_1, ld59_3, y_neq, y_lss, b1, cf]
    exact finish_iY _ _ _ _ _ _ _ (by simp only [zfk, ↓reduceIte, Nat.reduceEqDiff]; try rfl) (ho _ _ (by simp only [zfk, ↓reduceIte, Nat.reduceEqDiff]; try rfl))
end Go.Ab

/- The reference's reading: a text, how many, the end of a plain term (CFG5). Conditions: places in range. -/
namespace Go.Ab
open Go.Proofs
set_option maxRecDepth 100000
set_option linter.unusedSimpArgs false

theorem slLH_all (bs : List UInt8) (g : Grip) (i j : Nat) (h1 : i ≤ j) (h2 : j ≤ bs.length) : ∃ g', ∀ s, sliceA Try.prog 22 s (.sl (cellsOfBytes bs) bs.length g) (some (.int .i64 (i : Int))) (some (.int .i64 (j : Int))) none = some (.sl (cellsOfBytes ((bs.drop i).take (j - i))) ((bs.drop i).take (j - i)).length g') := by
  obtain ⟨g', h⟩ := slLH dead bs g i j h1 h2
  refine ⟨g', fun s => ?_⟩
  rw [← h]
  simp only [sliceA, tkB]
set_option maxHeartbeats 4000000 in
theorem rtext_eq (n d : Nat) (bs : List UInt8) (g : Grip) (s : RS) (k : Nat) (hs : okR bs s) (hk : k ≤ 1000000000) : evalFn Try.prog cfg5 n (d+2) 65 [.ptr (rC bs g s) 0, .tree (.int .i64 (k : Int))] = some (.tree (.str ((takeR bs s k).1.getD [])), [rC bs g (takeR bs s k).2, []]) := by
  rw [evalFn_go _ Try.func65 (by unfold Try.f65; rfl) (by unfold Try.f65; decide) (Nat.le_of_ble_eq_true (by unfold Try.f65; rfl)) (by kernel_rfl)]
  have e0 : env0 [.ptr (rC bs g s) 0, .tree (.int .i64 (k : Int))] 0 = .ptr 0 0 0 := rfl
  have e1 : env0 [.ptr (rC bs g s) 0, .tree (.int .i64 (k : Int))] 1 = .int .i64 (k : Int) := rfl
  have j0 : st0 [.ptr (rC bs g s) 0, .tree (.int .i64 (k : Int))] 0 = ⟨0, .buf (rC bs g s)⟩ := rfl
  have ho : ∀ s' ys, s' 0 = ⟨0, .buf ys⟩ → outsA s' 0 [.ptr (rC bs g s) 0, .tree (.int .i64 (k : Int))] = some [ys, []] := fun s' ys h => outs_ptr s' (rC bs g s) ys h [.int .i64 (k : Int)]
  have cf := fun D (st : St) (hp : st 0 = ⟨0, .buf (rC bs g s)⟩) => callA_ptr (call := evalFn Try.prog cfg5 n (d+1)) [.int .i64 3] rfl (rwrong_eq n d bs g s 3) D hp
  generalize [Arg.ptr (rC bs g s) 0, .tree (.int .i64 (k : Int))] = as1 at e0 e1 j0 ho
  generalize env0 as1 = env at e0 e1
  generalize st0 as1 = st at j0
  obtain ⟨i, tm, e⟩ := s
  obtain ⟨hi, hb, h3, h4⟩ := hs
  dsimp only at hi h3 h4
  unfold takeR
  dsimp only
  simp only [rC] at j0 cf
  by_cases he : e = 0
  · subst he
    have b1 : ((0 : Int) != 0) = false := rfl
    have f1 := i_sub Try.prog 3 (bs.length : Int) (i : Int) (by omega) (by omega)
    by_cases hk2 : bs.length < i + k
    · have q1 : (bs.length : Int) - (i : Int) < (k : Int) := by omega
      rw [if_pos (.inr hk2)]
      simp only [simB, keep5, Nat.reduceBEq, own5, String.reduceAppend, String.reduceBEq, Bool.or_false, Bool.or_true, Bool.or_self, ↓reduceIte, Nat.reduceEqDiff, Nat.reduceAdd, simA, simL, simN, Nat.zero_add, e0, e1, j0, opA_nck, nckA_p, fa63_0, fa63_1, fa63_3, ld59_0, ld59_1, ld59_3, y_neq, y_lss, b1, lenB, f1, q1, cf]
      exact finish_s _ _ _ _ _ _ _ (by simp only [zfk, ↓reduceIte, Nat.reduceEqDiff]; try rfl) (ho _ _ (by simp only [zfk, ↓reduceIte, Nat.reduceEqDiff]; try rfl))
    · have q1 : ¬ (bs.length : Int) - (i : Int) < (k : Int) := by omega
      rw [if_neg (by omega)]
      have f2 := i_add Try.prog 3 (i : Int) (k : Int) (by omega) (by omega)
      have e2 : (i : Int) + (k : Int) = ((i + k : Nat) : Int) := by omega
      rw [e2] at f2
      simp only [Option.getD_some]
      obtain ⟨g', f4⟩ := slLH_all bs g i (i + k) (by omega) (by omega)
      rw [Nat.add_sub_cancel_left] at f4
      have cs := fun s => convBS s ((bs.drop i).take k) g'
      simp only [simB, keep5, Nat.reduceBEq, own5, String.reduceAppend, String.reduceBEq, Bool.or_false, Bool.or_true, Bool.or_self, ↓reduceIte, Nat.reduceEqDiff, Nat.reduceAdd, simA, simL, simN, Nat.zero_add, e0, e1, j0, opA_nck, nckA_p, fa63_0, fa63_1, fa63_3, ld59_0, ld59_1, ld59_3, y_neq, y_lss, b1, lenB, f1, q1, f2, zdp, f4, cs, st_iY, stY_1]
      exact finish_s _ _ _ _ _ _ _ (by simp only [zfk, ↓reduceIte, Nat.reduceEqDiff]; try rfl) (ho _ _ (by simp only [zfk, ↓reduceIte, Nat.reduceEqDiff]; try rfl))
  · have b1 : (e != 0) = true := by simpa using he
    rw [if_pos (.inl he)]
    simp only [simB, keep5, Nat.reduceBEq, own5, String.reduceAppend, String.reduceBEq, Bool.or_false, Bool.or_true, Bool.or_self, ↓reduceIte, Nat.reduceEqDiff, Nat.reduceAdd, simA, simL, simN, Nat.zero_add, e0, e1, j0, opA_nck, nckA_p, fa63_0, fa63_1, fa63_3, ld59_0, ld59_1, ld59_3, y_neq, y_lss, b1, cf]
    exact finish_s _ _ _ _ _ _ _ (by simp only [zfk, ↓reduceIte, Nat.reduceEqDiff]; try rfl) (ho _ _ (by simp only [zfk, ↓reduceIte, Nat.reduceEqDiff]; try rfl))
set_option maxHeartbeats 4000000 in
theorem rcount_eq (n d : Nat) (hn : 100 ≤ n) (bs : List UInt8) (g : Grip) (s : RS) (k : Nat) (a b : Int) (hs : okR bs s) (hk : k ≤ 4) : evalFn Try.prog cfg5 n (d+3) 66 [.ptr (rC bs g s) 0, .tree (.int .i64 (k : Int)), .tree (.int .i64 a), .tree (.int .i64 b)] = some (.tree (.int .i64 (manyR bs s k a b).1), [rC bs g (manyR bs s k a b).2, [], [], []]) := by
  rw [evalFn_go _ Try.func66 (by unfold Try.f66; rfl) (by unfold Try.f66; decide) (Nat.le_of_ble_eq_true (by unfold Try.f66; rfl)) (by kernel_rfl)]
  have e0 : env0 [.ptr (rC bs g s) 0, .tree (.int .i64 (k : Int)), .tree (.int .i64 a), .tree (.int .i64 b)] 0 = .ptr 0 0 0 := rfl
  have e1 : env0 [.ptr (rC bs g s) 0, .tree (.int .i64 (k : Int)), .tree (.int .i64 a), .tree (.int .i64 b)] 1 = .int .i64 (k : Int) := rfl
  have e2 : env0 [.ptr (rC bs g s) 0, .tree (.int .i64 (k : Int)), .tree (.int .i64 a), .tree (.int .i64 b)] 2 = .int .i64 a := rfl
  have e3 : env0 [.ptr (rC bs g s) 0, .tree (.int .i64 (k : Int)), .tree (.int .i64 a), .tree (.int .i64 b)] 3 = .int .i64 b := rfl
  have j0 : st0 [.ptr (rC bs g s) 0, .tree (.int .i64 (k : Int)), .tree (.int .i64 a), .tree (.int .i64 b)] 0 = ⟨0, .buf (rC bs g s)⟩ := rfl
  have ho : ∀ s' ys, s' 0 = ⟨0, .buf ys⟩ → outsA s' 0 [.ptr (rC bs g s) 0, .tree (.int .i64 (k : Int)), .tree (.int .i64 a), .tree (.int .i64 b)] = some [ys, [], [], []] := fun s' ys h => outs_ptr s' (rC bs g s) ys h [.int .i64 (k : Int), .int .i64 a, .int .i64 b]
  have ct := fun D (st : St) (hp : st 0 = ⟨0, .buf (rC bs g s)⟩) => callA_ptr (call := evalFn Try.prog cfg5 n (d+2)) [.int .i64 (k : Int)] rfl (rtake_eq n d hn bs g s k hs hk) D hp
  have cf := fun D (st : St) (hp : st 0 = ⟨0, .buf (rC bs g (takeR bs s k).2)⟩) => callA_ptr (call := evalFn Try.prog cfg5 n (d+2)) [.int .i64 4] rfl (rwrong_eq n (d+1) bs g (takeR bs s k).2 4) D hp
  generalize [Arg.ptr (rC bs g s) 0, .tree (.int .i64 (k : Int)), .tree (.int .i64 a), .tree (.int .i64 b)] = as1 at e0 e1 e2 e3 j0 ho
  generalize env0 as1 = env at e0 e1 e2 e3
  generalize st0 as1 = st at j0
  unfold manyR
  dsimp only
  unfold numR at ct
  obtain ⟨v, hv⟩ : ∃ v, beV ((takeR bs s k).1.getD []) 0 = v := ⟨_, rfl⟩
  rw [hv] at ct ⊢
  obtain ⟨r, hr⟩ : ∃ r, (takeR bs s k).2 = r := ⟨_, rfl⟩
  rw [hr] at ct cf ⊢
  obtain ⟨i, tm, e⟩ := r
  simp only [RS.fail] at cf ⊢
  simp only [rC] at cf ct j0 ⊢
  by_cases he : e = 0
  · subst he
    have b1 : ((0 : Int) == 0) = true := rfl
    have b2 : ((0 : Int) != 0) = false := rfl
    have b3 : ((4 : Int) != 0) = true := rfl
    have n0 : ¬ ((0 : Int) ≠ 0) := fun h => h rfl
    rw [if_neg n0]
    simp only [↓reduceIte] at cf
    by_cases h1 : v < a
    · rw [if_pos (.inl h1)]
      simp only [simB, keep5, Nat.reduceBEq, own5, String.reduceAppend, String.reduceBEq, Bool.or_false, Bool.or_true, Bool.or_self, ↓reduceIte, Nat.reduceEqDiff, Nat.reduceAdd, simA, simL, simN, Nat.zero_add, y_lss, y_gtr, y_eql, y_neq, e0, e1, e2, e3, j0, ct, opA_nck, nckA_p, fa63_3, ld59_3, b1, b2, b3, h1, cf]
      exact finish_iY _ _ _ _ _ _ _ (by simp only [zfk, ↓reduceIte, Nat.reduceEqDiff]; try rfl) (ho _ _ (by simp only [zfk, ↓reduceIte, Nat.reduceEqDiff]; try rfl))
    · by_cases h2 : v > b
      · rw [if_pos (.inr h2)]
        simp only [simB, keep5, Nat.reduceBEq, own5, String.reduceAppend, String.reduceBEq, Bool.or_false, Bool.or_true, Bool.or_self, ↓reduceIte, Nat.reduceEqDiff, Nat.reduceAdd, simA, simL, simN, Nat.zero_add, y_lss, y_gtr, y_eql, y_neq, e0, e1, e2, e3, j0, ct, opA_nck, nckA_p, fa63_3, ld59_3, b1, b2, b3, h1, h2, cf]
        exact finish_iY _ _ _ _ _ _ _ (by simp only [zfk, ↓reduceIte, Nat.reduceEqDiff]; try rfl) (ho _ _ (by simp only [zfk, ↓reduceIte, Nat.reduceEqDiff]; try rfl))
      · rw [if_neg (fun h => h.elim h1 h2)]
        simp only [simB, keep5, Nat.reduceBEq, own5, String.reduceAppend, String.reduceBEq, Bool.or_false, Bool.or_true, Bool.or_self, ↓reduceIte, Nat.reduceEqDiff, Nat.reduceAdd, simA, simL, simN, Nat.zero_add, y_lss, y_gtr, y_eql, y_neq, e0, e1, e2, e3, j0, ct, opA_nck, nckA_p, fa63_3, ld59_3, b1, b2, h1, h2]
        exact finish_iY _ _ _ _ _ _ _ (by simp only [zfk, ↓reduceIte, Nat.reduceEqDiff]; try rfl) (ho _ _ (by simp only [zfk, ↓reduceIte, Nat.reduceEqDiff]; try rfl))
  · have b1 : (e == 0) = false := beq_eq_false_iff_ne.mpr he
    have b2 : (e != 0) = true := by simpa using he
    rw [if_pos he]
    simp only [simB, keep5, Nat.reduceBEq, own5, String.reduceAppend, String.reduceBEq, Bool.or_false, Bool.or_true, Bool.or_self, ↓reduceIte, Nat.reduceEqDiff, Nat.reduceAdd, simA, simL, simN, Nat.zero_add, y_lss, y_gtr, y_eql, y_neq, e0, e1, e2, e3, j0, ct, opA_nck, nckA_p, fa63_3, ld59_3, b1, b2]
    exact finish_iY _ _ _ _ _ _ _ (by simp only [zfk, ↓reduceIte, Nat.reduceEqDiff]; try rfl) (ho _ _ (by simp only [zfk, ↓reduceIte, Nat.reduceEqDiff]; try rfl))
theorem Leaf.rw {t : T} (h : Leaf t) : 0 ≤ rwT t 1 0 ↔ ownT t = true := by
  obtain ⟨k, b, lg, l, s, n, kg, ks⟩ := t
  have h1 : ks = [] := h.kids
  subst h1
  simp only [rwT, rwK]
  cases ho : ownT (.mk k b lg l s n kg [])
  · rw [if_pos (.inr (.inr rfl))]; simp
  · rw [if_neg (by simp)]; simp
theorem Leaf.big {t : T} (h : Leaf t) (hs : (strT t).length < 9223372036854775808) : bigT 9223372036854775808 t := by
  obtain ⟨k, b, lg, l, s, n, kg, ks⟩ := t
  have h1 : ks = [] := h.kids
  subst h1
  simp only [bigT, bigK, and_true]
  exact ⟨h.lim, hs⟩
set_option maxHeartbeats 4000000 in
theorem rsameR_eq (n d : Nat) (hn : 2200 ≤ n) (hd : 6012 ≤ d) (bs : List UInt8) (g : Grip) (r : RS) (hr : okR bs r) (fr : Nat) (hf : fr < r.i ∨ r.e ≠ 0) (p : T) (hp : Leaf p) (hs : (strT p).length < 9223372036854775808) :
    evalFn Try.prog cfg5 n (d+2) 62 [.ptr (rC bs g r) 0, .tree (encT p), .tree (.int .i64 (fr : Int))] = some (.tree (encT p), [rC bs g (endR bs r p fr), [], []]) := by
  obtain ⟨D, rfl⟩ : ∃ D, d = D + 1 := ⟨d - 1, by omega⟩
  rw [evalFn_go _ Try.func62 (by unfold Try.f62; rfl) (by unfold Try.f62; decide) (Nat.le_of_ble_eq_true (by unfold Try.f62; rfl)) (by kernel_rfl)]
  have e0 : env0 [.ptr (rC bs g r) 0, .tree (encT p), .tree (.int .i64 (fr : Int))] 0 = .ptr 0 0 0 := rfl
  have e1 : env0 [.ptr (rC bs g r) 0, .tree (encT p), .tree (.int .i64 (fr : Int))] 1 = .agg (cellsT p) := rfl
  have e2 : env0 [.ptr (rC bs g r) 0, .tree (encT p), .tree (.int .i64 (fr : Int))] 2 = .int .i64 (fr : Int) := rfl
  have j0 : st0 [.ptr (rC bs g r) 0, .tree (encT p), .tree (.int .i64 (fr : Int))] 0 = ⟨0, .buf (rC bs g r)⟩ := rfl
  have j4 : (st0 [.ptr (rC bs g r) 0, .tree (encT p), .tree (.int .i64 (fr : Int))] 4).t = 0 := rfl
  have j6 : (st0 [.ptr (rC bs g r) 0, .tree (encT p), .tree (.int .i64 (fr : Int))] 6).t = 0 := rfl
  have ho : ∀ s' ys, s' 0 = ⟨0, .buf ys⟩ → outsA s' 0 [.ptr (rC bs g r) 0, .tree (encT p), .tree (.int .i64 (fr : Int))] = some [ys, [], []] := fun s' ys h => outs_ptr s' (rC bs g r) ys h [encT p, .int .i64 (fr : Int)]
  have cf := fun D' (st : St) (hp : st 0 = ⟨0, .buf (rC bs g r)⟩) => callA_ptr (call := evalFn Try.prog cfg5 n (D+1+1)) [.int .i64 4] rfl (rwrong_eq n (D+1) bs g r 4) D' hp
  generalize [Arg.ptr (rC bs g r) 0, .tree (encT p), .tree (.int .i64 (fr : Int))] = as1 at e0 e1 e2 j0 j4 j6 ho
  generalize env0 as1 = env at e0 e1 e2
  generalize st0 as1 = st at j0 j4 j6
  have s60 := fun t k' q st => stT_u t k' q st p
  obtain ⟨i, tm, e⟩ := r
  obtain ⟨hi, hb, h3, h4⟩ := hr
  dsimp only at hi h3 h4 hf
  unfold endR
  dsimp only
  simp only [rC] at j0 cf
  by_cases he : e = 0
  · subst he
    have b1 : ((0 : Int) == 0) = true := rfl
    have hfi : fr < i := hf.resolve_right (fun h => h rfl)
    obtain ⟨g', fs⟩ := slLH_all bs g fr i (by omega) hi
    have hsl : ((bs.drop fr).take (i - fr)).length = i - fr := by rw [List.length_take, List.length_drop]; omega
    obtain ⟨w, hw⟩ : ∃ w, (bs.drop fr).take (i - fr) = w := ⟨_, rfl⟩
    rw [hw] at fs hsl ⊢
    have hput : ∃ q : List UInt8, (∃ g2, callQ (evalFn Try.prog cfg5 n (D+1+1)) 12 [encT p] = some (.sl (cellsOfBytes q) q.length g2)) ∧ (q = w ↔ (putB p = w ∧ ownT p = true)) := by
      cases hown : ownT p with
      | true =>
        refine ⟨putB p, ⟨.loose, ?_⟩, by simp⟩
        exact callQ_trees (f := 12) (vs := [encT p]) rfl (rPut_ok n D p (hp.big hs) (hp.rw.2 hown) hn (by omega))
      | false =>
        refine ⟨[], ⟨.nil, ?_⟩, ?_⟩
        · exact callQ_trees (f := 12) (vs := [encT p]) rfl (rPut_no n D p (hp.big hs) (fun h => by have := hp.rw.1 h; rw [hown] at this; cases this))
        · constructor
          · intro h; rw [← h] at hsl; simp at hsl; omega
          · intro h; exact absurd h.2 (by decide)
    obtain ⟨q, ⟨g2, hq⟩, hqw⟩ := hput
    simp only [encT] at hq
    have cs := fun s => convBS s q g2
    have cw := fun s => convBS s w g'
    by_cases heq : putB p = w ∧ ownT p = true
    · have hqe : q = w := hqw.2 heq
      have b2 : (!(q == w)) = false := by rw [hqe]; simp
      rw [if_neg (fun h => h.2 heq)]
      simp only [simB, keep5, Nat.reduceBEq, own5, String.reduceAppend, String.reduceBEq, Bool.or_false, Bool.or_true, Bool.or_self, ↓reduceIte, Nat.reduceEqDiff, Nat.reduceAdd, simA, simL, simN, Nat.zero_add, e0, e1, e2, j0, j4, j6, zeroT, boxA_agg, opA_nck, nckA_p, fa63_0, fa63_1, fa63_3, ld59_0, ld59_1, ld59_3, y_eql, b1, ldT_u, hq, cs, zdp, fs, cw, s_neqY, b2, st_Tt, stT_6]
      exact finish_cY _ _ _ _ _ _ p _ _ (by simp only [zfk, ↓reduceIte, Nat.reduceEqDiff]; try rfl) (by simp only [zfk, ↓reduceIte, Nat.reduceEqDiff]; try rfl) (ho _ _ (by simp only [zfk, ↓reduceIte, Nat.reduceEqDiff, j0]; try rfl))
    · have hqe : ¬ q = w := fun h => heq (hqw.1 h)
      have b2 : (!(q == w)) = true := by simpa using hqe
      rw [if_pos ⟨rfl, heq⟩]
      simp only [simB, keep5, Nat.reduceBEq, own5, String.reduceAppend, String.reduceBEq, Bool.or_false, Bool.or_true, Bool.or_self, ↓reduceIte, Nat.reduceEqDiff, Nat.reduceAdd, simA, simL, simN, Nat.zero_add, e0, e1, e2, j0, j4, j6, zeroT, boxA_agg, opA_nck, nckA_p, fa63_0, fa63_1, fa63_3, ld59_0, ld59_1, ld59_3, y_eql, b1, ldT_u, hq, cs, zdp, fs, cw, s_neqY, b2, cf, st_Tt, stT_6]
      exact finish_cY _ _ _ _ _ _ p _ _ (by simp only [zfk, ↓reduceIte, Nat.reduceEqDiff]; try rfl) (by simp only [zfk, ↓reduceIte, Nat.reduceEqDiff]; try rfl) (ho _ _ (by simp only [zfk, ↓reduceIte, Nat.reduceEqDiff]; try rfl))
  · have b1 : (e == 0) = false := beq_eq_false_iff_ne.mpr he
    rw [if_neg (fun h => he h.1)]
    simp only [simB, keep5, Nat.reduceBEq, own5, String.reduceAppend, String.reduceBEq, Bool.or_false, Bool.or_true, Bool.or_self, ↓reduceIte, Nat.reduceEqDiff, Nat.reduceAdd, simA, simL, simN, Nat.zero_add, e0, e1, e2, j0, j4, j6, zeroT, boxA_agg, opA_nck, nckA_p, fa63_0, fa63_1, fa63_3, ld59_0, ld59_1, ld59_3, y_eql, b1, ldT_u, st_Tt, stT_6]
    exact finish_cY _ _ _ _ _ _ p _ _ (by simp only [zfk, ↓reduceIte, Nat.reduceEqDiff]; try rfl) (by simp only [zfk, ↓reduceIte, Nat.reduceEqDiff]; try rfl) (ho _ _ (by simp only [zfk, ↓reduceIte, Nat.reduceEqDiff, j0]; try rfl))
end Go.Ab
