/- Several texts put together: AbzW7, AbzW8, AbzW9, AbzA16, AbzW10, AbzLawBAll. Conditions: as each part says. -/
import Derived.Test.YtpgnjcckmmkmkaaGreatDoorAbBAllZ08
import Derived.Test.YtpgnjcckmmkmkaaGreatDoorAbBAllZ07
import Derived.Test.YtpgnjcckmmkmkaaGreatDoorAbBAllZ05
import Derived.Test.YtpgnjcckmmkmkaaGreatDoorAbBAllZ06
/- bif.Make, relictref19.Make. Conditions: lengths in range. -/
namespace Go.Ab
open Go.Proofs
set_option maxRecDepth 100000
set_option linter.unusedSimpArgs false

def addT (t : T) : Option (List UInt8) := if kindT t = 6 then some (strT t) else if kindT t = 1 ∧ isI64 (zOfT t) = true ∧ 0 ≤ zOfT t ∧ zOfT t ≤ 255 then some [UInt8.ofNat (zOfT t).toNat] else none
theorem add_6 (t : T) (h : kindT t = 6) : addT t = some (strT t) := if_pos h
theorem add_1 (t : T) (h : kindT t = 1) (h2 : isI64 (zOfT t) = true ∧ 0 ≤ zOfT t ∧ zOfT t ≤ 255) : addT t = some [UInt8.ofNat (zOfT t).toNat] := by
  unfold addT; rw [if_neg (by omega), if_pos ⟨h, h2⟩]
theorem add_no (t : T) (h : kindT t ≠ 6) (h2 : ¬ (kindT t = 1 ∧ isI64 (zOfT t) = true ∧ 0 ≤ zOfT t ∧ zOfT t ≤ 255)) : addT t = none := by
  unfold addT; rw [if_neg h, if_neg h2]
def binT (s : List UInt8) : T := .mk 6 false .n [] s 0 .n []
def makeT : List T → List UInt8 → T × Bool
  | [], s => (binT s, true)
  | t :: r, s => match addT t with
    | none => (T0, false)
    | some u => if (s ++ u).length > 400 then (T0, false) else makeT r (s ++ u)
theorem make_none (t : T) (r : List T) (s : List UInt8) (h : addT t = none) : makeT (t :: r) s = (T0, false) := by rw [makeT, h]
theorem make_some (t : T) (r : List T) (s u : List UInt8) (h : addT t = some u) : makeT (t :: r) s = if (s ++ u).length > 400 then (T0, false) else makeT r (s ++ u) := by rw [makeT, h]
theorem add_bare (t t' : T) (h : bareT t = bareT t') : addT t = addT t' := by
  have e1 : kindT t = kindT t' ∧ zOfT t = zOfT t' ∧ strT t = strT t' := by
    obtain ⟨k, b, lg, l, s, m, kg, ks⟩ := t
    obtain ⟨k', b', lg', l', s', m', kg', ks'⟩ := t'
    simp only [bareT, T.mk.injEq, true_and] at h
    obtain ⟨rfl, rfl, rfl, rfl, _⟩ := h
    exact ⟨rfl, rfl, rfl⟩
  by_cases h6 : kindT t = 6
  · rw [add_6 t h6, add_6 t' (by rw [← e1.1]; exact h6), e1.2.2]
  by_cases h1 : kindT t = 1 ∧ isI64 (zOfT t) = true ∧ 0 ≤ zOfT t ∧ zOfT t ≤ 255
  · rw [add_1 t h1.1 h1.2, add_1 t' (by rw [← e1.1]; exact h1.1) (by rw [← e1.2.1]; exact h1.2), e1.2.1]
  · rw [add_no t h6 h1, add_no t' (by rw [← e1.1]; exact h6) (by rw [← e1.1, ← e1.2.1]; exact h1)]
theorem make_bare : ∀ (ks ks' : List T) (s : List UInt8), bareK ks = bareK ks' → makeT ks s = makeT ks' s
  | [], [], s, _ => rfl
  | [], _ :: _, _, h => by cases h
  | _ :: _, [], _, h => by cases h
  | t :: r, t' :: r', s, h => by
    simp only [bareK, List.cons.injEq] at h
    have ha := add_bare t t' h.1
    cases hq : addT t with
    | none => rw [make_none t r s hq, make_none t' r' s (by rw [← ha]; exact hq)]
    | some u =>
      rw [make_some t r s u hq, make_some t' r' s u (by rw [← ha]; exact hq)]
      split
      · rfl
      · exact make_bare r r' _ h.2
theorem zero5W : zeroOf Tryz.prog 5 = some [.int .u8 0] := by kernel_rfl
theorem intZ_W (z : Int) : intZ z = .tup [.int .i64 (if isI64 z = true then z else 0), .bool (isI64 z)] := by
  unfold intZ
  by_cases h : isI64 z = true
  · rw [if_pos h, if_pos h, h]
  · rw [if_neg h, if_neg h, Bool.eq_false_iff.2 h]
theorem conv35W (s : St) (x : Nat) (h : x < 256) : convA Tryz.prog 3 5 s (.int .i64 (x : Int)) = some (.int .u8 (x : Int)) := conv3_5 s x h
theorem conv78W (s : St) (x : Nat) (g : Grip) : convA Tryz.prog 78 9 s (.sl [.int .u8 (x : Int)] 1 g) = some (.str [UInt8.ofNat x]) := by
  simp only [convA, tk66, tk9, tk5]
  rfl
def one78 (x : AV) : Option AV := (fillA (fun i => some (i * 1, 1)) (rep 1 [.int .u8 0]) [(0, x)]).map (.sl · 1 .tight)
theorem one78_u8 (x : Int) : one78 (.int .u8 x) = some (.sl [.int .u8 x] 1 .tight) := rfl
theorem opA_one78 (call : FuncId → List Arg → Option Out) (q : Bool) (d : Option Tmp) (ty : TypeId) (pos : String) (af : Array Edge) (g : Option (Nat × Bool)) (t : Nat) (env : Env) (s : St) (x : Operand) :
    opA Tryz.prog cfg0 call q ⟨d, .buildSlice 78 1 #[(0, x)], ty, pos, af, g⟩ t env s = (one78 (ev env x)).map (·, s) := by
  rw [opA_bs]
  simp only [tk66, esz5, zero5W, Option.bind_some, List.map_cons, List.map_nil]
  rfl
theorem bdT_binW (s : List UInt8) : buildA Tryz.prog 29 [(0, .int .i64 6), (2, .str s)] = some (.agg (cellsT (binT s))) := bdT_2 6 s
theorem ldT_cIW (t k : Nat) (u : T) : ldE Tryz.prog 3 ⟨t, .buf (cellsT u)⟩ k 0 = if t = k then some (.int .i64 (kindT u)) else none := by
  obtain ⟨a, b, c, d, e, f, g, h⟩ := u
  simp only [cellsT, kindT]
  exact ldT_0 _ _ _ _ _ _ _ _
theorem ldT_cSW (t k : Nat) (u : T) : ldE Tryz.prog 9 ⟨t, .buf (cellsT u)⟩ k 3 = if t = k then some (.str (strT u)) else none := by
  obtain ⟨a, b, c, d, e, f, g, h⟩ := u
  simp only [cellsT, strT]
  exact ldT_2 _ _ _ _ _ _ _ _
theorem ldT_cNW (t k : Nat) (u : T) : ldE Tryz.prog 27 ⟨t, .buf (cellsT u)⟩ k 1 = if t = k then some (encA (sgnT u) (lgT' u) (limT u)) else none := by
  obtain ⟨a, b, c, d, e, f, g, h⟩ := u
  simp only [cellsT, sgnT, lgT', limT]
  exact ldT_1 _ _ _ _ _ _ _ _
theorem faR_0W (s : St) (xs : List AV) : fieldAddrA Tryz.prog 29 s (.rptr xs) 0 = some (.rptr xs) := by
  simp only [fieldAddrA, fdT0, eszTi]; rfl
theorem faR_1W (s : St) (xs : List AV) : fieldAddrA Tryz.prog 29 s (.rptr xs) 1 = some (.rptr (xs.drop 1)) := by
  simp only [fieldAddrA, fdT1, esz24]
theorem faR_2W (s : St) (xs : List AV) : fieldAddrA Tryz.prog 29 s (.rptr xs) 2 = some (.rptr (xs.drop 3)) := by
  simp only [fieldAddrA, fdT2, esz9]
theorem ldR_0W (s : St) (u : T) (r : List T) : loadA Tryz.prog 3 s (.rptr (cellsK (u :: r))) = some (.int .i64 (kindT u)) := by
  obtain ⟨a, b, c, d, e, f, g, h⟩ := u
  simp only [loadA, partA, shTi]; rfl
theorem ldR_1W (s : St) (u : T) (r : List T) : loadA Tryz.prog 27 s (.rptr ((cellsK (u :: r)).drop 1)) = some (encA (sgnT u) (lgT' u) (limT u)) := by
  obtain ⟨a, b, c, d, e, f, g, h⟩ := u
  simp only [loadA, partA, sh24]
  rw [if_pos (by simp [cellsK, cellsT])]
  rfl
theorem ldR_2W (s : St) (u : T) (r : List T) : loadA Tryz.prog 9 s (.rptr ((cellsK (u :: r)).drop 3)) = some (.str (strT u)) := by
  obtain ⟨a, b, c, d, e, f, g, h⟩ := u
  simp only [loadA, partA, shTs]; rfl
set_option maxHeartbeats 32000000 in
theorem makeA_eq (R d : Nat) (hR : 100000 ≤ R) (us : List T) (g : Grip) (hu : us.length ≤ 1000) (hs : ∀ t ∈ us, Limbs (limT t) ∧ (strT t).length ≤ 1000000) : evalFn Tryz.prog cfg0 R (d+4) 27 [.tree (.sl (cellsK us) us.length g)] = some (.tree (.tup [encT (makeT us []).1, .bool (makeT us []).2]), [[]]) := by
  rw [evalFn_go _ Tryz.func27 (by unfold Tryz.f27; rfl) (by unfold Tryz.f27; decide) (Nat.le_of_ble_eq_true (by unfold Tryz.f27; rfl)) (by kernel_rfl)]
  simp only [simB, zbo, Nat.reduceBEq, own0, ↓reduceIte, Nat.reduceEqDiff, Nat.reduceAdd, env0, List.getElem?_cons_zero, List.getElem?_cons_succ, zdv, zdw, zdx, zdy, zdz, zea, zeb, zec, ia22, ld31, zed, zee, zef, zeg, zeh, zei, zej, zek, zel, zem, zen, zeo, zep, zeq, zer, fa_0, fa_1, zes, bd_0, bd_2, zet, fd_1, zeu, Nat.zero_add, zev, List.toList_toArray, len9, ix9, zew, zex, zey, zez, zfa, zeroT, lenTk, st0_1, zel, den_loop]
  refine loop_ends (X := Nat × List UInt8) (fun s' env st => env 2 = .ptr 2 1 0 ∧ env 4 = .str s'.2 ∧ env 9 = .sl (cellsK us) us.length g ∧ env 10 = .int .i64 (us.length : Int) ∧ env 11 = .int .i64 (s'.1 : Int) ∧ st 2 = ⟨1, .buf [.int .i64 0, .bool false, .sl [] 0 .nil, .str [], .int .i64 0, .sl [] 0 .nil]⟩ ∧ s'.1 ≤ us.length ∧ s'.2.length ≤ 400 ∧ makeT (us.drop s'.1) s'.2 = makeT us []) (fun s' => us.length - s'.1) (fun _ => (.tree (.tup [encT (makeT us []).1, .bool (makeT us []).2]), [[]])) ?_ R (0, []) _ _ (by simp only; omega) ⟨(by first | (simp only [zfp, ↓reduceIte, Nat.reduceEqDiff]; done) | (simp only [zfp, ↓reduceIte, Nat.reduceEqDiff]; rfl)), (by first | (simp only [zfp, ↓reduceIte, Nat.reduceEqDiff]; done) | (simp only [zfp, ↓reduceIte, Nat.reduceEqDiff]; rfl)), (by first | (simp only [zfp, ↓reduceIte, Nat.reduceEqDiff]; done) | (simp only [zfp, ↓reduceIte, Nat.reduceEqDiff]; rfl)), (by first | (simp only [zfp, ↓reduceIte, Nat.reduceEqDiff]; done) | (simp only [zfp, ↓reduceIte, Nat.reduceEqDiff]; rfl)), (by first | (simp only [zfp, ↓reduceIte, Nat.reduceEqDiff]; done) | (simp only [zfp, ↓reduceIte, Nat.reduceEqDiff]; rfl)), (by first | (simp only [zfp, ↓reduceIte, Nat.reduceEqDiff]; done) | (simp only [zfp, ↓reduceIte, Nat.reduceEqDiff]; rfl)), Nat.zero_le _, by simp, rfl⟩
  rintro rd ⟨i, s⟩ hrd ih env st ⟨e2, e4, e9, e10, e11, j2, hi, hsl, hmk⟩
  simp only at e4 hi hsl hmk hrd e11
  rw [← hmk]
  cases hdr : us.drop i with
  | nil =>
    have hil : i = us.length := by have := congrArg List.length hdr; simp only [List.length_drop, List.length_nil] at this; omega
    have q1 : ¬ ((i : Int) < (us.length : Int)) := by omega
    show _ = some (Res.tree (.tup [encT (binT s), .bool true]), _)
    simp only [simB, zbo, Nat.reduceBEq, own0, ↓reduceIte, Nat.reduceEqDiff, Nat.reduceAdd, zdv, zdw, zdx, zdy, zdz, zea, zeb, zec, ia22, ld31, zed, zee, zef, zeg, zeh, zei, zej, zek, zel, zem, zen, zeo, zep, zeq, zer, fa_0, fa_1, zes, bd_0, bd_2, zet, fd_1, zeu, Nat.zero_add, zev, List.toList_toArray, len9, ix9, zew, zex, zey, zez, zfa, lenTk, e2, e4, e9, e10, e11, q1, j2, bdT_binW, st_Tt, stT_6]
    exact finish_T2 _ _ _ _ _ (binT s) _ _ _ _ _ (by first | (simp only [zfp, ↓reduceIte, Nat.reduceEqDiff, e2]; done) | (simp only [zfp, ↓reduceIte, Nat.reduceEqDiff, e2]; rfl)) (by first | (simp only [zfp, ↓reduceIte, Nat.reduceEqDiff]; done) | (simp only [zfp, ↓reduceIte, Nat.reduceEqDiff]; rfl)) (by first | (simp only [zfp, ↓reduceIte, Nat.reduceEqDiff]; done) | (simp only [zfp, ↓reduceIte, Nat.reduceEqDiff]; rfl)) rfl
  | cons t r =>
    have hil : i < us.length := by have := congrArg List.length hdr; simp only [List.length_drop, List.length_cons] at this; omega
    have q1 : (i : Int) < (us.length : Int) := by omega
    have hx : us[i]? = some t := by rw [← Nat.add_zero i, ← List.getElem?_drop, hdr]; rfl
    obtain ⟨hL, hS⟩ := hs t (List.mem_of_getElem? hx)
    have hdr2 := drop_next hdr
    rw [hdr] at hmk
    have ia := fun st => ia_K st us g i hil
    rw [hdr] at ia
    have ld := fun st => ld_KW st t r
    have c0 := fun D st => cInt R d hR (isN_A (sgnT t) (lgT' t) (limT t) hL) D st
    have ez : numZ (sgnT t) (limT t) = zOfT t := rfl
    rw [ez, intZ_W] at c0
    have f5 := i_add Tryz.prog 3 (i : Int) 1 (by omega) (by omega)
    by_cases k6 : kindT t = 6
    · obtain ⟨u, hu'⟩ : ∃ u, strT t = u := ⟨_, rfl⟩
      have ha : addT t = some u := by rw [add_6 t k6, hu']
      rw [hu'] at hS
      rw [make_some t r s u ha] at hmk ⊢
      have b6 : (kindT t == 6) = true := by rw [k6]; rfl
      have b1 : (kindT t == 1) = false := by rw [k6]; rfl
      have sa := s_addS Tryz.prog 9 s u (by omega)
      by_cases hq : ((s ++ u).length : Int) > 400
      · rw [if_pos (by omega)]
        simp only [simB, zbo, Nat.reduceBEq, own0, ↓reduceIte, Nat.reduceEqDiff, Nat.reduceAdd, env0, List.getElem?_cons_zero, List.getElem?_cons_succ, zdv, zdw, zdx, zdy, zdz, zea, zeb, zec, ia22, ld31, zed, zee, zef, zeg, zeh, zei, zej, zek, zel, zem, zen, zeo, zep, zeq, zer, fa_0, fa_1, zes, bd_0, bd_2, zet, fd_1, zeu, Nat.zero_add, zev, List.toList_toArray, len9, ix9, zew, zex, zey, zez, zfa, zeroT, lenTk, Nat.reduceAdd, ldT_cIW, ldT_cSW, ldT_cNW, faT_0, faT_1, faT_2, ia, ld, st_Tt, stT_6, zds, i_eqlV, Int.reduceBEq, bdT_00, c0, j2, e2, e4, e9, e10, e11, q1, b6, b1, hu', sa, hq]
        exact finish_T2 _ _ _ _ _ T0 _ _ _ _ _ (by first | (simp only [zfp, ↓reduceIte, Nat.reduceEqDiff, e2]; done) | (simp only [zfp, ↓reduceIte, Nat.reduceEqDiff, e2]; rfl)) (by first | (simp only [zfp, ↓reduceIte, Nat.reduceEqDiff]; done) | (simp only [zfp, ↓reduceIte, Nat.reduceEqDiff]; rfl)) (by first | (simp only [zfp, ↓reduceIte, Nat.reduceEqDiff]; done) | (simp only [zfp, ↓reduceIte, Nat.reduceEqDiff]; rfl)) rfl
      · rw [if_neg (by omega)] at hmk ⊢
        simp only [simB, zbo, Nat.reduceBEq, own0, ↓reduceIte, Nat.reduceEqDiff, Nat.reduceAdd, env0, List.getElem?_cons_zero, List.getElem?_cons_succ, zdv, zdw, zdx, zdy, zdz, zea, zeb, zec, ia22, ld31, zed, zee, zef, zeg, zeh, zei, zej, zek, zel, zem, zen, zeo, zep, zeq, zer, fa_0, fa_1, zes, bd_0, bd_2, zet, fd_1, zeu, Nat.zero_add, zev, List.toList_toArray, len9, ix9, zew, zex, zey, zez, zfa, zeroT, lenTk, Nat.reduceAdd, ldT_cIW, ldT_cSW, ldT_cNW, faT_0, faT_1, faT_2, ia, ld, st_Tt, stT_6, zds, i_eqlV, Int.reduceBEq, bdT_00, c0, j2, e2, e4, e9, e10, e11, q1, b6, b1, hu', sa, hq, f5]
        rw [hmk]
        exact ih (i + 1, s ++ u) _ _ (by omega) rfl ⟨(by first | (simp only [zfp, ↓reduceIte, Nat.reduceEqDiff, e2]; done) | (simp only [zfp, ↓reduceIte, Nat.reduceEqDiff, e2]; rfl)), (by first | (simp only [zfp, ↓reduceIte, Nat.reduceEqDiff]; done) | (simp only [zfp, ↓reduceIte, Nat.reduceEqDiff]; rfl)), (by first | (simp only [zfp, ↓reduceIte, Nat.reduceEqDiff, e9]; done) | (simp only [zfp, ↓reduceIte, Nat.reduceEqDiff, e9]; rfl)), (by first | (simp only [zfp, ↓reduceIte, Nat.reduceEqDiff, e10]; done) | (simp only [zfp, ↓reduceIte, Nat.reduceEqDiff, e10]; rfl)), (by first | (simp only [zfp, ↓reduceIte, Nat.reduceEqDiff]; done) | (simp only [zfp, ↓reduceIte, Nat.reduceEqDiff]; rfl)), (by first | (simp only [zfp, ↓reduceIte, Nat.reduceEqDiff, j2]; done) | (simp only [zfp, ↓reduceIte, Nat.reduceEqDiff, j2]; rfl)), by omega, by simp only; omega, by rw [hdr2]; exact hmk⟩
    have b6 : (kindT t == 6) = false := beq_eq_false_iff_ne.mpr k6
    by_cases k1 : kindT t = 1
    rotate_left
    · have b1 : (kindT t == 1) = false := beq_eq_false_iff_ne.mpr k1
      rw [make_none t r s (add_no t k6 (fun h => k1 h.1))]
      simp only [simB, zbo, Nat.reduceBEq, own0, ↓reduceIte, Nat.reduceEqDiff, Nat.reduceAdd, env0, List.getElem?_cons_zero, List.getElem?_cons_succ, zdv, zdw, zdx, zdy, zdz, zea, zeb, zec, ia22, ld31, zed, zee, zef, zeg, zeh, zei, zej, zek, zel, zem, zen, zeo, zep, zeq, zer, fa_0, fa_1, zes, bd_0, bd_2, zet, fd_1, zeu, Nat.zero_add, zev, List.toList_toArray, len9, ix9, zew, zex, zey, zez, zfa, zeroT, lenTk, Nat.reduceAdd, ldT_cIW, ldT_cSW, ldT_cNW, faT_0, faT_1, faT_2, ia, ld, st_Tt, stT_6, zds, i_eqlV, Int.reduceBEq, bdT_00, c0, j2, e2, e4, e9, e10, e11, q1, b6, b1]
      exact finish_T2 _ _ _ _ _ T0 _ _ _ _ _ (by first | (simp only [zfp, ↓reduceIte, Nat.reduceEqDiff, e2]; done) | (simp only [zfp, ↓reduceIte, Nat.reduceEqDiff, e2]; rfl)) (by first | (simp only [zfp, ↓reduceIte, Nat.reduceEqDiff]; done) | (simp only [zfp, ↓reduceIte, Nat.reduceEqDiff]; rfl)) (by first | (simp only [zfp, ↓reduceIte, Nat.reduceEqDiff]; done) | (simp only [zfp, ↓reduceIte, Nat.reduceEqDiff]; rfl)) rfl
    have b1 : (kindT t == 1) = true := by rw [k1]; rfl
    cases hI : isI64 (zOfT t) with
    | false =>
      rw [hI] at c0
      rw [make_none t r s (add_no t k6 (fun h => by have := h.2.1; rw [hI] at this; cases this))]
      simp only [simB, zbo, Nat.reduceBEq, own0, ↓reduceIte, Nat.reduceEqDiff, Nat.reduceAdd, env0, List.getElem?_cons_zero, List.getElem?_cons_succ, zdv, zdw, zdx, zdy, zdz, zea, zeb, zec, ia22, ld31, zed, zee, zef, zeg, zeh, zei, zej, zek, zel, zem, zen, zeo, zep, zeq, zer, fa_0, fa_1, zes, bd_0, bd_2, zet, fd_1, zeu, Nat.zero_add, zev, List.toList_toArray, len9, ix9, zew, zex, zey, zez, zfa, zeroT, lenTk, Nat.reduceAdd, ldT_cIW, ldT_cSW, ldT_cNW, faT_0, faT_1, faT_2, ia, ld, st_Tt, stT_6, zds, i_eqlV, Int.reduceBEq, bdT_00, c0, j2, e2, e4, e9, e10, e11, q1, b6, b1]
      exact finish_T2 _ _ _ _ _ T0 _ _ _ _ _ (by first | (simp only [zfp, ↓reduceIte, Nat.reduceEqDiff, e2]; done) | (simp only [zfp, ↓reduceIte, Nat.reduceEqDiff, e2]; rfl)) (by first | (simp only [zfp, ↓reduceIte, Nat.reduceEqDiff]; done) | (simp only [zfp, ↓reduceIte, Nat.reduceEqDiff]; rfl)) (by first | (simp only [zfp, ↓reduceIte, Nat.reduceEqDiff]; done) | (simp only [zfp, ↓reduceIte, Nat.reduceEqDiff]; rfl)) rfl
    | true =>
    rw [hI, if_pos rfl] at c0
    by_cases z0 : zOfT t ≥ 0
    rotate_left
    · rw [make_none t r s (add_no t k6 (fun h => z0 h.2.2.1))]
      simp only [simB, zbo, Nat.reduceBEq, own0, ↓reduceIte, Nat.reduceEqDiff, Nat.reduceAdd, env0, List.getElem?_cons_zero, List.getElem?_cons_succ, zdv, zdw, zdx, zdy, zdz, zea, zeb, zec, ia22, ld31, zed, zee, zef, zeg, zeh, zei, zej, zek, zel, zem, zen, zeo, zep, zeq, zer, fa_0, fa_1, zes, bd_0, bd_2, zet, fd_1, zeu, Nat.zero_add, zev, List.toList_toArray, len9, ix9, zew, zex, zey, zez, zfa, zeroT, lenTk, Nat.reduceAdd, ldT_cIW, ldT_cSW, ldT_cNW, faT_0, faT_1, faT_2, ia, ld, st_Tt, stT_6, zds, i_eqlV, Int.reduceBEq, bdT_00, c0, j2, e2, e4, e9, e10, e11, q1, b6, b1, z0]
      exact finish_T2 _ _ _ _ _ T0 _ _ _ _ _ (by first | (simp only [zfp, ↓reduceIte, Nat.reduceEqDiff, e2]; done) | (simp only [zfp, ↓reduceIte, Nat.reduceEqDiff, e2]; rfl)) (by first | (simp only [zfp, ↓reduceIte, Nat.reduceEqDiff]; done) | (simp only [zfp, ↓reduceIte, Nat.reduceEqDiff]; rfl)) (by first | (simp only [zfp, ↓reduceIte, Nat.reduceEqDiff]; done) | (simp only [zfp, ↓reduceIte, Nat.reduceEqDiff]; rfl)) rfl
    by_cases z1 : zOfT t ≤ 255
    rotate_left
    · rw [make_none t r s (add_no t k6 (fun h => z1 h.2.2.2))]
      simp only [simB, zbo, Nat.reduceBEq, own0, ↓reduceIte, Nat.reduceEqDiff, Nat.reduceAdd, env0, List.getElem?_cons_zero, List.getElem?_cons_succ, zdv, zdw, zdx, zdy, zdz, zea, zeb, zec, ia22, ld31, zed, zee, zef, zeg, zeh, zei, zej, zek, zel, zem, zen, zeo, zep, zeq, zer, fa_0, fa_1, zes, bd_0, bd_2, zet, fd_1, zeu, Nat.zero_add, zev, List.toList_toArray, len9, ix9, zew, zex, zey, zez, zfa, zeroT, lenTk, Nat.reduceAdd, ldT_cIW, ldT_cSW, ldT_cNW, faT_0, faT_1, faT_2, ia, ld, st_Tt, stT_6, zds, i_eqlV, Int.reduceBEq, bdT_00, c0, j2, e2, e4, e9, e10, e11, q1, b6, b1, z0, z1]
      exact finish_T2 _ _ _ _ _ T0 _ _ _ _ _ (by first | (simp only [zfp, ↓reduceIte, Nat.reduceEqDiff, e2]; done) | (simp only [zfp, ↓reduceIte, Nat.reduceEqDiff, e2]; rfl)) (by first | (simp only [zfp, ↓reduceIte, Nat.reduceEqDiff]; done) | (simp only [zfp, ↓reduceIte, Nat.reduceEqDiff]; rfl)) (by first | (simp only [zfp, ↓reduceIte, Nat.reduceEqDiff]; done) | (simp only [zfp, ↓reduceIte, Nat.reduceEqDiff]; rfl)) rfl
    have ha := add_1 t k1 ⟨hI, z0, z1⟩
    obtain ⟨x, hx'⟩ : ∃ x, (zOfT t).toNat = x := ⟨_, rfl⟩
    have hzx : zOfT t = (x : Int) := by omega
    rw [hx'] at ha
    rw [hzx] at c0 z0 z1
    obtain ⟨u, hu'⟩ : ∃ u, [UInt8.ofNat x] = u := ⟨_, rfl⟩
    have hul : u.length = 1 := by rw [← hu']; rfl
    rw [hu'] at ha
    have cv := fun st => conv35W st x (by omega)
    have cw := fun st => conv78W st x .tight
    rw [hu'] at cw
    rw [make_some t r s u ha] at hmk ⊢
    have sa := s_addS Tryz.prog 9 s u (by omega)
    by_cases hq : ((s ++ u).length : Int) > 400
    · rw [if_pos (by omega)]
      simp only [simB, zbo, Nat.reduceBEq, own0, ↓reduceIte, Nat.reduceEqDiff, Nat.reduceAdd, env0, List.getElem?_cons_zero, List.getElem?_cons_succ, zdv, zdw, zdx, zdy, zdz, zea, zeb, zec, ia22, ld31, zed, zee, zef, zeg, zeh, zei, zej, zek, zel, zem, zen, zeo, zep, zeq, zer, fa_0, fa_1, zes, bd_0, bd_2, zet, fd_1, zeu, Nat.zero_add, zev, List.toList_toArray, len9, ix9, zew, zex, zey, zez, zfa, zeroT, lenTk, Nat.reduceAdd, ldT_cIW, ldT_cSW, ldT_cNW, faT_0, faT_1, faT_2, ia, ld, st_Tt, stT_6, zds, i_eqlV, Int.reduceBEq, bdT_00, c0, j2, e2, e4, e9, e10, e11, q1, b6, b1, z0, z1, cv, opA_one78, one78_u8, cw, sa, hq]
      exact finish_T2 _ _ _ _ _ T0 _ _ _ _ _ (by first | (simp only [zfp, ↓reduceIte, Nat.reduceEqDiff, e2]; done) | (simp only [zfp, ↓reduceIte, Nat.reduceEqDiff, e2]; rfl)) (by first | (simp only [zfp, ↓reduceIte, Nat.reduceEqDiff]; done) | (simp only [zfp, ↓reduceIte, Nat.reduceEqDiff]; rfl)) (by first | (simp only [zfp, ↓reduceIte, Nat.reduceEqDiff]; done) | (simp only [zfp, ↓reduceIte, Nat.reduceEqDiff]; rfl)) rfl
    · rw [if_neg (by omega)] at hmk ⊢
      simp only [simB, zbo, Nat.reduceBEq, own0, ↓reduceIte, Nat.reduceEqDiff, Nat.reduceAdd, env0, List.getElem?_cons_zero, List.getElem?_cons_succ, zdv, zdw, zdx, zdy, zdz, zea, zeb, zec, ia22, ld31, zed, zee, zef, zeg, zeh, zei, zej, zek, zel, zem, zen, zeo, zep, zeq, zer, fa_0, fa_1, zes, bd_0, bd_2, zet, fd_1, zeu, Nat.zero_add, zev, List.toList_toArray, len9, ix9, zew, zex, zey, zez, zfa, zeroT, lenTk, Nat.reduceAdd, ldT_cIW, ldT_cSW, ldT_cNW, faT_0, faT_1, faT_2, ia, ld, st_Tt, stT_6, zds, i_eqlV, Int.reduceBEq, bdT_00, c0, j2, e2, e4, e9, e10, e11, q1, b6, b1, z0, z1, cv, opA_one78, one78_u8, cw, sa, hq, f5]
      rw [hmk]
      exact ih (i + 1, s ++ u) _ _ (by omega) rfl ⟨(by first | (simp only [zfp, ↓reduceIte, Nat.reduceEqDiff, e2]; done) | (simp only [zfp, ↓reduceIte, Nat.reduceEqDiff, e2]; rfl)), (by first | (simp only [zfp, ↓reduceIte, Nat.reduceEqDiff]; done) | (simp only [zfp, ↓reduceIte, Nat.reduceEqDiff]; rfl)), (by first | (simp only [zfp, ↓reduceIte, Nat.reduceEqDiff, e9]; done) | (simp only [zfp, ↓reduceIte, Nat.reduceEqDiff, e9]; rfl)), (by first | (simp only [zfp, ↓reduceIte, Nat.reduceEqDiff, e10]; done) | (simp only [zfp, ↓reduceIte, Nat.reduceEqDiff, e10]; rfl)), (by first | (simp only [zfp, ↓reduceIte, Nat.reduceEqDiff]; done) | (simp only [zfp, ↓reduceIte, Nat.reduceEqDiff]; rfl)), (by first | (simp only [zfp, ↓reduceIte, Nat.reduceEqDiff, j2]; done) | (simp only [zfp, ↓reduceIte, Nat.reduceEqDiff, j2]; rfl)), by omega, by simp only; omega, by rw [hdr2]; exact hmk⟩
set_option maxHeartbeats 32000000 in
theorem rmakeA_eq (R d : Nat) (hR : 100000 ≤ R) (us : List T) (g : Grip) (hu : us.length ≤ 1000) (hs : ∀ t ∈ us, Limbs (limT t) ∧ (strT t).length ≤ 1000000) : evalFn Tryz.prog cfg0 R (d+4) 28 [.tree (.sl (cellsK us) us.length g)] = some (.tree (.tup [encT (makeT us []).1, .bool (makeT us []).2]), [[]]) := by
  rw [evalFn_go _ Tryz.func28 (by unfold Tryz.f28; rfl) (by unfold Tryz.f28; decide) (Nat.le_of_ble_eq_true (by unfold Tryz.f28; rfl)) (by kernel_rfl)]
  simp only [simB, zbo, Nat.reduceBEq, own0, ↓reduceIte, Nat.reduceEqDiff, Nat.reduceAdd, env0, List.getElem?_cons_zero, List.getElem?_cons_succ, zdv, zdw, zdx, zdy, zdz, zea, zeb, zec, ia22, ld31, zed, zee, zef, zeg, zeh, zei, zej, zek, zel, zem, zen, zeo, zep, zeq, zer, fa_0, fa_1, zes, bd_0, bd_2, zet, fd_1, zeu, Nat.zero_add, zev, List.toList_toArray, len9, ix9, zew, zex, zey, zez, zfa, zeroT, lenTk, st0_1, zel, den_loop]
  refine loop_ends (X := Nat × List UInt8) (fun s' env st => env 2 = .ptr 2 1 0 ∧ env 4 = .str s'.2 ∧ env 0 = .sl (cellsK us) us.length g ∧ env 5 = .int .i64 (s'.1 : Int) ∧ st 2 = ⟨1, .buf [.int .i64 0, .bool false, .sl [] 0 .nil, .str [], .int .i64 0, .sl [] 0 .nil]⟩ ∧ s'.1 ≤ us.length ∧ s'.2.length ≤ 400 ∧ makeT (us.drop s'.1) s'.2 = makeT us []) (fun s' => us.length - s'.1) (fun _ => (.tree (.tup [encT (makeT us []).1, .bool (makeT us []).2]), [[]])) ?_ R (0, []) _ _ (by simp only; omega) ⟨(by first | (simp only [zfp, ↓reduceIte, Nat.reduceEqDiff]; done) | (simp only [zfp, ↓reduceIte, Nat.reduceEqDiff]; rfl)), (by first | (simp only [zfp, ↓reduceIte, Nat.reduceEqDiff]; done) | (simp only [zfp, ↓reduceIte, Nat.reduceEqDiff]; rfl)), (by first | (simp only [zfp, ↓reduceIte, Nat.reduceEqDiff, env0, List.getElem?_cons_zero, List.getElem?_cons_succ]; done) | (simp only [zfp, ↓reduceIte, Nat.reduceEqDiff, env0, List.getElem?_cons_zero, List.getElem?_cons_succ]; rfl)), (by first | (simp only [zfp, ↓reduceIte, Nat.reduceEqDiff]; done) | (simp only [zfp, ↓reduceIte, Nat.reduceEqDiff]; rfl)), (by first | (simp only [zfp, ↓reduceIte, Nat.reduceEqDiff]; done) | (simp only [zfp, ↓reduceIte, Nat.reduceEqDiff]; rfl)), Nat.zero_le _, by simp, rfl⟩
  rintro rd ⟨i, s⟩ hrd ih env st ⟨e2, e4, e0, e5, j2, hi, hsl, hmk⟩
  simp only at e4 hi hsl hmk hrd e5
  rw [← hmk]
  cases hdr : us.drop i with
  | nil =>
    have hil : i = us.length := by have := congrArg List.length hdr; simp only [List.length_drop, List.length_nil] at this; omega
    have q1 : ¬ ((i : Int) < (us.length : Int)) := by omega
    show _ = some (Res.tree (.tup [encT (binT s), .bool true]), _)
    simp only [simB, zbo, Nat.reduceBEq, own0, ↓reduceIte, Nat.reduceEqDiff, Nat.reduceAdd, zdv, zdw, zdx, zdy, zdz, zea, zeb, zec, ia22, ld31, zed, zee, zef, zeg, zeh, zei, zej, zek, zel, zem, zen, zeo, zep, zeq, zer, fa_0, fa_1, zes, bd_0, bd_2, zet, fd_1, zeu, Nat.zero_add, zev, List.toList_toArray, len9, ix9, zew, zex, zey, zez, zfa, lenTk, e2, e4, e0, e5, q1, j2, bdT_binW, st_Tt, stT_6]
    exact finish_T2 _ _ _ _ _ (binT s) _ _ _ _ _ (by first | (simp only [zfp, ↓reduceIte, Nat.reduceEqDiff, e2]; done) | (simp only [zfp, ↓reduceIte, Nat.reduceEqDiff, e2]; rfl)) (by first | (simp only [zfp, ↓reduceIte, Nat.reduceEqDiff]; done) | (simp only [zfp, ↓reduceIte, Nat.reduceEqDiff]; rfl)) (by first | (simp only [zfp, ↓reduceIte, Nat.reduceEqDiff]; done) | (simp only [zfp, ↓reduceIte, Nat.reduceEqDiff]; rfl)) rfl
  | cons t r =>
    have hil : i < us.length := by have := congrArg List.length hdr; simp only [List.length_drop, List.length_cons] at this; omega
    have q1 : (i : Int) < (us.length : Int) := by omega
    have hx : us[i]? = some t := by rw [← Nat.add_zero i, ← List.getElem?_drop, hdr]; rfl
    obtain ⟨hL, hS⟩ := hs t (List.mem_of_getElem? hx)
    have hdr2 := drop_next hdr
    rw [hdr] at hmk
    have ia := fun st => ia_K st us g i hil
    rw [hdr] at ia
    have ld := fun st => ld_KW st t r
    have c0 := fun D st => cRint R d hR (isN_A (sgnT t) (lgT' t) (limT t) hL) D st
    have ez : numZ (sgnT t) (limT t) = zOfT t := rfl
    rw [ez, intZ_W] at c0
    have f5 := i_add Tryz.prog 3 (i : Int) 1 (by omega) (by omega)
    by_cases k6 : kindT t = 6
    · obtain ⟨u, hu'⟩ : ∃ u, strT t = u := ⟨_, rfl⟩
      have ha : addT t = some u := by rw [add_6 t k6, hu']
      rw [hu'] at hS
      rw [make_some t r s u ha] at hmk ⊢
      have b6 : (kindT t == 6) = true := by rw [k6]; rfl
      have b1 : (kindT t == 1) = false := by rw [k6]; rfl
      have sa := s_addS Tryz.prog 9 s u (by omega)
      by_cases hq : ((s ++ u).length : Int) > 400
      · rw [if_pos (by omega)]
        simp only [simB, zbo, Nat.reduceBEq, own0, ↓reduceIte, Nat.reduceEqDiff, Nat.reduceAdd, env0, List.getElem?_cons_zero, List.getElem?_cons_succ, zdv, zdw, zdx, zdy, zdz, zea, zeb, zec, ia22, ld31, zed, zee, zef, zeg, zeh, zei, zej, zek, zel, zem, zen, zeo, zep, zeq, zer, fa_0, fa_1, zes, bd_0, bd_2, zet, fd_1, zeu, Nat.zero_add, zev, List.toList_toArray, len9, ix9, zew, zex, zey, zez, zfa, zeroT, lenTk, Nat.reduceAdd, faR_0W, faR_1W, faR_2W, ldR_0W, ldR_1W, ldR_2W, ia, ld, st_Tt, stT_6, zds, i_eqlV, Int.reduceBEq, bdT_00, c0, j2, e2, e4, e0, e5, q1, b6, b1, hu', sa, hq]
        exact finish_T2 _ _ _ _ _ T0 _ _ _ _ _ (by first | (simp only [zfp, ↓reduceIte, Nat.reduceEqDiff, e2]; done) | (simp only [zfp, ↓reduceIte, Nat.reduceEqDiff, e2]; rfl)) (by first | (simp only [zfp, ↓reduceIte, Nat.reduceEqDiff]; done) | (simp only [zfp, ↓reduceIte, Nat.reduceEqDiff]; rfl)) (by first | (simp only [zfp, ↓reduceIte, Nat.reduceEqDiff]; done) | (simp only [zfp, ↓reduceIte, Nat.reduceEqDiff]; rfl)) rfl
      · rw [if_neg (by omega)] at hmk ⊢
        simp only [simB, zbo, Nat.reduceBEq, own0, ↓reduceIte, Nat.reduceEqDiff, Nat.reduceAdd, env0, List.getElem?_cons_zero, List.getElem?_cons_succ, zdv, zdw, zdx, zdy, zdz, zea, zeb, zec, ia22, ld31, zed, zee, zef, zeg, zeh, zei, zej, zek, zel, zem, zen, zeo, zep, zeq, zer, fa_0, fa_1, zes, bd_0, bd_2, zet, fd_1, zeu, Nat.zero_add, zev, List.toList_toArray, len9, ix9, zew, zex, zey, zez, zfa, zeroT, lenTk, Nat.reduceAdd, faR_0W, faR_1W, faR_2W, ldR_0W, ldR_1W, ldR_2W, ia, ld, st_Tt, stT_6, zds, i_eqlV, Int.reduceBEq, bdT_00, c0, j2, e2, e4, e0, e5, q1, b6, b1, hu', sa, hq, f5]
        rw [hmk]
        exact ih (i + 1, s ++ u) _ _ (by omega) rfl ⟨(by first | (simp only [zfp, ↓reduceIte, Nat.reduceEqDiff, e2]; done) | (simp only [zfp, ↓reduceIte, Nat.reduceEqDiff, e2]; rfl)), (by first | (simp only [zfp, ↓reduceIte, Nat.reduceEqDiff]; done) | (simp only [zfp, ↓reduceIte, Nat.reduceEqDiff]; rfl)), (by first | (simp only [zfp, ↓reduceIte, Nat.reduceEqDiff, e0]; done) | (simp only [zfp, ↓reduceIte, Nat.reduceEqDiff, e0]; rfl)), (by first | (simp only [zfp, ↓reduceIte, Nat.reduceEqDiff]; done) | (simp only [zfp, ↓reduceIte, Nat.reduceEqDiff]; rfl)), (by first | (simp only [zfp, ↓reduceIte, Nat.reduceEqDiff, j2]; done) | (simp only [zfp, ↓reduceIte, Nat.reduceEqDiff, j2]; rfl)), by omega, by simp only; omega, by rw [hdr2]; exact hmk⟩
    have b6 : (kindT t == 6) = false := beq_eq_false_iff_ne.mpr k6
    by_cases k1 : kindT t = 1
    rotate_left
    · have b1 : (kindT t == 1) = false := beq_eq_false_iff_ne.mpr k1
      rw [make_none t r s (add_no t k6 (fun h => k1 h.1))]
      simp only [simB, zbo, Nat.reduceBEq, own0, ↓reduceIte, Nat.reduceEqDiff, Nat.reduceAdd, env0, List.getElem?_cons_zero, List.getElem?_cons_succ, zdv, zdw, zdx, zdy, zdz, zea, zeb, zec, ia22, ld31, zed, zee, zef, zeg, zeh, zei, zej, zek, zel, zem, zen, zeo, zep, zeq, zer, fa_0, fa_1, zes, bd_0, bd_2, zet, fd_1, zeu, Nat.zero_add, zev, List.toList_toArray, len9, ix9, zew, zex, zey, zez, zfa, zeroT, lenTk, Nat.reduceAdd, faR_0W, faR_1W, faR_2W, ldR_0W, ldR_1W, ldR_2W, ia, ld, st_Tt, stT_6, zds, i_eqlV, Int.reduceBEq, bdT_00, c0, j2, e2, e4, e0, e5, q1, b6, b1]
      exact finish_T2 _ _ _ _ _ T0 _ _ _ _ _ (by first | (simp only [zfp, ↓reduceIte, Nat.reduceEqDiff, e2]; done) | (simp only [zfp, ↓reduceIte, Nat.reduceEqDiff, e2]; rfl)) (by first | (simp only [zfp, ↓reduceIte, Nat.reduceEqDiff]; done) | (simp only [zfp, ↓reduceIte, Nat.reduceEqDiff]; rfl)) (by first | (simp only [zfp, ↓reduceIte, Nat.reduceEqDiff]; done) | (simp only [zfp, ↓reduceIte, Nat.reduceEqDiff]; rfl)) rfl
    have b1 : (kindT t == 1) = true := by rw [k1]; rfl
    cases hI : isI64 (zOfT t) with
    | false =>
      rw [hI] at c0
      rw [make_none t r s (add_no t k6 (fun h => by have := h.2.1; rw [hI] at this; cases this))]
      simp only [simB, zbo, Nat.reduceBEq, own0, ↓reduceIte, Nat.reduceEqDiff, Nat.reduceAdd, env0, List.getElem?_cons_zero, List.getElem?_cons_succ, zdv, zdw, zdx, zdy, zdz, zea, zeb, zec, ia22, ld31, zed, zee, zef, zeg, zeh, zei, zej, zek, zel, zem, zen, zeo, zep, zeq, zer, fa_0, fa_1, zes, bd_0, bd_2, zet, fd_1, zeu, Nat.zero_add, zev, List.toList_toArray, len9, ix9, zew, zex, zey, zez, zfa, zeroT, lenTk, Nat.reduceAdd, faR_0W, faR_1W, faR_2W, ldR_0W, ldR_1W, ldR_2W, ia, ld, st_Tt, stT_6, zds, i_eqlV, Int.reduceBEq, bdT_00, c0, j2, e2, e4, e0, e5, q1, b6, b1]
      exact finish_T2 _ _ _ _ _ T0 _ _ _ _ _ (by first | (simp only [zfp, ↓reduceIte, Nat.reduceEqDiff, e2]; done) | (simp only [zfp, ↓reduceIte, Nat.reduceEqDiff, e2]; rfl)) (by first | (simp only [zfp, ↓reduceIte, Nat.reduceEqDiff]; done) | (simp only [zfp, ↓reduceIte, Nat.reduceEqDiff]; rfl)) (by first | (simp only [zfp, ↓reduceIte, Nat.reduceEqDiff]; done) | (simp only [zfp, ↓reduceIte, Nat.reduceEqDiff]; rfl)) rfl
    | true =>
    rw [hI, if_pos rfl] at c0
    by_cases z0 : zOfT t ≥ 0
    rotate_left
    · rw [make_none t r s (add_no t k6 (fun h => z0 h.2.2.1))]
      simp only [simB, zbo, Nat.reduceBEq, own0, ↓reduceIte, Nat.reduceEqDiff, Nat.reduceAdd, env0, List.getElem?_cons_zero, List.getElem?_cons_succ, zdv, zdw, zdx, zdy, zdz, zea, zeb, zec, ia22, ld31, zed, zee, zef, zeg, zeh, zei, zej, zek, zel, zem, zen, zeo, zep, zeq, zer, fa_0, fa_1, zes, bd_0, bd_2, zet, fd_1, zeu, Nat.zero_add, zev, List.toList_toArray, len9, ix9, zew, zex, zey, zez, zfa, zeroT, lenTk, Nat.reduceAdd, faR_0W, faR_1W, faR_2W, ldR_0W, ldR_1W, ldR_2W, ia, ld, st_Tt, stT_6, zds, i_eqlV, Int.reduceBEq, bdT_00, c0, j2, e2, e4, e0, e5, q1, b6, b1, z0]
      exact finish_T2 _ _ _ _ _ T0 _ _ _ _ _ (by first | (simp only [zfp, ↓reduceIte, Nat.reduceEqDiff, e2]; done) | (simp only [zfp, ↓reduceIte, Nat.reduceEqDiff, e2]; rfl)) (by first | (simp only [zfp, ↓reduceIte, Nat.reduceEqDiff]; done) | (simp only [zfp, ↓reduceIte, Nat.reduceEqDiff]; rfl)) (by first | (simp only [zfp, ↓reduceIte, Nat.reduceEqDiff]; done) | (simp only [zfp, ↓reduceIte, Nat.reduceEqDiff]; rfl)) rfl
    by_cases z1 : zOfT t ≤ 255
    rotate_left
    · rw [make_none t r s (add_no t k6 (fun h => z1 h.2.2.2))]
      simp only [simB, zbo, Nat.reduceBEq, own0, ↓reduceIte, Nat.reduceEqDiff, Nat.reduceAdd, env0, List.getElem?_cons_zero, List.getElem?_cons_succ, zdv, zdw, zdx, zdy, zdz, zea, zeb, zec, ia22, ld31, zed, zee, zef, zeg, zeh, zei, zej, zek, zel, zem, zen, zeo, zep, zeq, zer, fa_0, fa_1, zes, bd_0, bd_2, zet, fd_1, zeu, Nat.zero_add, zev, List.toList_toArray, len9, ix9, zew, zex, zey, zez, zfa, zeroT, lenTk, Nat.reduceAdd, faR_0W, faR_1W, faR_2W, ldR_0W, ldR_1W, ldR_2W, ia, ld, st_Tt, stT_6, zds, i_eqlV, Int.reduceBEq, bdT_00, c0, j2, e2, e4, e0, e5, q1, b6, b1, z0, z1]
      exact finish_T2 _ _ _ _ _ T0 _ _ _ _ _ (by first | (simp only [zfp, ↓reduceIte, Nat.reduceEqDiff, e2]; done) | (simp only [zfp, ↓reduceIte, Nat.reduceEqDiff, e2]; rfl)) (by first | (simp only [zfp, ↓reduceIte, Nat.reduceEqDiff]; done) | (simp only [zfp, ↓reduceIte, Nat.reduceEqDiff]; rfl)) (by first | (simp only [zfp, ↓reduceIte, Nat.reduceEqDiff]; done) | (simp only [zfp, ↓reduceIte, Nat.reduceEqDiff]; rfl)) rfl
    have ha := add_1 t k1 ⟨hI, z0, z1⟩
    obtain ⟨x, hx'⟩ : ∃ x, (zOfT t).toNat = x := ⟨_, rfl⟩
    have hzx : zOfT t = (x : Int) := by omega
    rw [hx'] at ha
    rw [hzx] at c0 z0 z1
    obtain ⟨u, hu'⟩ : ∃ u, [UInt8.ofNat x] = u := ⟨_, rfl⟩
    have hul : u.length = 1 := by rw [← hu']; rfl
    rw [hu'] at ha
    have cv := fun st => conv35W st x (by omega)
    have cw := fun st => conv78W st x .tight
    rw [hu'] at cw
    rw [make_some t r s u ha] at hmk ⊢
    have sa := s_addS Tryz.prog 9 s u (by omega)
    by_cases hq : ((s ++ u).length : Int) > 400
    · rw [if_pos (by omega)]
      simp only [simB, zbo, Nat.reduceBEq, own0, ↓reduceIte, Nat.reduceEqDiff, Nat.reduceAdd, env0, List.getElem?_cons_zero, List.getElem?_cons_succ, zdv, zdw, zdx, zdy, zdz, zea, zeb, zec, ia22, ld31, zed, zee, zef, zeg, zeh, zei, zej, zek, zel, zem, zen, zeo, zep, zeq, zer, fa_0, fa_1, zes, bd_0, bd_2, zet, fd_1, zeu, Nat.zero_add, zev, List.toList_toArray, len9, ix9, zew, zex, zey, zez, zfa, zeroT, lenTk, Nat.reduceAdd, faR_0W, faR_1W, faR_2W, ldR_0W, ldR_1W, ldR_2W, ia, ld, st_Tt, stT_6, zds, i_eqlV, Int.reduceBEq, bdT_00, c0, j2, e2, e4, e0, e5, q1, b6, b1, z0, z1, cv, opA_one78, one78_u8, cw, sa, hq]
      exact finish_T2 _ _ _ _ _ T0 _ _ _ _ _ (by first | (simp only [zfp, ↓reduceIte, Nat.reduceEqDiff, e2]; done) | (simp only [zfp, ↓reduceIte, Nat.reduceEqDiff, e2]; rfl)) (by first | (simp only [zfp, ↓reduceIte, Nat.reduceEqDiff]; done) | (simp only [zfp, ↓reduceIte, Nat.reduceEqDiff]; rfl)) (by first | (simp only [zfp, ↓reduceIte, Nat.reduceEqDiff]; done) | (simp only [zfp, ↓reduceIte, Nat.reduceEqDiff]; rfl)) rfl
    · rw [if_neg (by omega)] at hmk ⊢
      simp only [simB, zbo, Nat.reduceBEq, own0, ↓reduceIte, Nat.reduceEqDiff, Nat.reduceAdd, env0, List.getElem?_cons_zero, List.getElem?_cons_succ, zdv, zdw, zdx, zdy, zdz, zea, zeb, zec, ia22, ld31, zed, zee, zef, zeg, zeh, zei, zej, zek, zel, zem, zen, zeo, zep, zeq, zer, fa_0, fa_1, zes, bd_0, bd_2, zet, fd_1, zeu, Nat.zero_add, zev, List.toList_toArray, len9, ix9, zew, zex, zey, zez, zfa, zeroT, lenTk, Nat.reduceAdd, faR_0W, faR_1W, faR_2W, ldR_0W, ldR_1W, ldR_2W, ia, ld, st_Tt, stT_6, zds, i_eqlV, Int.reduceBEq, bdT_00, c0, j2, e2, e4, e0, e5, q1, b6, b1, z0, z1, cv, opA_one78, one78_u8, cw, sa, hq, f5]
      rw [hmk]
      exact ih (i + 1, s ++ u) _ _ (by omega) rfl ⟨(by first | (simp only [zfp, ↓reduceIte, Nat.reduceEqDiff, e2]; done) | (simp only [zfp, ↓reduceIte, Nat.reduceEqDiff, e2]; rfl)), (by first | (simp only [zfp, ↓reduceIte, Nat.reduceEqDiff]; done) | (simp only [zfp, ↓reduceIte, Nat.reduceEqDiff]; rfl)), (by first | (simp only [zfp, ↓reduceIte, Nat.reduceEqDiff, e0]; done) | (simp only [zfp, ↓reduceIte, Nat.reduceEqDiff, e0]; rfl)), (by first | (simp only [zfp, ↓reduceIte, Nat.reduceEqDiff]; done) | (simp only [zfp, ↓reduceIte, Nat.reduceEqDiff]; rfl)), (by first | (simp only [zfp, ↓reduceIte, Nat.reduceEqDiff, j2]; done) | (simp only [zfp, ↓reduceIte, Nat.reduceEqDiff, j2]; rfl)), by omega, by simp only; omega, by rw [hdr2]; exact hmk⟩
end Go.Ab

/- The run of BifAll and BifCalls (CFG4); relictlaw00.Terms. Conditions: lengths in range. -/
namespace Go.Ab
open Go.Proofs
set_option maxRecDepth 100000
set_option linter.unusedSimpArgs false

def three4 : List Arg → Bool
  | [_, _, .tree (.sl _ 3 _)] => true
  | [_, .tree (.sl _ 3 _)] => true
  | _ => false
/-- What is run here; relictlaw00.Term is run by the run of its own, all else as ever. -/
def run4 (f : FuncId) (xs : List Arg) : Bool := f == 5 || f == 3 || f == 9 || f == 64 || ((f == 8 || f == 34) && three4 xs)
noncomputable def prim4 (f : FuncId) (xs : List Arg) : Option Out := match run4 f xs with
  | true => none
  | false => match f == 21 with
    | true => evalFn Tryz.prog cfg3 9223372036854775808 6190 f xs
    | false => evalFn Tryz.prog cfg0 9223372036854775808 6190 f xs
noncomputable def cfg4 : Cfg := ⟨fun _ _ => false, fun f => f == 64, prim4, fun p => p == "slices.go:362" || p == "#bif.go:203"⟩
theorem own4 (p : String) : cfg4.ownAt p = (p == "slices.go:362" || p == "#bif.go:203") := rfl
theorem keep4 (f : FuncId) : cfg4.keep f = (f == 64) := rfl
theorem ev4 {n d : Nat} {f : FuncId} {xs : List Arg} {o : Out} (h1 : run4 f xs = false) (h2 : (f == 21) = false) (h : evalFn Tryz.prog cfg0 9223372036854775808 6190 f xs = some o) : evalFn Tryz.prog cfg4 n (d+1) f xs = some o := by
  have hc : cfg4.prim = prim4 := rfl
  have hp : prim4 f xs = some o := by unfold prim4; rw [h1]; dsimp only; rw [h2]; exact h
  rw [evalFn]
  simp only [hc, hp]
theorem term4_eq (n d : Nat) (t : T) (h : htT t ≤ 6189) (hf : fewT 100000 t) : evalFn Tryz.prog cfg4 n (d+1) 21 [.tree (encT t)] = some (.tree (encT (copyT t)), [[]]) := by
  have hc : cfg4.prim = prim4 := rfl
  have hp : prim4 21 [.tree (encT t)] = some (.tree (encT (copyT t)), [[]]) := term3_eq 9223372036854775808 (by decide) 6189 t h hf
  rw [evalFn]
  simp only [hc, hp]
theorem finish_KtW (k : Bool) (xs : List Arg) (t d : Nat) (x : AV) (us : List T) (env : Env) (s : St) (os : List (List AV)) (hk : k = false) (hv : env t = x) (hA : Ap s d x us) (ho : outsA s 0 xs = some os) :
    finishP Tryz.prog k xs #[.tmp t] env s = some (.tree (.sl (cellsK us) us.length (gr (kgOf us))), os) := by
  subst hk
  rw [finishP_t1]
  rcases hA with ⟨rfl, rfl⟩ | ⟨hu, tt, rfl, _⟩
  · simp [finish, finish1, hv, settle, ho, kgOf, gr, cellsK]
  · simp [finish, finish1, hv, ho, kgOf, hu, gr]
theorem one26_c4 (call : FuncId → List Arg → Option Out) (q : Bool) (d : Option Tmp) (ty : TypeId) (pos : String) (af : Array Edge) (g : Option (Nat × Bool)) (t : Nat) (env : Env) (s : St) (x : Operand) :
    opA Tryz.prog cfg4 call q ⟨d, .buildSlice 22 1 #[(0, x)], ty, pos, af, g⟩ t env s = (one26 (ev env x)).map (·, s) := by
  rw [opA_bs]
  simp only [tkTk, eszT, zeroT, Option.bind_some, List.map_cons, List.map_nil]
  rfl
set_option maxHeartbeats 16000000 in
theorem terms4_eq (n d : Nat) (us : List T) (g : Grip) (hn : us.length < n) (hl : us.length ≤ 100000) (hu : ∀ t ∈ us, htT t ≤ 6189 ∧ fewT 100000 t) : evalFn Tryz.prog cfg4 n (d+2) 9 [.tree (.sl (cellsK us) us.length g)] = some (.tree (.sl (cellsK (copyK us)) (copyK us).length (gr (kgOf (copyK us)))), [[]]) := by
  rw [copyK_map]
  rw [evalFn_go _ Tryz.func9 (by unfold Tryz.f9; rfl) (by unfold Tryz.f9; decide) (Nat.le_of_ble_eq_true (by unfold Tryz.f9; rfl)) (by kernel_rfl)]
  simp only [simB, keep4, Nat.reduceBEq, own4, String.reduceAppend, String.reduceBEq, Bool.or_false, Bool.or_true, Bool.or_self, ↓reduceIte, Nat.reduceEqDiff, Nat.reduceAdd, env0, List.getElem?_cons_zero, List.getElem?_cons_succ, zdv, zdw, zdx, zdy, zdz, zea, zeb, zec, ia22, ld31, zed, zee, zef, zeg, zeh, zei, zej, zek, zel, zem, zen, zeo, zep, zeq, zer, fa_0, fa_1, zes, bd_0, bd_2, zet, fd_1, zeu, Nat.zero_add, den_loop]
  refine loop_ends (X := Nat) (fun i env s => env 0 = .sl (cellsK us) us.length g ∧ env 4 = .int .i64 (i : Int) ∧ Ap s 18 (env 3) ((us.take i).map copyT) ∧ i ≤ us.length) (fun i => us.length - i) (fun _ => (.tree (.sl (cellsK (us.map copyT)) (us.map copyT).length (gr (kgOf (us.map copyT)))), [[]])) ?_ n 0 _ _ (by omega) ⟨(by first | (simp only [zfp, ↓reduceIte, Nat.reduceEqDiff, env0, List.getElem?_cons_zero]; done) | (simp only [zfp, ↓reduceIte, Nat.reduceEqDiff, env0, List.getElem?_cons_zero]; rfl)), (by first | (simp only [zfp, ↓reduceIte, Nat.reduceEqDiff]; done) | (simp only [zfp, ↓reduceIte, Nat.reduceEqDiff]; rfl)), .inl ⟨rfl, (by first | (simp only [zfp, ↓reduceIte, Nat.reduceEqDiff]; done) | (simp only [zfp, ↓reduceIte, Nat.reduceEqDiff]; rfl))⟩, Nat.zero_le _⟩
  rintro rd i hrd ih env st ⟨e0, e4, ap, hi⟩
  generalize h3 : env 3 = x3 at ap
  cases hdr : us.drop i with
  | nil =>
    have hil : i = us.length := by have := congrArg List.length hdr; simp only [List.length_drop, List.length_nil] at this; omega
    subst hil
    rw [List.take_length] at ap
    have q1 : ¬ ((us.length : Int) < (us.length : Int)) := by omega
    simp only [simB, keep4, Nat.reduceBEq, own4, String.reduceAppend, String.reduceBEq, Bool.or_false, Bool.or_true, Bool.or_self, ↓reduceIte, Nat.reduceEqDiff, Nat.reduceAdd, zdv, zdw, zdx, zdy, zdz, zea, zeb, zec, ia22, ld31, zed, zee, zef, zeg, zeh, zei, zej, zek, zel, zem, zen, zeo, zep, zeq, zer, fa_0, fa_1, zes, bd_0, bd_2, zet, fd_1, zeu, Nat.zero_add, e0, e4, h3, lenTk, q1]
    exact finish_KtW _ _ _ 18 x3 _ _ _ _ rfl (by first | (simp only [zfp, ↓reduceIte, Nat.reduceEqDiff]; done) | (simp only [zfp, ↓reduceIte, Nat.reduceEqDiff]; rfl)) ap rfl
  | cons t r =>
    have hil : i < us.length := by have := congrArg List.length hdr; simp only [List.length_drop, List.length_cons] at this; omega
    have q1 : (i : Int) < (us.length : Int) := by omega
    have hx : us[i]? = some t := by rw [← Nat.add_zero i, ← List.getElem?_drop, hdr]; rfl
    obtain ⟨hh, hf⟩ := hu t (List.mem_of_getElem? hx)
    have ck := fun D st => callA_trees (cfg := cfg4) (d := D) (s := st) (f := 21) (vs := [encT t]) rfl (term4_eq n d t hh hf)
    have ia := fun st => ia_K st us g i hil
    rw [hdr] at ia
    have ld := fun st => ld_KW st t r
    have hm : (us.take (i + 1)).map copyT = (us.take i).map copyT ++ [copyT t] := by
      rw [List.take_add_one, hx, List.map_append]; rfl
    have hlen : ((us.take i).map copyT).length ≤ 1000000 := by rw [List.length_map, List.length_take]; omega
    obtain ⟨x', s', a1', a2', a3'⟩ := ap.push hlen (copyT t)
    have f5 := i_add Tryz.prog 3 (i : Int) 1 (by omega) (by omega)
    simp only [encT] at ck
    simp only [simB, keep4, Nat.reduceBEq, own4, String.reduceAppend, String.reduceBEq, Bool.or_false, Bool.or_true, Bool.or_self, ↓reduceIte, Nat.reduceEqDiff, Nat.reduceAdd, zdv, zdw, zdx, zdy, zdz, zea, zeb, zec, ia22, ld31, zed, zee, zef, zeg, zeh, zei, zej, zek, zel, zem, zen, zeo, zep, zeq, zer, fa_0, fa_1, zes, bd_0, bd_2, zet, fd_1, zeu, Nat.zero_add, e0, e4, h3, lenTk, q1, ia, ld, ck, one26_c4, one26_KU, a1', f5]
    refine ih (i + 1) _ _ (by omega) rfl ⟨(by first | (simp only [zfp, ↓reduceIte, Nat.reduceEqDiff, e0]; done) | (simp only [zfp, ↓reduceIte, Nat.reduceEqDiff, e0]; rfl)), (by first | (simp only [zfp, ↓reduceIte, Nat.reduceEqDiff]; done) | (simp only [zfp, ↓reduceIte, Nat.reduceEqDiff]; rfl)), ?_, by omega⟩
    rw [hm]
    rcases a2' with ⟨g1, _⟩ | ⟨g1, tt, g2, g3⟩
    · exact absurd g1 (by simp)
    · exact .inr ⟨g1, tt, (by first | (simp only [zfp, ↓reduceIte, Nat.reduceEqDiff, g2]; done) | (simp only [zfp, ↓reduceIte, Nat.reduceEqDiff, g2]; rfl)), g3⟩
end Go.Ab

/- What BifAll compares, term by term. Conditions: terms that are few. -/
namespace Go.Ab
open Go.Proofs
set_option maxRecDepth 100000
set_option linter.unusedSimpArgs false

mutual
theorem nod_copy : ∀ t : T, nodT (copyT t) = nodT t
  | .mk k b lg l s n kg ks => by simp only [copyT, nodT, nodK_copy ks]
theorem nodK_copy : ∀ ks : List T, nodK (copyK ks) = nodK ks
  | [] => rfl
  | t :: r => by simp only [copyK, nodK, nod_copy t, nodK_copy r]
end
theorem lim_copy (t : T) : limT (copyT t) = limT t := by obtain ⟨k, b, lg, l, s, m, kg, ks⟩ := t; rfl
theorem str_copy (t : T) : strT (copyT t) = strT t := by obtain ⟨k, b, lg, l, s, m, kg, ks⟩ := t; rfl
theorem kids_copy (t : T) : kidsT (copyT t) = copyK (kidsT t) := by obtain ⟨k, b, lg, l, s, m, kg, ks⟩ := t; rfl
theorem copyK_len (ks : List T) : (copyK ks).length = ks.length := by rw [copyK_map, List.length_map]
mutual
theorem few_copy (m : Nat) : ∀ t : T, fewT m t → fewT m (copyT t)
  | .mk k b lg l s n kg ks, h => by
    simp only [fewT] at h
    simp only [copyT, fewT, copyK_len]
    exact ⟨h.1, h.2.1, fewK_copy m ks h.2.2⟩
theorem fewK_copy (m : Nat) : ∀ ks : List T, fewK m ks → fewK m (copyK ks)
  | [], _ => by simp only [copyK, fewK]
  | t :: r, h => by
    simp only [fewK] at h
    simp only [copyK, fewK]
    exact ⟨few_copy m t h.1, fewK_copy m r h.2⟩
end
def okX (u : T) : Prop := fewT 100000 u ∧ htT u ≤ 2000
theorem okX_leaf (k : Int) (b : Bool) (g : Gk) (l : List Nat) (s : List UInt8) (n : Int) (h : l.length < 100000) : okX (.mk k b g l s n .n []) := by
  refine ⟨?_, ?_⟩
  · simp only [fewT, fewK, List.length_nil]; exact ⟨h, by omega, trivial⟩
  · simp only [htT, htK]; omega
theorem okX_0 : okX T0 := okX_leaf _ _ _ _ _ _ (by simp)
theorem kid_ok : ∀ (ks : List T) (i : Nat), fewK 100000 ks → htK ks ≤ 1999 → okX (ks.getD i T0)
  | [], i, _, _ => okX_0
  | t :: r, 0, h, h2 => by
    simp only [fewK] at h
    simp only [htK] at h2
    exact ⟨h.1, by show htT t ≤ 2000; omega⟩
  | t :: r, i + 1, h, h2 => by
    simp only [fewK] at h
    simp only [htK] at h2
    have := kid_ok r i h.2 (by omega)
    simpa using this
theorem kids_few (t : T) (h : fewT 100000 t) (hn : nodT t ≤ 1999) : fewK 100000 (kidsT t) ∧ htK (kidsT t) ≤ 1999 := by
  obtain ⟨k, b, lg, l, s, m, kg, ks⟩ := t
  simp only [fewT] at h
  simp only [nodT] at hn
  have := htK_nod ks
  exact ⟨h.2.2, by show htK ks ≤ 1999; omega⟩
theorem digs12 (z : Int) (h : z.natAbs < B ^ 12) : (digs z.natAbs).length < 100000 := by
  have := (digs_len_le z.natAbs 12).2 h
  omega
theorem arith_ok (g : Gk) (op : Int) (a b : T) : okX (arithT g op a b).1 := by
  by_cases h : kindT a = 1 ∧ kindT b = 1 ∧ (resA2 op a b).2 = true
  · rw [arith_yes g op a b (resA2 op a b).1 h.1 h.2.1 (by rw [← h.2.2])]
    exact okX_leaf _ _ _ _ _ _ (digs12 _ (opR_lt _ _ _))
  · rw [arith_no g op a b h]; exact okX_0
theorem small_ok (v : Int) (h : I64 v) : okX (smallT v) := okX_leaf _ _ _ _ _ _ (digs12 v (Nat.lt_of_lt_of_le (show v.natAbs < 18446744073709551616 by have := h.1; have := h.2; omega) (by decide)))
theorem one_ok (op : Int) (t : T) (hf : fewT 100000 t) (hn : nodT t ≤ 1999) (hs : (strT t).length ≤ 1000000) : okX (oneT smallT op t).1 := by
  have hk := kids_few t hf hn
  have hkl : (kidsT t).length ≤ 1000000 := by
    obtain ⟨k, b, lg, l, s, m, kg, ks⟩ := t
    simp only [fewT] at hf
    show ks.length ≤ 1000000
    omega
  by_cases q1 : (op = 1 ∨ op = 2) ∧ kindT t = 4 ∧ (kidsT t).length = 2
  · rw [one_12 smallT op t _ q1.1 q1.2.1 q1.2.2 rfl]; exact kid_ok _ _ hk.1 hk.2
  by_cases q2 : op = 3 ∧ kindT t = 5
  · obtain ⟨rfl, q2⟩ := q2
    rw [one_3 smallT t q2]; exact small_ok _ ⟨by omega, by omega⟩
  by_cases q3 : op = 4 ∧ kindT t = 6
  · obtain ⟨rfl, q3⟩ := q3
    rw [one_4 smallT t q3]; exact small_ok _ ⟨by omega, by omega⟩
  by_cases q4 : op = 5
  · subst q4
    cases h1 : itemsT t with
    | none => rw [one_no smallT 5 t q1 q2 q3 (.inr h1)]; exact okX_0
    | some u =>
      have := items_len t u h1
      rw [one_5 smallT t u h1]; exact small_ok _ ⟨by omega, by omega⟩
  · rw [one_no smallT op t q1 q2 q3 (.inl q4)]; exact okX_0
theorem two_ok (op : Int) (a b : T) (hf : fewT 100000 b) (hn : nodT b ≤ 1999) : okX (twoT op a b).1 := by
  have hk := kids_few b hf hn
  by_cases h : op = 1 ∧ PlaceP a b
  · rw [two_yes _ _ _ h]; exact kid_ok _ _ hk.1 hk.2
  · rw [two_no _ _ _ h]; exact okX_0
theorem make_ok : ∀ (us : List T) (s : List UInt8), okX (makeT us s).1
  | [], s => okX_leaf _ _ _ _ _ _ (by simp)
  | t :: r, s => by
    cases h : addT t with
    | none => rw [make_none t r s h]; exact okX_0
    | some u =>
      rw [make_some t r s u h]
      split
      · exact okX_0
      · exact make_ok r _
/-- Two answers that are compared: the same flag, terms that are the same. -/
structure PairX (F G : FuncId) (n : Nat) (xs ys : List AV) (x y : T) (o : Bool) : Prop where
  p : evalFn Tryz.prog cfg0 9223372036854775808 6190 F (xs.map .tree) = some (.tree (.tup [encT x, .bool o]), xs.map fun _ => [])
  q : evalFn Tryz.prog cfg0 9223372036854775808 6190 G (ys.map .tree) = some (.tree (.tup [encT y, .bool o]), ys.map fun _ => [])
  ok : okX x
  same : bareT x = bareT y
theorem pair_arith (op : Int) (a b : T) (la : Limbs (limT a)) (lb : Limbs (limT b)) : ∃ x y o, PairX 20 22 0 [.int .i64 op, encT (copyT a), encT (copyT b)] [.int .i64 op, encT a, encT b] x y o := by
  obtain ⟨g, hr⟩ := rarith_eq 9223372036854775808 6182 (by decide) op a b la lb
  have hp := arith_eq 9223372036854775808 6182 (by decide) op (copyT a) (copyT b) (by rw [lim_copy]; exact la) (by rw [lim_copy]; exact lb)
  have hres : ∀ g, arithT g op (copyT a) (copyT b) = arithT g op a b := fun g => by
    obtain ⟨k, b1, lg, l, s, m, kg, ks⟩ := a
    obtain ⟨k', b2, lg', l', s', m', kg', ks'⟩ := b
    rfl
  rw [hres] at hp
  obtain ⟨e1, e2⟩ := bare_arith (numG (resA2 op (copyT a) (copyT b)).1) g op a b
  refine ⟨_, _, _, hp, ?_, arith_ok _ op a b, e1⟩
  rw [e2]; exact hr
theorem pair_one (op : Int) (a : T) (hf : fewT 100000 a) (hn : nodT a ≤ 1999) (hs : (strT a).length ≤ 1000000) : ∃ x y o, PairX 23 24 0 [.int .i64 op, encT (copyT a)] [.int .i64 op, encT a] x y o := by
  have hkl : (kidsT a).length ≤ 1000000 := by
    obtain ⟨k, b, lg, l, s, m, kg, ks⟩ := a
    simp only [fewT] at hf
    show ks.length ≤ 1000000
    omega
  have hr := roneA_eq 9223372036854775808 6184 (by decide) op a hn hkl hs
  have hp := oneA_eq 9223372036854775808 6184 (by decide) op (copyT a) (by rw [nod_copy]; exact hn) (by rw [kids_copy, copyK_len]; exact hkl) (by rw [str_copy]; exact hs)
  obtain ⟨e1, e2⟩ := bare_one op (copyT a) a (bare_copy a)
  refine ⟨_, _, _, hp, ?_, one_ok op (copyT a) (few_copy _ _ hf) (by rw [nod_copy]; exact hn) (by rw [str_copy]; exact hs), e1⟩
  rw [e2]; exact hr
theorem pair_two (op : Int) (a b : T) (la : Limbs (limT a)) (hf : fewT 100000 b) (hn : nodT b ≤ 1999) : ∃ x y o, PairX 25 26 0 [.int .i64 op, encT (copyT a), encT (copyT b)] [.int .i64 op, encT a, encT b] x y o := by
  have hr := rtwoA_eq 9223372036854775808 6185 (by decide) op a b la
  have hp := twoA_eq 9223372036854775808 6185 (by decide) op (copyT a) (copyT b) (by rw [lim_copy]; exact la)
  obtain ⟨e1, e2⟩ := bare_two op (copyT a) (copyT b) a b (bare_copy a) (bare_copy b)
  refine ⟨_, _, _, hp, ?_, two_ok op (copyT a) (copyT b) (few_copy _ _ hf) (by rw [nod_copy]; exact hn), e1⟩
  rw [e2]; exact hr
theorem pair_make (us : List T) (hu : us.length ≤ 1000) (hs : ∀ t ∈ us, Limbs (limT t) ∧ (strT t).length ≤ 1000000) : ∃ x y o, PairX 27 28 0 [.sl (cellsK (copyK us)) (copyK us).length (gr (kgOf (copyK us)))] [.sl (cellsK us) us.length .loose] x y o := by
  have hr := rmakeA_eq 9223372036854775808 6186 (by decide) us .loose hu hs
  have hp := makeA_eq 9223372036854775808 6186 (by decide) (copyK us) (gr (kgOf (copyK us))) (by rw [copyK_len]; exact hu) (fun t ht => by
    rw [copyK_map] at ht
    obtain ⟨t', ht', rfl⟩ := List.mem_map.1 ht
    rw [lim_copy, str_copy]; exact hs t' ht')
  have e := make_bare (copyK us) us [] (bareK_copy us)
  refine ⟨_, _, _, hp, ?_, make_ok _ _, rfl⟩
  rw [e]; exact hr
theorem ratom_eq (n d : Nat) (s : List UInt8) : evalFn Tryz.prog cfg0 n (d+1) 30 [.tree (.str s)] = some (.tree (encT (atomT s)), [[]]) := by
  rw [evalFn_go _ Tryz.func30 (by unfold Tryz.f30; rfl) (by unfold Tryz.f30; decide) (Nat.le_of_ble_eq_true (by unfold Tryz.f30; rfl)) (by kernel_rfl)]
  simp only [simB, zbo, Nat.reduceBEq, own0, ↓reduceIte, Nat.reduceEqDiff, Nat.reduceAdd, env0, List.getElem?_cons_zero, List.getElem?_cons_succ, zdv, zdw, zdx, zdy, zdz, zea, zeb, zec, ia22, ld31, zed, zee, zef, zeg, zeh, zei, zej, zek, zel, zem, zen, zeo, zep, zeq, zer, fa_0, fa_1, zes, bd_0, bd_2, zet, fd_1, zeu, Nat.zero_add, zeroT, bdT_at, st_Tt, stT_6]
  exact finish_cT _ _ _ _ _ (atomT s) _ _ _ (by first | (simp only [zfp, ↓reduceIte, Nat.reduceEqDiff]; done) | (simp only [zfp, ↓reduceIte, Nat.reduceEqDiff]; rfl)) (by first | (simp only [zfp, ↓reduceIte, Nat.reduceEqDiff]; done) | (simp only [zfp, ↓reduceIte, Nat.reduceEqDiff]; rfl)) rfl
end Go.Ab

/- The statement NumBits, abstractly. Conditions: limbs in range. -/
namespace Go.Ab
open Go.Proofs
set_option maxRecDepth 100000
set_option linter.unusedSimpArgs false

section
variable {P : Program} {cfg : Cfg} {call : FuncId → List Arg → Option Out}
/-- A call of a function that a variable holds, in a region that draws its order. -/
def callVQ (call : FuncId → List Arg → Option Out) (vs : List AV) : AV → Option AV
  | .fn f caps => callQ call f (vs ++ caps)
  | _ => none
@[congr] theorem callVQ_congr {vs vs' : List AV} {v v' : AV} (h : v = v') (h2 : vs = vs') : callVQ call vs v = callVQ call vs' v' := by rw [h, h2]
theorem callVQ_fn (vs : List AV) (f : FuncId) : callVQ call vs (.fn f []) = callQ call f (vs ++ []) := rfl
theorem opA_callvq (x : Tmp) (xs : Array Operand) (us : Array TypeId) {d : Option Tmp} {ty : TypeId} {pos : String} {af : Array Edge} {g : Option (Nat × Bool)} {t : Nat} {env : Env} {s : St} :
    opA P cfg call true ⟨d, .call ⟨.value (.tmp x), xs, us⟩, ty, pos, af, g⟩ t env s = (callVQ call (xs.toList.map (ev env)) (env x)).map (·, s) := by
  have hfr : freshD cfg.keep ⟨d, .call ⟨.value (.tmp x), xs, us⟩, ty, pos, af, g⟩ = none := zbh _ _ _
  simp only [opA, ev, hfr]
  cases env x <;> rfl
end
end Go.Ab

/- The statement BifAll (CFG4). Conditions: terms; limbs, texts in range. -/
namespace Go.Ab
open Go.Proofs
set_option maxRecDepth 100000
set_option linter.unusedSimpArgs false

theorem duo26_c4 (call : FuncId → List Arg → Option Out) (q : Bool) (d : Option Tmp) (ty : TypeId) (pos : String) (af : Array Edge) (g : Option (Nat × Bool)) (t : Nat) (env : Env) (s : St) (x y : Operand) :
    opA Tryz.prog cfg4 call q ⟨d, .buildSlice 22 2 #[(0, x), (1, y)], ty, pos, af, g⟩ t env s = (duo26 (ev env x) (ev env y)).map (·, s) := by
  rw [opA_bs]
  simp only [tkTk, eszT, zeroT, Option.bind_some, List.map_cons, List.map_nil]
  rfl
theorem awake4 (n d : Nat) : evalFn Tryz.prog cfg4 n (d+1) 7 [] = some (.tree (.bool true), []) := ev4 rfl rfl (evalFn_mono (by decide) 60 6190 (by decide) _ _ _ awakeB_eq)
theorem few4 (n d : Nat) (us : List T) (g : Grip) (hb : bigK 9223372036854775808 us) (hf : fewK 9223372036854775808 us) : evalFn Tryz.prog cfg4 n (d+1) 6 [.tree (.sl (cellsK us) us.length g)] = some (.tree (.bool (fewR 12 us && decide (us.length ≤ 12))), [[]]) := ev4 rfl rfl (fewB_eq 9223372036854775808 6189 (by decide) (by decide) (by decide) us g hb hf)
theorem same4 (n d : Nat) (x y : T) (h : okX x) (hb : bareT x = bareT y) : evalFn Tryz.prog cfg4 n (d+1) 11 [.tree (encT x), .tree (encT y)] = some (.tree (.bool true), [[], []]) := ev4 rfl rfl (sameX_eq 9223372036854775808 (by decide) 6188 x y (by have := h.2; omega) h.1 hb)
theorem atom4 (n d : Nat) (s : List UInt8) : evalFn Tryz.prog cfg4 n (d+1) 29 [.tree (.str s)] = some (.tree (encT (atomT s)), [[]]) := ev4 rfl rfl (atom_eq 9223372036854775808 6189 s)
theorem ratom4 (n d : Nat) (s : List UInt8) : evalFn Tryz.prog cfg4 n (d+1) 30 [.tree (.str s)] = some (.tree (encT (atomT s)), [[]]) := ev4 rfl rfl (ratom_eq 9223372036854775808 6189 s)
/-- What is known of a term that is few. -/
structure FewX (t : T) : Prop where
  few : fewT 100000 t
  nod : nodT t ≤ 100
  lim : Limbs (limT t)
  str : (strT t).length ≤ 1000000
theorem fewX_of (t : T) (hb : bigT 9223372036854775808 t) (h : lgT t 100 ≥ 0) : FewX t := by
  have h2 := lgT_ok t 100 h
  have h3 : nodT t ≤ 100 := by omega
  refine ⟨fewT_le (by decide) t (few_node 100 t h2.1 h3 (by decide)), h3, ?_, ?_⟩
  · obtain ⟨k, b, lg, l, s, m, kg, ks⟩ := t
    simp only [bigT] at hb
    exact hb.1
  · obtain ⟨k, b, lg, l, s, m, kg, ks⟩ := t
    have := h2.1
    simp only [leanT] at this
    show s.length ≤ 1000000
    omega
theorem bigK_mem (R : Nat) : ∀ (ks : List T), bigK R ks → ∀ t ∈ ks, bigT R t
  | [], _, t, h => by cases h
  | a :: r, h, t, ht => by
    simp only [bigK] at h
    rcases List.mem_cons.1 ht with rfl | ht
    · exact h.1
    · exact bigK_mem R r h.2 t ht
theorem tk4W : tkOf Tryz.prog 4 = .bool := by kernel_rfl
set_option maxHeartbeats 64000000 in
theorem all_B (n : Nat) (hn : 100 ≤ n) (op : Int) (a b : T) (l : List T) (ha : bigT 9223372036854775808 a) (hb : bigT 9223372036854775808 b) (hl : bigK 9223372036854775808 l) (fa : fewT 9223372036854775808 a) (fb : fewT 9223372036854775808 b) (fl : fewK 9223372036854775808 l) :
    evalFn Tryz.prog cfg4 n 10 5 [.tree (.int .i64 op), .tree (encT a), .tree (encT b), .tree (.sl (cellsK l) l.length .loose)] = some (.tree (.bool true), [[], [], [], []]) := by
  rw [evalFn_go _ Tryz.func5 (by unfold Tryz.f5; rfl) (by unfold Tryz.f5; decide) (Nat.le_of_ble_eq_true (by unfold Tryz.f5; rfl)) (by kernel_rfl)]
  have wa := fun D st => callA_trees (cfg := cfg4) (d := D) (s := st) (f := 7) (vs := []) rfl (awake4 n 8)
  have waq := callQ_trees (f := 7) (vs := []) rfl (awake4 n 8)
  have k3 := fun D st => callA_trees (cfg := cfg4) (d := D) (s := st) (f := 6) (vs := [.sl (cellsK l) l.length .loose]) rfl (few4 n 8 l .loose hl fl)
  have k4 := fun D st => callA_trees (cfg := cfg4) (d := D) (s := st) (f := 6) (vs := [.sl (cellsK [a, b]) 2 .tight]) rfl (few4 n 8 [a, b] .tight (by simp only [bigK]; exact ⟨ha, hb, trivial⟩) (by simp only [fewK]; exact ⟨fa, fb, trivial⟩))
  cases g3 : (fewR 12 l && decide (l.length ≤ 12)) with
  | false =>
    rw [g3] at k3
    simp only [simB, keep4, Nat.reduceBEq, own4, String.reduceAppend, String.reduceBEq, Bool.or_false, Bool.or_true, Bool.or_self, ↓reduceIte, Nat.reduceEqDiff, Nat.reduceAdd, env0, List.getElem?_cons_zero, List.getElem?_cons_succ, zdv, zdw, zdx, zdy, zdz, zea, zeb, zec, ia22, ld31, zed, zee, zef, zeg, zeh, zei, zej, zek, zel, zem, zen, zeo, zep, zeq, zer, fa_0, fa_1, zes, bd_0, bd_2, zet, fd_1, zeu, Nat.zero_add, encT, ldT_u, k3, unA_not', Bool.not_true, Bool.not_false, wa]
    exact finish_b _ _ _ _ _ _ _ (by first | (simp only [zfp, ↓reduceIte, Nat.reduceEqDiff]; done) | (simp only [zfp, ↓reduceIte, Nat.reduceEqDiff]; rfl)) rfl
  | true =>
  rw [g3] at k3
  cases g4 : (fewR 12 [a, b] && decide ([a, b].length ≤ 12)) with
  | false =>
    rw [g4] at k4
    simp only [simB, keep4, Nat.reduceBEq, own4, String.reduceAppend, String.reduceBEq, Bool.or_false, Bool.or_true, Bool.or_self, ↓reduceIte, Nat.reduceEqDiff, Nat.reduceAdd, env0, List.getElem?_cons_zero, List.getElem?_cons_succ, zdv, zdw, zdx, zdy, zdz, zea, zeb, zec, ia22, ld31, zed, zee, zef, zeg, zeh, zei, zej, zek, zel, zem, zen, zeo, zep, zeq, zer, fa_0, fa_1, zes, bd_0, bd_2, zet, fd_1, zeu, Nat.zero_add, encT, ldT_u, k3, duo26_c4, duo26_T, k4, unA_not', Bool.not_true, Bool.not_false, wa]
    exact finish_b _ _ _ _ _ _ _ (by first | (simp only [zfp, ↓reduceIte, Nat.reduceEqDiff]; done) | (simp only [zfp, ↓reduceIte, Nat.reduceEqDiff]; rfl)) rfl
  | true =>
  rw [g4] at k4
  rw [Bool.and_eq_true, decide_eq_true_eq] at g3 g4
  have la := fewR_all 12 l g3.1 g3.2
  have lab := fewR_all 12 [a, b] g4.1 g4.2
  have xa := fewX_of a ha (lab a (by simp))
  have xb := fewX_of b hb (lab b (by simp))
  have xl : ∀ t ∈ l, FewX t := fun t ht => fewX_of t (bigK_mem _ l hl t ht) (la t ht)
  have hta : htT a ≤ 6189 := by have := ht_nod a; have := xa.nod; omega
  have htb : htT b ≤ 6189 := by have := ht_nod b; have := xb.nod; omega
  have ca := callQ_trees (f := 21) (vs := [encT a]) rfl (term4_eq n 8 a hta xa.few)
  have cb := callQ_trees (f := 21) (vs := [encT b]) rfl (term4_eq n 8 b htb xb.few)
  have cl := fun D st => callA_trees (cfg := cfg4) (d := D) (s := st) (f := 9) (vs := [.sl (cellsK l) l.length .loose]) rfl (terms4_eq n 7 l .loose (by omega) (by omega) (fun t ht => ⟨by have := ht_nod t; have := (xl t ht).nod; omega, (xl t ht).few⟩))
  obtain ⟨x1, y1, o1, p1⟩ := pair_arith op a b xa.lim xb.lim
  obtain ⟨x2, y2, o2, p2⟩ := pair_one op a xa.few (by have := xa.nod; omega) xa.str
  obtain ⟨x3, y3, o3, p3⟩ := pair_two op a b xa.lim xb.few (by have := xb.nod; omega)
  obtain ⟨x4, y4, o4, p4⟩ := pair_make l (by omega) (fun t ht => ⟨(xl t ht).lim, (xl t ht).str⟩)
  have q1 := callQ_trees (f := 20) (vs := [.int .i64 op, encT (copyT a), encT (copyT b)]) rfl (ev4 (n := n) (d := 8) rfl rfl p1.p)
  have r1 := fun D st => callA_trees (cfg := cfg4) (d := D) (s := st) (f := 22) (vs := [.int .i64 op, encT a, encT b]) rfl (ev4 (n := n) (d := 8) rfl rfl p1.q)
  have q2 := callQ_trees (f := 23) (vs := [.int .i64 op, encT (copyT a)]) rfl (ev4 (n := n) (d := 8) rfl rfl p2.p)
  have q2a := fun D st => callA_trees (cfg := cfg4) (d := D) (s := st) (f := 23) (vs := [.int .i64 op, encT (copyT a)]) rfl (ev4 (n := n) (d := 8) rfl rfl p2.p)
  have caa := fun D st => callA_trees (cfg := cfg4) (d := D) (s := st) (f := 21) (vs := [encT a]) rfl (term4_eq n 8 a hta xa.few)
  have r2 := fun D st => callA_trees (cfg := cfg4) (d := D) (s := st) (f := 24) (vs := [.int .i64 op, encT a]) rfl (ev4 (n := n) (d := 8) rfl rfl p2.q)
  have q3 := callQ_trees (f := 25) (vs := [.int .i64 op, encT (copyT a), encT (copyT b)]) rfl (ev4 (n := n) (d := 8) rfl rfl p3.p)
  have r3 := fun D st => callA_trees (cfg := cfg4) (d := D) (s := st) (f := 26) (vs := [.int .i64 op, encT a, encT b]) rfl (ev4 (n := n) (d := 8) rfl rfl p3.q)
  have hgt : isTree (.sl (cellsK (copyK l)) (copyK l).length (gr (kgOf (copyK l)))) = true := by
    by_cases h : copyK l = []
    · rw [kgOf, if_pos h]; rfl
    · rw [kgOf, if_neg h]; rfl
  have q4 := fun D st => callA_trees (cfg := cfg4) (d := D) (s := st) (f := 27) (vs := [.sl (cellsK (copyK l)) (copyK l).length (gr (kgOf (copyK l)))]) (by simp only [List.all_cons, hgt]; rfl) (ev4 (n := n) (d := 8) rfl rfl p4.p)
  have r4 := fun D st => callA_trees (cfg := cfg4) (d := D) (s := st) (f := 28) (vs := [.sl (cellsK l) l.length .loose]) rfl (ev4 (n := n) (d := 8) rfl rfl p4.q)
  have s1 := callQ_trees (f := 11) (vs := [encT x1, encT y1]) rfl (same4 n 8 x1 y1 p1.ok p1.same)
  have s2 := callQ_trees (f := 11) (vs := [encT x2, encT y2]) rfl (same4 n 8 x2 y2 p2.ok p2.same)
  have s3 := callQ_trees (f := 11) (vs := [encT x3, encT y3]) rfl (same4 n 8 x3 y3 p3.ok p3.same)
  have s4 := callQ_trees (f := 11) (vs := [encT x4, encT y4]) rfl (same4 n 8 x4 y4 p4.ok p4.same)
  have s5 := callQ_trees (f := 11) (vs := [encT (atomT (strT a)), encT (atomT (strT a))]) rfl (same4 n 8 _ _ (okX_leaf _ _ _ _ _ _ (by simp)) rfl)
  have a1 := callQ_trees (f := 29) (vs := [.str (strT a)]) rfl (atom4 n 8 (strT a))
  have a2 := callQ_trees (f := 30) (vs := [.str (strT a)]) rfl (ratom4 n 8 (strT a))
  have eb := bool_eql 4 tk4W
  have b1 : (o1 == o1) = true := beq_self_eq_true _
  have b2 : (o2 == o2) = true := beq_self_eq_true _
  have b3 : (o3 == o3) = true := beq_self_eq_true _
  have b4 : (o4 == o4) = true := beq_self_eq_true _
  simp only [encT] at ca cb caa q1 r1 q2 q2a r2 q3 r3 q4 r4 s1 s2 s3 s4 s5 a1 a2
  simp only [simB, keep4, Nat.reduceBEq, own4, String.reduceAppend, String.reduceBEq, Bool.or_false, Bool.or_true, Bool.or_self, ↓reduceIte, Nat.reduceEqDiff, Nat.reduceAdd, env0, List.getElem?_cons_zero, List.getElem?_cons_succ, zdv, zdw, zdx, zdy, zdz, zea, zeb, zec, ia22, ld31, zed, zee, zef, zeg, zeh, zei, zej, zek, zel, zem, zen, zeo, zep, zeq, zer, fa_0, fa_1, zes, bd_0, bd_2, zet, fd_1, zeu, Nat.zero_add, zfb, zfc, zfd, zfe, zff, zfg, zfh, opA_callvq, callVQ_fn, kill_app, kill_app0, List.append_nil, encT, ldT_u, zeroT, k3, duo26_c4, duo26_T, k4, unA_not', Bool.not_true, ca, cb, caa, cl, q1, r1, q2, q2a, r2, q3, r3, q4, r4, s1, s2, s3, s4, s5, a1, a2, st_Tt, stT_6, zds, eb, b1, b2, b3, b4, faT_2, Nat.reduceAdd, ldT_cSW, waq]
  exact finish_b _ _ _ _ _ _ _ (by first | (simp only [zfp, ↓reduceIte, Nat.reduceEqDiff]; done) | (simp only [zfp, ↓reduceIte, Nat.reduceEqDiff]; rfl)) rfl
end Go.Ab

/- The walk of BifAll (CFG4): it gives true, and leaves memory below as it was. No conditions. -/
namespace Go.Ab
open Go.Proofs Go.RowKit
theorem prim3_ok : FnOk Tryz.prog prim3 := fun f xs r os h => by
  unfold prim3 at h
  split at h
  · cases h
  · exact evalFn_ok mixed prim0_ok 9223372036854775808 6190 f xs r os h
theorem prim4_ok : FnOk Tryz.prog prim4 := fun f xs r os h => by
  unfold prim4 at h
  split at h
  · cases h
  · split at h
    · exact evalFn_ok (cfg := cfg3) mixed prim3_ok 9223372036854775808 6190 f xs r os h
    · exact evalFn_ok mixed prim0_ok 9223372036854775808 6190 f xs r os h
theorem st0_4W (a b c d : AV) : st0 [.tree a, .tree b, .tree c, .tree d] = dead := by
  funext p
  match p with
  | 0 => rfl
  | 1 => rfl
  | 2 => rfl
  | 3 => rfl
  | p + 4 => rfl
theorem walkBAll (op : Int) (v0 v1 : Value) (a2 : Option Addr) (len2 cap2 : Nat) (w : World) (_hop : (Lit.int .i64 op).wf = true) (h0 : IsTerm w v0) (h1 : IsTerm w v1) (h2 : IsTerms w a2 len2 cap2) :
    Calls Tryz.prog 5 #[.int .i64 op, v0, v1, .slice a2 len2 cap2] w fun e w' => e = .returned (.bool true) ∧ Below w.heap.size w w' := by
  obtain ⟨a, a1, a2', a3⟩ := h0
  obtain ⟨b, b1, b2, b3⟩ := h1
  obtain ⟨ks, rfl, hb, hf, hv⟩ := h2
  refine lawCallsP (cfg := cfg4) mixed prim4_ok (vs := [.int .i64 op, v0, v1, .slice a2 ks.length cap2]) (all_B 100 (Nat.le_refl _) op a b ks a1 b1 hb a2' b2 hf) rfl (st0_4W _ _ _ _) (fun j v hj => ?_) true rfl
  match j, hj with
  | 0, hj => cases hj; exact ⟨by simp only [env0, List.getElem?_cons_zero, V0], rfl⟩
  | 1, hj => cases hj; exact ⟨a3, rfl⟩
  | 2, hj => cases hj; exact ⟨b3, rfl⟩
  | 3, hj => cases hj; exact ⟨hv, rfl⟩
end Go.Ab
