/- Several texts put together: AbeZ17, AbeZ18, AbeLawEAll. Conditions: as each part says. -/
import Derived.Test.YticeekdofpdcoaaAbEAllZ09
import Derived.Test.YticeekdofpdcoaaAbEAllZ05
import Derived.Test.YticeekdofpdcoaaAbEAllZ06
/- A copied term is put as the term; what is got is few (CFG5). No conditions. -/
namespace Go.Ab
open Go.Proofs
set_option maxRecDepth 100000
set_option linter.unusedSimpArgs false

mutual
theorem few_leanZ : ∀ t : T, leanT t → nodT t ≤ 99999 → fewT 100000 t
  | .mk k b lg l s m kg ks, h, hn => by
    simp only [leanT] at h
    simp only [nodT] at hn
    have := nodK_len ks
    simp only [fewT]
    exact ⟨by omega, by omega, few_leanK ks h.2.2 (by omega)⟩
theorem few_leanK : ∀ ks : List T, leanK ks → nodK ks ≤ 99999 → fewK 100000 ks
  | [], _, _ => by simp only [fewK]
  | t :: r, h, hn => by
    simp only [leanK] at h
    simp only [nodK] at hn
    simp only [fewK]
    exact ⟨few_leanZ t h.1 (by omega), few_leanK r h.2 (by omega)⟩
end
theorem copyK_len (ks : List T) : (copyK ks).length = ks.length := by rw [copyK_map, List.length_map]
theorem own_copy (t : T) : ownT (copyT t) = ownT t := by
  obtain ⟨k, b, lg, l, s, m, kg, ks⟩ := t
  simp only [copyT, ownT, copyK_len]
mutual
theorem nod_copy : ∀ t : T, nodT (copyT t) = nodT t
  | .mk k b lg l s m kg ks => by simp only [copyT, nodT, nodK_copy ks]
theorem nodK_copy : ∀ ks : List T, nodK (copyK ks) = nodK ks
  | [] => rfl
  | t :: r => by simp only [copyK, nodK, nod_copy t, nodK_copy r]
end
mutual
theorem wf_copy : ∀ t : T, wfT t → wfT (copyT t)
  | .mk k b lg l s m kg ks, h => by
    simp only [wfT] at h
    simp only [copyT, wfT]
    exact ⟨h.1, wfK_copy ks h.2⟩
theorem wfK_copy : ∀ ks : List T, wfK ks → wfK (copyK ks)
  | [], _ => by simp only [copyK, wfK]
  | t :: r, h => by
    simp only [wfK] at h
    simp only [copyK, wfK]
    exact ⟨wf_copy t h.1, wfK_copy r h.2⟩
end
mutual
theorem okD_copy : ∀ (t : T) (d : Int), okD (copyT t) d ↔ okD t d
  | .mk k b lg l s m kg ks, d => by
    have ho := own_copy (.mk k b lg l s m kg ks)
    simp only [copyT] at ho
    simp only [copyT, okD, ho, okJ_copy k ks 0 d]
theorem okJ_copy (k : Int) : ∀ (ks : List T) (i : Nat) (d : Int), okJ k (copyK ks) i d ↔ okJ k ks i d
  | [], i, d => Iff.rfl
  | t :: r, i, d => by simp only [copyK, okJ, okD_copy t, okJ_copy k r (i + 1) d]
end
mutual
theorem putA_copy : ∀ t : T, putA (copyT t) = putA t
  | .mk k b lg l s m kg ks => by simp only [copyT, putA, copyK_len, putK_copy ks, putP_copy ks]
theorem putK_copy : ∀ ks : List T, putK (copyK ks) = putK ks
  | [] => rfl
  | t :: r => by simp only [copyK, putK, putA_copy t, putK_copy r]
theorem putP_copy : ∀ ks : List T, putP (copyK ks) = putP ks
  | [] => rfl
  | t :: r => by simp only [copyK, putP, putA_copy t, putQ_copy r, putN_copy r]
theorem putQ_copy : ∀ ks : List T, putQ (copyK ks) = putQ ks
  | [] => rfl
  | t :: r => by simp only [copyK, putQ, putA_copy t]
theorem putN_copy : ∀ ks : List T, putN (copyK ks) = putN ks
  | [] => rfl
  | t :: r => by simp only [copyK, putN, putA_copy t]
end
theorem putB_copy (t : T) : putB (copyT t) = putB t := by unfold putB; rw [putA_copy]
theorem chk_rw (t : T) : (chkT (copyT t) 1 2000).1 = decide (rwT t 1 0 ≥ 0) := by
  by_cases hc : rwT t 1 0 ≥ 0
  · obtain ⟨hok, hr1, hr2⟩ := rw_okD t 1 0 (by decide) hc
    rw [decide_eq_true hc, okD_chk (copyT t) 1 2000 ((okD_copy t 1).2 hok) (by rw [nod_copy]; omega)]
  · rw [decide_eq_false hc]
    cases h : (chkT (copyT t) 1 2000).1 with
    | false => rfl
    | true =>
      have h1 := (okD_copy t 1).1 (chk_okD (copyT t) 1 2000 h)
      have h2 := chkT_nod (copyT t) 1 2000 h
      rw [nod_copy] at h2
      have h3 := okD_rw t 1 0 h1 (by decide) (by omega)
      exact absurd (by omega) hc
theorem getR_few (bs : List UInt8) (hl : bs.length ≤ 150000000000000) (at_ : Int) : fewT 100000 (getR bs at_).1 ∧ nodT (getR bs at_).1 ≤ 2000 := by
  have h0 : fewT 100000 T0 ∧ nodT T0 ≤ 2000 := by simp only [T0, fewT, fewK, nodT, nodK]; exact ⟨⟨by decide, by decide, trivial⟩, by decide⟩
  unfold getR
  by_cases hr : at_ < 0 ∨ at_ > bs.length
  · rw [if_pos hr]; exact h0
  · rw [if_neg hr]
    obtain ⟨a, rfl⟩ : ∃ a : Nat, at_ = a := ⟨at_.toNat, by omega⟩
    rw [Int.toNat_natCast]
    dsimp only
    have hs : InvR bs ⟨a, 0, 0⟩ := ⟨by dsimp only; omega, hl, by dsimp only; omega, by dsimp only; omega, fun _ => by dsimp only; omega⟩
    by_cases he : (termR bs (bs.length + 2) 1 ⟨a, 0, 0⟩).2.e = 0
    · rw [if_neg (fun h => h he)]
      have o := one_ok bs (bs.length + 2) 1 ⟨a, 0, 0⟩ hs (by dsimp only; omega) he
      have hi := termR_inv bs (bs.length + 2) 1 ⟨a, 0, 0⟩ hs
      have h1 := o.tm
      have h2 := (hi.1.ok he).2
      dsimp only at h1 ⊢
      exact ⟨good_few _ (good_okD _ 1 o.ok o.wf), by omega⟩
    · rw [if_pos he]; exact h0
end Go.Ab

/- ExtAll gives true (CFG5). Conditions: limbs, texts in range. -/
namespace Go.Ab
open Go.Proofs
set_option maxRecDepth 100000
set_option linter.unusedSimpArgs false

theorem appendNilZ (D : Nat) (st : St) (b : List UInt8) (g : Grip) (hl : b.length ≤ 1000000) : appendA Try.prog #[22, 22] D st (.sl [] 0 .nil) (.sl (cellsOfBytes b) b.length g) = some (.sl (cellsOfBytes b) b.length (.tok D ((st D).t + 1)), upd st D ⟨(st D).t + 1, .tok 1⟩) := by
  have e1 : (#[22, 22] : Array TypeId)[0]? = some 22 := rfl
  have e2 : (#[22, 22] : Array TypeId)[1]? = some 22 := rfl
  have hz : (zeroOf Try.prog 5).map List.length = some 1 := by rw [zeroB8]; rfl
  have hm : ∀ s, moreA Try.prog 5 1 (some 22) s (.sl (cellsOfBytes b) b.length g) = some (cellsOfBytes b, b.length) := fun s => by
    simp only [moreA, Option.map_some, tkB, cB_len, Nat.mul_one, if_true]
  have hb : baseA 1 st (.sl [] 0 .nil) = some ([], 0, st) := rfl
  simp only [appendA, e1, e2, Option.map_some, tkB, eszB, Option.bind_some, hm, hb, byB]
  rw [if_pos ⟨by omega, by omega, hz⟩, Nat.zero_add, List.nil_append]
theorem appendTokZ (S : St) (b : List UInt8) (hl : b.length ≤ 1000000) : appendA Try.prog #[22, 22] 26 (upd S 24 ⟨1, .tok 1⟩) (.sl (cellsOfBytes b) b.length (.tok 24 1)) (.sl [.int .u8 99] 1 .tight) = some (.sl (cellsOfBytes (b ++ [99])) (b.length + 1) (.tok 26 ((S 26).t + 1)), upd (upd (upd S 24 ⟨1, .tok 1⟩) 24 ⟨1, .dead⟩) 26 ⟨(S 26).t + 1, .tok 1⟩) := by
  have e1 : (#[22, 22] : Array TypeId)[0]? = some 22 := rfl
  have e2 : (#[22, 22] : Array TypeId)[1]? = some 22 := rfl
  have hz : (zeroOf Try.prog 5).map List.length = some 1 := by rw [zeroB8]; rfl
  have hm : ∀ s, moreA Try.prog 5 1 (some 22) s (.sl [.int .u8 99] 1 .tight) = some ([.int .u8 99], 1) := fun s => by
    simp only [moreA, Option.map_some, tkB]
    rfl
  have hb : baseA 1 (upd S 24 ⟨1, .tok 1⟩) (.sl (cellsOfBytes b) b.length (.tok 24 1)) = some (cellsOfBytes b, b.length, upd (upd S 24 ⟨1, .tok 1⟩) 24 ⟨1, .dead⟩) := by
    simp only [baseA, upd_same, cB_len, Nat.mul_one, and_self, if_true]
  have hu : ((upd (upd S 24 ⟨1, .tok 1⟩) 24 ⟨1, .dead⟩) 26).t = (S 26).t := by simp only [zfk, ↓reduceIte, Nat.reduceEqDiff]
  simp only [appendA, e1, e2, Option.map_some, tkB, eszB, Option.bind_some, hm, hb, byB, hu]
  rw [if_pos ⟨by omega, by omega, hz⟩, cB_app]
  rfl
theorem sliceWZ (b : List UInt8) (g : Grip) : sliceW Try.prog 22 (.sl (cellsOfBytes (b ++ [99])) (b.length + 1) g) none (some (.int .i64 (b.length : Int))) none = some (.slw (cellsOfBytes (b ++ [99])) b.length) := by
  have a1 : (0 : Int) ≤ (b.length : Int) ∧ (b.length : Int) ≤ ((b.length + 1 : Nat) : Int) := ⟨by omega, by omega⟩
  have a2 : (cellsOfBytes (b ++ [99])).length = b.length + 1 := by rw [cB_len, List.length_append]; rfl
  simp only [sliceW, tkB, Option.isSome_none, Bool.false_eq_true, or_self, if_false, boundA, if_pos a1, Option.bind_some, eszB, Int.toNat_natCast]
  rw [if_pos ⟨trivial, a2, by omega⟩]
theorem sliceBZ (s : St) (b : List UInt8) : sliceA Try.prog 22 s (.slw (cellsOfBytes (b ++ [99])) b.length) none (some (.int .i64 ((b.length : Int) + 1))) none = some (.sl (cellsOfBytes (b ++ [99])) (b ++ [99]).length .loose) := by
  have a2 : (cellsOfBytes (b ++ [99])).length = b.length + 1 := by rw [cB_len, List.length_append]; rfl
  have a3 : (b ++ [(99 : UInt8)]).length = b.length + 1 := by rw [List.length_append]; rfl
  have a1 : (0 : Int) ≤ (b.length : Int) + 1 ∧ (b.length : Int) + 1 ≤ ((b.length + 1 : Nat) : Int) := ⟨by omega, by omega⟩
  have a4 : ((b.length : Int) + 1).toNat = b.length + 1 := by omega
  simp only [sliceA, tkB, Option.isSome_none, Bool.false_eq_true, if_false, boundA, a2, if_pos a1, Option.bind_some, eszB, a4]
  rw [if_pos ⟨trivial, by omega⟩, List.take_of_length_le (by omega), List.drop_zero, Nat.sub_zero, a3]
theorem takeZ (b : List UInt8) : (cellsOfBytes (b ++ [99])).take b.length = cellsOfBytes b := by rw [cB_take, List.take_left]
theorem callQ_slw {call : FuncId → List Arg → Option Out} {f : FuncId} {xs ys : List AV} {len : Nat} {v r : AV} (hx : xs.take len = ys) (hv : isTree v = true) (hw : loosen v = v) (hl : isLent v = true) (hc : call f [.tree (.sl ys len .loose), .tree v] = some (.tree r, [[], []])) : callQ call f [.slw xs len, v] = some r := by
  subst hx
  have h1 : [AV.slw xs len, v].all isTree = false := rfl
  have h2 : [AV.slw xs len, v].all isLent = true := by simp only [List.all_cons, hl, List.all_nil]; rfl
  have h3 : [AV.slw xs len, v].map (fun v => Arg.tree (loosen v)) = [.tree (.sl (xs.take len) len .loose), .tree v] := by simp only [List.map_cons, List.map_nil, hw]; rfl
  simp only [callQ, h1, h2, h3, hc, Bool.false_eq_true, if_false, if_true, Option.bind_some]
theorem callA_slw {call : FuncId → List Arg → Option Out} {f : FuncId} {D : Nat} {s : St} {xs ys : List AV} {len : Nat} {z : Int} {r : AV} (hx : xs.take len = ys) (hc : call f [.tree (.sl ys len .loose), .tree (.int .i64 z)] = some (.tree r, [[], []])) : callA cfg5 call D s f [.slw xs len, .int .i64 z] = some (r, s) := by
  subst hx
  have h3 : argsA cfg5 f s 0 [.slw xs len, .int .i64 z] = some [.tree (.sl (xs.take len) len .loose), .tree (.int .i64 z)] := rfl
  have g3 : givesL [.slw xs len, .int .i64 z] [.tree (.sl (xs.take len) len .loose), .tree (.int .i64 z)] = [] := rfl
  have g4 : lendsL [.slw xs len, .int .i64 z] [.tree (.sl (xs.take len) len .loose), .tree (.int .i64 z)] = [] := rfl
  have g5 : backA s [.slw xs len, .int .i64 z] [.tree (.sl (xs.take len) len .loose), .tree (.int .i64 z)] [[], []] = some s := rfl
  simp only [callA, h3, Option.bind_some, g3, g4, List.nodup_nil, List.not_mem_nil, false_implies, implies_true, and_self, if_true, hc, List.foldl_nil, ite_self, g5, resA]
theorem putsZ (n D : Nat) (hn : 2200 ≤ n) (hD : 30000 ≤ D) (b : List UInt8) (hl5 : b.length ≤ 5000) (t : T) (hb : bigT 9223372036854775808 t) (hnod : nodT t ≤ 100) : ∃ (w : List UInt8) (g : Grip), w.length ≤ 1000000000000 ∧ callQ (evalFn Try.prog cfg5 n (D+2)) 10 [.slw (cellsOfBytes (b ++ [99])) b.length, .agg (cellsT (copyT t))] = some (.sl (cellsOfBytes (b ++ w)) (b ++ w).length .loose) ∧ callQ (evalFn Try.prog cfg5 n (D+2)) 12 [.agg (cellsT t)] = some (.sl (cellsOfBytes w) w.length g) := by
  have hwf := bigY_wf 9223372036854775808 t hb
  have hck := chk_rw t
  by_cases hc : rwT t 1 0 ≥ 0
  · rw [decide_eq_true hc] at hck
    obtain ⟨hok, hr1, hr2⟩ := rw_okD t 1 0 (by decide) hc
    have hpl := putB_le t (good_okD t 1 hok hwf)
    refine ⟨putB t, .loose, by omega, ?_, ?_⟩
    · have h := ePut_ok n (D+1) b .loose (copyT t) hck (wf_copy t hwf) hn (by omega) (by rw [putB_copy]; omega)
      rw [putB_copy] at h
      exact callQ_slw (takeZ b) rfl rfl rfl h
    · exact callQ_trees (vs := [.agg (cellsT t)]) rfl (rPut_ok n D t hb hc hn (by omega))
  · rw [decide_eq_false hc] at hck
    refine ⟨[], .nil, Nat.zero_le _, ?_, ?_⟩
    · have h := ePut_no n D b .loose rfl (copyT t) hck (wf_copy t hwf) (by rw [nod_copy]; omega)
      rw [List.append_nil]
      exact callQ_slw (takeZ b) rfl rfl rfl h
    · exact callQ_trees (vs := [.agg (cellsT t)]) rfl (rPut_no n D t hb hc)
set_option maxHeartbeats 4000000 in
theorem extAll_eq (n D : Nat) (hn : 100000 ≤ n) (hD : 30000 ≤ D) (b : List UInt8) (t : T) (hb : bigT 9223372036854775808 t) (hf : fewT 9223372036854775808 t) (at_ : Int) :
    evalFn Try.prog cfg5 n (D+3) 3 [.tree (.sl (cellsOfBytes b) b.length .loose), .tree (encT t), .tree (.int .i64 at_)] = some (.tree (.bool true), [[], [], []]) := by
  rw [evalFn_go _ Try.func3 (by unfold Try.f3; rfl) (by unfold Try.f3; decide) (Nat.le_of_ble_eq_true (by unfold Try.f3; rfl)) (by kernel_rfl)]
  have e0 : env0 [.tree (.sl (cellsOfBytes b) b.length .loose), .tree (encT t), .tree (.int .i64 at_)] 0 = .sl (cellsOfBytes b) b.length .loose := rfl
  have e1 : env0 [.tree (.sl (cellsOfBytes b) b.length .loose), .tree (encT t), .tree (.int .i64 at_)] 1 = encT t := rfl
  have e2 : env0 [.tree (.sl (cellsOfBytes b) b.length .loose), .tree (encT t), .tree (.int .i64 at_)] 2 = .int .i64 at_ := rfl
  have j4 : (st0 [.tree (.sl (cellsOfBytes b) b.length .loose), .tree (encT t), .tree (.int .i64 at_)] 4).t = 0 := rfl
  have j8 : (st0 [.tree (.sl (cellsOfBytes b) b.length .loose), .tree (encT t), .tree (.int .i64 at_)] 8).t = 0 := rfl
  have j11 : (st0 [.tree (.sl (cellsOfBytes b) b.length .loose), .tree (encT t), .tree (.int .i64 at_)] 11).t = 0 := rfl
  have j24 : (st0 [.tree (.sl (cellsOfBytes b) b.length .loose), .tree (encT t), .tree (.int .i64 at_)] 24).t = 0 := rfl
  have j26 : (st0 [.tree (.sl (cellsOfBytes b) b.length .loose), .tree (encT t), .tree (.int .i64 at_)] 26).t = 0 := rfl
  have ho : ∀ s, outsA s 0 [.tree (.sl (cellsOfBytes b) b.length .loose), .tree (encT t), .tree (.int .i64 at_)] = some [[], [], []] := fun s => rfl
  generalize [Arg.tree (.sl (cellsOfBytes b) b.length .loose), .tree (encT t), .tree (.int .i64 at_)] = as1 at e0 e1 e2 j4 j8 j11 j24 j26 ho
  generalize env0 as1 = env at e0 e1 e2
  generalize st0 as1 = st at j4 j8 j11 j24 j26
  simp only [encT] at e1
  have wa := fun D' st => callA_trees (cfg := cfg5) (d := D') (s := st) (f := 9) (vs := []) rfl (evalFn_mono (show 2200 ≤ n by omega) 20 (D+2) (by omega) _ _ _ awake5_eq)
  have cl := fun D' st => callA_trees (cfg := cfg5) (d := D') (s := st) (f := 8) (vs := [encT t, .int .i64 100]) rfl (ev5 (n := n) (d := D+1) rfl (Light_eq 9223372036854775808 (by decide) (Nat.le_refl _) 6189 t 100 (by decide) (by decide) (by decide) hb hf))
  simp only [encT] at cl
  by_cases hl : lgT t 100 ≥ 0
  · rw [decide_eq_true hl] at cl
    by_cases hl5 : (b.length : Int) > 5000
    · simp only [simB, keep5, Nat.reduceBEq, own5, String.reduceAppend, String.reduceBEq, Bool.or_false, Bool.or_true, Bool.or_self, ↓reduceIte, Nat.reduceEqDiff, Nat.reduceAdd, simA, simL, simN, Nat.zero_add, e0, e1, e2, j4, boxA_agg, ldT_u, cl, unA_not', Bool.not_true, Bool.not_false, lenB, y_gtr, hl5, wa]
      exact finish_b _ _ _ _ _ _ _ (by simp only [zfk, ↓reduceIte, Nat.reduceEqDiff]; try rfl) (ho _)
    · have h2 := lgT_ok t 100 hl
      have hnod : nodT t ≤ 100 := by omega
      have hht := ht_nod t
      obtain ⟨w, g, hwl, p1, p2⟩ := putsZ n D (by omega) hD b (by omega) t hb hnod
      have ct := callQ_trees (call := evalFn Try.prog cfg5 n (D+2)) (f := 11) (vs := [encT t]) rfl (term5_eq n hn (D+1) t (by omega) (few_leanZ t h2.1 (by omega)))
      simp only [encT] at ct
      have an := fun D st => appendNilZ D st b .loose (by omega)
      have aw := fun S => appendTokZ S b (by omega)
      have sw := sliceWZ b
      have sb := fun s => sliceBZ s b
      have cv := fun s => convBS s (b ++ w) .loose
      have cv1 := fun s => convBS s b .loose
      have cv2 := fun s => convBS s w g
      have sa := s_addS Try.prog 9 b w (by omega)
      have ss : (b ++ w == b ++ w) = true := by simp
      have gx := fun D' st => callA_slw (call := evalFn Try.prog cfg5 n (D+2)) (D := D') (s := st) (f := 13) (takeZ b) (get_any n (D+1) (by omega) b .loose (.inr (.inl rfl)) (by omega) (by omega) at_)
      have gy := fun D' st => callA_trees (cfg := cfg5) (d := D') (s := st) (f := 14) (vs := [.sl (cellsOfBytes b) b.length .loose, .int .i64 at_]) rfl (zget_eq n (D+1) (by omega) b .loose (.inr (.inl rfl)) (by omega) (by omega) at_)
      obtain ⟨hz1, hz2⟩ := getZ_like b (by omega) at_
      obtain ⟨hfw, hnx⟩ := getR_few b (by omega) at_
      have hhx := ht_nod (getR b at_).1
      have cs := fun D' st => callA_trees (cfg := cfg5) (d := D') (s := st) (f := 15) (vs := [encT (getR b at_).1, encT (getZ b at_).1]) rfl (ev5 (n := n) (d := D+1) rfl (sameZ_eq 9223372036854775808 (by decide) 6188 _ _ (by omega) hfw hz1))
      have oz : outG (getZ b at_) = .tup [encT (getZ b at_).1, .int .i64 (getR b at_).2.1, .int .i64 (getR b at_).2.2] := by rw [hz2]; rfl
      have ox : outG (getR b at_) = .tup [encT (getR b at_).1, .int .i64 (getR b at_).2.1, .int .i64 (getR b at_).2.2] := rfl
      rw [oz] at gy
      rw [ox] at gx
      generalize (getR b at_).1 = x at gx gy cs
      generalize (getZ b at_).1 = y at gx gy cs
      generalize (getR b at_).2.1 = i1 at gx gy
      generalize (getR b at_).2.2 = i2 at gx gy
      simp only [encT] at gx gy cs
      have st1 := fun s p k' => st_Tt s p k' x
      have s61 := fun t k' p st => stT_6 t k' p st (.int .i64 0) (.bool false) (.sl [] 0 .nil) (.str []) (.int .i64 0) (.sl [] 0 .nil) x
      have st2 := fun s p k' => st_Tt s p k' y
      have s62 := fun t k' p st => stT_6 t k' p st (.int .i64 0) (.bool false) (.sl [] 0 .nil) (.str []) (.int .i64 0) (.sl [] 0 .nil) y
      have g1 := i_add Try.prog 3 (b.length : Int) 1 (by omega) (by omega)
      have ia := fun s => iaB s (b ++ [99]) .loose b.length (by rw [List.length_append]; exact Nat.lt_succ_self _)
      rw [List.drop_left] at ia
      have ld := fun s => ldB s 99 []
      have b1 : (i1 == i1) = true := beq_self_eq_true _
      have b2 : (i2 == i2) = true := beq_self_eq_true _
      have b3 : (((99 : UInt8).toNat : Int) == 99) = true := rfl
      simp only [simB, keep5, Nat.reduceBEq, own5, String.reduceAppend, String.reduceBEq, Bool.or_false, Bool.or_true, Bool.or_self, ↓reduceIte, Nat.reduceEqDiff, Nat.reduceAdd, simA, simL, simN, Nat.zero_add, e0, e1, e2, j4, j8, j11, j24, j26, boxA_agg, ldT_u, cl, unA_not', Bool.not_true, Bool.not_false, lenB, y_gtr, hl5, opA_lit1, lit1_b, an, aw, sw, ct, p1, p2, cv, cv1, cv2, sa, s_neqS, ss, gx, gy, zdu, zeroT, st1, s61, st2, s62, cs, y_eql, y_eql8, b1, b2, b3, g1, sb, ia, ld, wa]
      exact finish_b _ _ _ _ _ _ _ (by simp only [zfk, ↓reduceIte, Nat.reduceEqDiff]; try rfl) (ho _)
  · rw [decide_eq_false hl] at cl
    simp only [simB, keep5, Nat.reduceBEq, own5, String.reduceAppend, String.reduceBEq, Bool.or_false, Bool.or_true, Bool.or_self, ↓reduceIte, Nat.reduceEqDiff, Nat.reduceAdd, simA, simL, simN, Nat.zero_add, e0, e1, e2, j4, boxA_agg, ldT_u, cl, unA_not', Bool.not_true, Bool.not_false, wa]
    exact finish_b _ _ _ _ _ _ _ (by simp only [zfk, ↓reduceIte, Nat.reduceEqDiff]; try rfl) (ho _)
end Go.Ab

/- The walk of ExtAll (CFG5): it gives true, and leaves memory below as it was. No conditions. -/
namespace Go.Ab
open Go.Proofs Go.RowKit
theorem prim5_ok : FnOk Try.prog prim5 := fun f xs r os h => by
  unfold prim5 at h
  split at h
  · cases h
  · exact evalFn_ok mixed prim0_ok 9223372036854775808 6190 f xs r os h
theorem walkEAll (a0 : Option Addr) (len0 cap0 : Nat) (z0 : List Int) (v1 : Value) (a2 : Int) (w : World) (h0 : IsRow .u8 w a0 len0 cap0 z0) (h1 : IsTerm w v1) (_h2 : (Lit.int .i64 a2).wf = true) :
    Calls Try.prog 3 #[.slice a0 len0 cap0, v1, .int .i64 a2] w fun e w' => e = .returned (.bool true) ∧ Below w.heap.size w w' := by
  obtain ⟨t, t1, t2, t3⟩ := h1
  obtain ⟨bs, rfl, hv⟩ := bytesRow h0
  refine lawCallsP (cfg := cfg5) mixed prim5_ok (vs := [.slice a0 bs.length cap0, v1, .int .i64 a2]) (extAll_eq 100000 30000 (Nat.le_refl _) (Nat.le_refl _) bs t t1 t2 a2) rfl (st0_3 _ _ _) (fun j v hj => ?_) true rfl
  match j, hj with
  | 0, hj => cases hj; exact ⟨hv, rfl⟩
  | 1, hj => cases hj; exact ⟨t3, rfl⟩
  | 2, hj => cases hj; exact ⟨by simp only [env0, List.getElem?_cons_succ, List.getElem?_cons_zero, V0], rfl⟩
end Go.Ab
