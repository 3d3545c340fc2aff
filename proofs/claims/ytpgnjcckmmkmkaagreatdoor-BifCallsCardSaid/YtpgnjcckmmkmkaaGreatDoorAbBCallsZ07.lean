/- Several texts put together: AbzC1, AbzC2, AbzJ3, AbzJ5, AbzC3, AbzC4, AbzW1, AbzW2, AbzW3, AbzW4, AbzW5, AbzW6, AbzW7, AbzW8, AbzW9, AbzA16, AbzW10, AbzLawBAll, AbzV1. Conditions: as each part says. -/
import Derived.Test.YtpgnjcckmmkmkaaGreatDoorAbBCallsZ06
import Derived.Test.YtpgnjcckmmkmkaaGreatDoorAbBCallsZ05
import Derived.Test.YtpgnjcckmmkmkaaGreatDoorAbBCallsZ04
/- relictref03.Cmp, walked. Conditions: terms that may be. -/
namespace Go.Ab
open Go.Proofs
set_option maxRecDepth 100000
set_option linter.unusedSimpArgs false

theorem rrk1 (d : Nat) : evalFn Tryz.prog cfg0 100000 (d+2) 45 [.tree (.int .i64 1)] = some (.tree (.int .i64 1), [[]]) := by kernel_rfl
theorem rrk2 (d : Nat) : evalFn Tryz.prog cfg0 100000 (d+2) 45 [.tree (.int .i64 2)] = some (.tree (.int .i64 2), [[]]) := by kernel_rfl
theorem rrk3 (d : Nat) : evalFn Tryz.prog cfg0 100000 (d+2) 45 [.tree (.int .i64 3)] = some (.tree (.int .i64 5), [[]]) := by kernel_rfl
theorem rrk4 (d : Nat) : evalFn Tryz.prog cfg0 100000 (d+2) 45 [.tree (.int .i64 4)] = some (.tree (.int .i64 6), [[]]) := by kernel_rfl
theorem rrk5 (d : Nat) : evalFn Tryz.prog cfg0 100000 (d+2) 45 [.tree (.int .i64 5)] = some (.tree (.int .i64 4), [[]]) := by kernel_rfl
theorem rrk6 (d : Nat) : evalFn Tryz.prog cfg0 100000 (d+2) 45 [.tree (.int .i64 6)] = some (.tree (.int .i64 7), [[]]) := by kernel_rfl
theorem rthree_eq (n d : Nat) (x y : Int) : evalFn Tryz.prog cfg0 n (d+1) 44 [.tree (.int .i64 x), .tree (.int .i64 y)] = some (.tree (.int .i64 (three x y)), [[], []]) := by
  rw [evalFn_go _ Tryz.func44 (by unfold Tryz.f44; rfl) (by unfold Tryz.f44; decide) (Nat.le_of_ble_eq_true (by unfold Tryz.f44; rfl)) (by kernel_rfl)]
  unfold three
  by_cases h : x < y
  · simp only [simB, zbo, Nat.reduceBEq, own0, ↓reduceIte, Nat.reduceEqDiff, Nat.reduceAdd, simA, simL, h]
    exact finish_i _ _ _ _ _ _ _ (by simp only [zfp, ↓reduceIte, Nat.reduceEqDiff]; try rfl) rfl
  · by_cases h2 : x > y
    · have h3 : y < x := h2
      simp only [simB, zbo, Nat.reduceBEq, own0, ↓reduceIte, Nat.reduceEqDiff, Nat.reduceAdd, simA, simL, h, h2, h3]
      exact finish_i _ _ _ _ _ _ _ (by simp only [zfp, ↓reduceIte, Nat.reduceEqDiff]; try rfl) rfl
    · have h3 : ¬ y < x := h2
      simp only [simB, zbo, Nat.reduceBEq, own0, ↓reduceIte, Nat.reduceEqDiff, Nat.reduceAdd, simA, simL, h, h2, h3]
      exact finish_i _ _ _ _ _ _ _ (by simp only [zfp, ↓reduceIte, Nat.reduceEqDiff]; try rfl) rfl
theorem rtext3_eq (n d : Nat) (x y : List UInt8) : evalFn Tryz.prog cfg0 n (d+1) 47 [.tree (.str x), .tree (.str y)] = some (.tree (.int .i64 (strC x y)), [[], []]) := by
  rw [evalFn_go _ Tryz.func47 (by unfold Tryz.f47; rfl) (by unfold Tryz.f47; decide) (Nat.le_of_ble_eq_true (by unfold Tryz.f47; rfl)) (by kernel_rfl)]
  unfold strC
  cases h : Op.bytesLess x y with
  | true =>
    simp only [simB, zbo, Nat.reduceBEq, own0, ↓reduceIte, Nat.reduceEqDiff, Nat.reduceAdd, simA, simL, s_lssS, h]
    exact finish_i _ _ _ _ _ _ _ (by simp only [zfp, ↓reduceIte, Nat.reduceEqDiff]; try rfl) rfl
  | false =>
    by_cases g : x = y
    · have g' : (x == y) = true := beq_iff_eq.mpr g
      rw [if_pos g]
      simp only [simB, zbo, Nat.reduceBEq, own0, ↓reduceIte, Nat.reduceEqDiff, Nat.reduceAdd, simA, simL, s_lssS, s_gtrS, h, g', Bool.or_true, Bool.false_or, Bool.not_true]
      exact finish_i _ _ _ _ _ _ _ (by simp only [zfp, ↓reduceIte, Nat.reduceEqDiff]; try rfl) rfl
    · have g' : (x == y) = false := beq_eq_false_iff_ne.mpr g
      rw [if_neg g]
      simp only [simB, zbo, Nat.reduceBEq, own0, ↓reduceIte, Nat.reduceEqDiff, Nat.reduceAdd, simA, simL, s_lssS, s_gtrS, h, g', Bool.or_false, Bool.false_or, Bool.not_false]
      exact finish_i _ _ _ _ _ _ _ (by simp only [zfp, ↓reduceIte, Nat.reduceEqDiff]; try rfl) rfl
theorem rpart_eq (n d : Nat) (t : T) (i : Nat) (u : T) (r : List T) (h : (kidsT t).drop i = u :: r) : evalFn Tryz.prog cfg0 n (d+1) 48 [.tree (encT t), .tree (.int .i64 (i : Int))] = some (.tree (encT u), [[], []]) := by
  rw [evalFn_go _ Tryz.func48 (by unfold Tryz.f48; rfl) (by unfold Tryz.f48; decide) (Nat.le_of_ble_eq_true (by unfold Tryz.f48; rfl)) (by kernel_rfl)]
  obtain ⟨k, n1, lg, l, s, i1, kg, ks⟩ := t
  simp only [kidsT] at h
  have hil : i < ks.length := by have := congrArg List.length h; simp only [List.length_drop, List.length_cons] at this; omega
  have q1 : (i : Int) < (ks.length : Int) := by omega
  have ia := fun st => ia_K st ks (gr kg) i hil
  rw [h] at ia
  have ld := fun st => ld_K st u r
  simp only [encT] at ld
  simp only [simB, zbo, Nat.reduceBEq, own0, ↓reduceIte, Nat.reduceEqDiff, Nat.reduceAdd, simA, simL, simN, Nat.zero_add, zeroT, encT, cellsT, faT_4, ldT_4, Nat.reduceAdd, lenTk, q1, ia, ld, st_Tt, stT_6]
  exact finish_cT _ _ _ _ _ u _ _ _ (by simp only [zfp, ↓reduceIte, Nat.reduceEqDiff]; try rfl) (by simp only [zfp, ↓reduceIte, Nat.reduceEqDiff]; try rfl) rfl
theorem three_up (a b : Int) : three (a + 1) (b + 1) = three a b := by unfold three; split <;> split <;> (try split) <;> omega
end Go.Ab

/- bif.two: max, min, member; bif.Call of two arguments. Conditions: terms that may be. -/
namespace Go.Ab
open Go.Proofs
set_option maxRecDepth 100000
set_option linter.unusedSimpArgs false

def sMem : List UInt8 := [109, 101, 109, 98, 101, 114]
def sTrue : List UInt8 := [116, 114, 117, 101]
def sFalse : List UInt8 := [102, 97, 108, 115, 101]
def atomT (s : List UInt8) : T := .mk 2 false .n [] s 0 .n []
theorem bdT_at (s : List UInt8) : buildA Tryz.prog 29 [(0, .int .i64 2), (2, .str s)] = some (.agg (cellsT (atomT s))) := bdT_2 2 s
theorem atom_eq (n d : Nat) (s : List UInt8) : evalFn Tryz.prog cfg0 n (d+1) 29 [.tree (.str s)] = some (.tree (encT (atomT s)), [[]]) := by
  rw [evalFn_go _ Tryz.func29 (by unfold Tryz.f29; rfl) (by unfold Tryz.f29; decide) (Nat.le_of_ble_eq_true (by unfold Tryz.f29; rfl)) (by kernel_rfl)]
  simp only [simB, zbo, Nat.reduceBEq, own0, ↓reduceIte, Nat.reduceEqDiff, Nat.reduceAdd, simA, simL, simN, Nat.zero_add, zeroT, bdT_at, st_Tt, stT_6]
  exact finish_cT _ _ _ _ _ (atomT s) _ _ _ (by simp only [zfp, ↓reduceIte, Nat.reduceEqDiff]; try rfl) (by simp only [zfp, ↓reduceIte, Nat.reduceEqDiff]; try rfl) rfl
set_option maxHeartbeats 4000000 in
theorem twoMem_eq (R d : Nat) (a L u : T) (v : Bool) (h : evalFn Tryz.prog cfg0 R d 95 [.tree (encT a), .tree (encT L)] = some (.tree (.tup [encT u, .bool v]), [[], []])) : evalFn Tryz.prog cfg0 R (d+1) 63 [.tree (.str sMem), .tree (encT a), .tree (encT L)] = some (.tree (.tup [encT u, .bool v]), [[], [], []]) := by
  rw [evalFn_go _ Tryz.func63 (by unfold Tryz.f63; rfl) (by unfold Tryz.f63; decide) (Nat.le_of_ble_eq_true (by unfold Tryz.f63; rfl)) (by kernel_rfl)]
  have w0 : (sMem == ([101, 108, 101, 109, 101, 110, 116] : List UInt8)) = false := by decide
  have w1 : (sMem == ([109, 101, 109, 98, 101, 114] : List UInt8)) = true := by decide
  have w2 : (sMem == ([109, 97, 120] : List UInt8)) = false := by decide
  have w3 : (sMem == ([109, 105, 110] : List UInt8)) = false := by decide
  have c := fun D st => callA_trees (cfg := cfg0) (d := D) (s := st) (f := 95) (vs := [encT a, encT L]) rfl h
  simp only [encT] at c
  simp only [simB, zbo, Nat.reduceBEq, own0, ↓reduceIte, Nat.reduceEqDiff, Nat.reduceAdd, simA, simL, simN, Nat.zero_add, zev, List.toList_toArray, len9, ix9, zew, zex, zey, zez, zfa, zeroT, encT, ldT_u, s_eqlS, w0, w1, w2, w3, c, zds, st_Tt, stT_6]
  exact finish_T2 _ _ _ _ _ u _ _ _ _ _ (by simp only [zfp, ↓reduceIte, Nat.reduceEqDiff]; try rfl) (by simp only [zfp, ↓reduceIte, Nat.reduceEqDiff]; try rfl) (by simp only [zfp, ↓reduceIte, Nat.reduceEqDiff]; try rfl) rfl
end Go.Ab

/- bif.Call of reverse, ++, list_to_tuple, tuple_to_list. Conditions: so many nodes at most. -/
namespace Go.Ab
open Go.Proofs
set_option maxRecDepth 100000
set_option linter.unusedSimpArgs false

def sPP : List UInt8 := [43, 43]
theorem oneRev_eq (R d : Nat) (t : T) (us : List T) (h : itemsT t = some us) (hl : us.length ≤ 2001) : evalFn Tryz.prog cfg0 R (d+1) 62 [.tree (.str sRev), .tree (encT t)] = some (.tree (.tup [encT (listT us.reverse nilT'), .bool true]), [[], []]) := by
  have hp : prim0 62 [.tree (.str sRev), .tree (encT t)] = some (.tree (.tup [encT (listT us.reverse nilT'), .bool true]), [[], []]) := by
    unfold prim0
    rw [if_neg (by decide), if_neg (by decide), if_pos (by simp only [isRev, sRev]; decide)]
    exact oneRev1_eq t us h hl
  have hc : cfg0.prim = prim0 := rfl
  rw [evalFn]
  simp only [hc, hp]
def tupJ (us : List T) : T := .mk 5 false .n [] [] 0 (kgOf us) us
theorem bdT_tup (us : List T) : buildA Tryz.prog 29 [(0, .int .i64 5), (4, .sl (cellsK us) us.length (gr (kgOf us)))] = some (.agg (cellsT (tupJ us))) := bdT_4 5 _ _ _
set_option maxHeartbeats 8000000 in
theorem twoPP_eq (R d : Nat) (hR : 100000 ≤ R) (a b : T) (us : List T) (h : itemsT a = some us) (hl : us.length ≤ 2001) : evalFn Tryz.prog cfg0 R (d+3) 63 [.tree (.str sPP), .tree (encT a), .tree (encT b)] = some (.tree (.tup [encT (listT us b), .bool true]), [[], [], []]) := by
  rw [evalFn_go _ Tryz.func63 (by unfold Tryz.f63; rfl) (by unfold Tryz.f63; decide) (Nat.le_of_ble_eq_true (by unfold Tryz.f63; rfl)) (by kernel_rfl)]
  have w0 : (sPP == ([101, 108, 101, 109, 101, 110, 116] : List UInt8)) = false := by decide
  have w1 : (sPP == ([109, 101, 109, 98, 101, 114] : List UInt8)) = false := by decide
  have w2 : (sPP == ([109, 97, 120] : List UInt8)) = false := by decide
  have w3 : (sPP == ([109, 105, 110] : List UInt8)) = false := by decide
  have ct := fun D st => callA_trees (cfg := cfg0) (d := D) (s := st) (f := 53) (vs := [encT a]) rfl (items_eq R (by omega) (d+1) a)
  rw [h] at ct
  have hT : isTree (.sl (cellsK us) us.length (gr (kgOf us))) = true := by
    by_cases h : us = []
    · rw [kgOf, if_pos h]; rfl
    · rw [kgOf, if_neg h]; rfl
  have cl := fun D st => callA_trees (cfg := cfg0) (d := D) (s := st) (f := 91) (vs := [.sl (cellsK us) us.length (gr (kgOf us)), encT b]) (by simp only [List.all_cons, hT]; rfl) (tList_eq R (d+1) us (gr (kgOf us)) b (by omega))
  simp only [encT, itemsV] at ct cl
  simp only [simB, zbo, Nat.reduceBEq, own0, ↓reduceIte, Nat.reduceEqDiff, Nat.reduceAdd, simA, simL, simN, Nat.zero_add, zev, List.toList_toArray, len9, ix9, zew, zex, zey, zez, zfa, zeroT, encT, ldT_u, s_eqlS, w0, w1, w2, w3, ct, cl, zds, st_Tt, stT_6]
  exact finish_T2 _ _ _ _ _ (listT us b) _ _ _ _ _ (by simp only [zfp, ↓reduceIte, Nat.reduceEqDiff]; try rfl) (by simp only [zfp, ↓reduceIte, Nat.reduceEqDiff]; try rfl) (by simp only [zfp, ↓reduceIte, Nat.reduceEqDiff]; try rfl) rfl
end Go.Ab

/- bif.place, bif.Two, bif.Call of element. Conditions: numbers in range. -/
namespace Go.Ab
open Go.Proofs
set_option maxRecDepth 100000
set_option linter.unusedSimpArgs false

theorem st_Eg (s : St) (p k : Nat) (ys : List AV) (hl : ys.length = 7) : storeA Tryz.prog 31 s (.ptr p k 0) (.agg ys) = stT (s p) p k s ys := by
  simp only [storeA, settle, Option.bind_some, stT]
  cases h : s p with
  | mk t c => cases c <;> simp [eszE, hl]
theorem ldE_g (t k : Nat) (ys : List AV) (hl : ys.length = 7) : ldE Tryz.prog 31 ⟨t, .buf ys⟩ k 0 = if t = k then some (.agg ys) else none := by
  rw [ldE_buf, cellsE_buf]
  by_cases h : t = k
  · simp [h, partA, shE, hl]
    exact List.take_of_length_le (by omega)
  · simp [h]
theorem finish_T3g (k : Bool) (xs : List Arg) (a p e : Nat) (u : T) (b q e' : Nat) (t : Nat) (v : Bool) (env : Env) (s : St) (os : List (List AV)) (ys : List AV) (hl : ys.length = 7) (ha : env a = .ptr p e 0) (hs : s p = ⟨e, .buf (cellsT u)⟩) (hb : env b = .ptr q e' 0) (hq : s q = ⟨e', .buf ys⟩) (hv : env t = .bool v) (ho : outsA s 0 xs = some os) :
    finishP Tryz.prog k xs #[.cell a 29, .cell b 31, .tmp t] env s = some (.tree (.tup [encT u, .agg ys, .bool v]), os) := by
  have hl1 : loadA Tryz.prog 29 s (env a) = some (.agg (cellsT u)) := by rw [ha, zem, hs, ldT_u, if_pos rfl]
  have hl2 : loadA Tryz.prog 31 s (env b) = some (.agg ys) := by rw [hb, zem, hq, ldE_g _ _ _ hl, if_pos rfl]
  simp [finishP, isTmpR, rvA, hl1, hl2, hv, settleL, settle, ho, encT]
def T0 : T := .mk 0 false .n [] [] 0 .n []
theorem bdT_00 : buildA Tryz.prog 29 [] = some (.agg (cellsT T0)) := bdT_
def sErrW : List UInt8 := [101, 114, 114, 111, 114]
def sBad : List UInt8 := [98, 97, 100, 97, 114, 103]
def sEl : List UInt8 := [101, 108, 101, 109, 101, 110, 116]
theorem twoEl_eq (R d : Nat) (a b u : T) (v : Bool) (h : evalFn Tryz.prog cfg0 R d 25 [.tree (.int .i64 1), .tree (encT a), .tree (encT b)] = some (.tree (.tup [encT u, .bool v]), [[], [], []])) : evalFn Tryz.prog cfg0 R (d+1) 63 [.tree (.str sEl), .tree (encT a), .tree (encT b)] = some (.tree (.tup [encT u, .bool v]), [[], [], []]) := by
  rw [evalFn_go _ Tryz.func63 (by unfold Tryz.f63; rfl) (by unfold Tryz.f63; decide) (Nat.le_of_ble_eq_true (by unfold Tryz.f63; rfl)) (by kernel_rfl)]
  have w0 : (sEl == ([101, 108, 101, 109, 101, 110, 116] : List UInt8)) = true := by decide
  have c := fun D st => callA_trees (cfg := cfg0) (d := D) (s := st) (f := 25) (vs := [.int .i64 1, encT a, encT b]) rfl h
  simp only [encT] at c
  simp only [simB, zbo, Nat.reduceBEq, own0, ↓reduceIte, Nat.reduceEqDiff, Nat.reduceAdd, simA, simL, simN, Nat.zero_add, zev, List.toList_toArray, len9, ix9, zew, zex, zey, zez, zfa, zeroT, encT, ldT_u, s_eqlS, w0, c, zds, st_Tt, stT_6]
  exact finish_T2 _ _ _ _ _ u _ _ _ _ _ (by simp only [zfp, ↓reduceIte, Nat.reduceEqDiff]; try rfl) (by simp only [zfp, ↓reduceIte, Nat.reduceEqDiff]; try rfl) (by simp only [zfp, ↓reduceIte, Nat.reduceEqDiff]; try rfl) rfl
theorem ldE_mixK (t k : Nat) (xs : List AV) (v : AV) : ldE Tryz.prog 22 ⟨t, .mix xs [(5, v)]⟩ k 5 = if t = k then some v else none := by
  simp only [ldE, ldC, shTk, heldL, if_true]
theorem ldE_mixT (t k : Nat) (u : T) (hs : List (Nat × AV)) : ldE Tryz.prog 29 ⟨t, .mix (cellsT u) hs⟩ k 0 = if t = k then some (.agg (cellsT u)) else none := by
  have := ldT_u t k u
  simp only [ldE, ldC, shT] at this ⊢
  exact this
theorem faE_mix (t p k off : Nat) (xs : List AV) (hs : List (Nat × AV)) : faE ⟨t, .mix xs hs⟩ p k off = if t = k then some (.ptr p k off) else none := by
  simp only [faE, cellsE]
  by_cases e : t = k <;> simp [e]
end Go.Ab

/- relictlaw19.few, relictref03.Nodes; slices of rows of terms, put behind one another. Conditions: lengths in range. -/
namespace Go.Ab
open Go.Proofs
set_option maxRecDepth 100000
set_option linter.unusedSimpArgs false

def fewR : Nat → List T → Bool
  | 0, _ => true
  | _ + 1, [] => true
  | n + 1, t :: r => decide (lgT t 100 ≥ 0) && fewR n r
theorem fewR_nil (n : Nat) : fewR n [] = true := by cases n <;> rfl
theorem fewR_all : ∀ (n : Nat) (ks : List T), fewR n ks = true → ks.length ≤ n → ∀ t ∈ ks, lgT t 100 ≥ 0
  | _, [], _, _, t, h => by cases h
  | 0, _ :: _, _, hl, _, _ => by simp at hl
  | n + 1, x :: r, h, hl, t, ht => by
    simp only [fewR, Bool.and_eq_true, decide_eq_true_eq] at h
    rcases List.mem_cons.mp ht with rfl | ht
    · exact h.1
    · exact fewR_all n r h.2 (by simpa using hl) t ht
set_option maxHeartbeats 4000000 in
theorem fewB_eq (R d : Nat) (hR : 2000 ≤ R) (hR2 : R ≤ 9223372036854775808) (hd : 103 ≤ d) (ks : List T) (g : Grip) (hb : bigK R ks) (hf : fewK R ks) :
    evalFn Tryz.prog cfg0 R (d+1) 6 [.tree (.sl (cellsK ks) ks.length g)] = some (.tree (.bool (fewR 12 ks && decide (ks.length ≤ 12))), [[]]) := by
  rw [evalFn_go _ Tryz.func6 (by unfold Tryz.f6; rfl) (by unfold Tryz.f6; decide) (Nat.le_of_ble_eq_true (by unfold Tryz.f6; rfl)) (by kernel_rfl)]
  obtain ⟨d', rfl⟩ : ∃ d', d = d' + 1 := ⟨d - 1, by omega⟩
  simp only [simB, zbo, Nat.reduceBEq, own0, ↓reduceIte, Nat.reduceEqDiff, Nat.reduceAdd, simA, simL, simN, Nat.zero_add, den_loop]
  refine loop_ends (X := Nat) (fun i env st => env 0 = .sl (cellsK ks) ks.length g ∧ env 3 = .int .i64 (i : Int) ∧ i ≤ ks.length ∧ i ≤ 12 ∧ fewR (12 - i) (ks.drop i) = fewR 12 ks) (fun i => 12 - i) (fun _ => (.tree (.bool (fewR 12 ks && decide (ks.length ≤ 12))), [[]])) ?_ R 0 _ _ (by omega) ⟨(by simp only [zfp, ↓reduceIte, Nat.reduceEqDiff, env0, List.getElem?_cons_zero]; try rfl), (by simp only [zfp, ↓reduceIte, Nat.reduceEqDiff]; try rfl), Nat.zero_le _, Nat.zero_le _, rfl⟩
  intro rr i hr ih env st ⟨e0, e3, hi, hi2, hc⟩
  cases hdr : ks.drop i with
  | nil =>
    have hil : i = ks.length := by have := congrArg List.length hdr; simp only [List.length_drop, List.length_nil] at this; omega
    have q1 : ¬ (i : Int) < (ks.length : Int) := by omega
    have q2 : (ks.length : Int) ≤ 12 := by omega
    have q3 : ks.length ≤ 12 := by omega
    rw [hdr, fewR_nil] at hc
    rw [← hc]
    simp only [simB, zbo, Nat.reduceBEq, own0, ↓reduceIte, Nat.reduceEqDiff, Nat.reduceAdd, simL, simN, Nat.zero_add, e0, e3, lenTk, q1, q2, q3]
    exact finish_b _ _ _ _ _ _ _ (by simp only [zfp, ↓reduceIte, Nat.reduceEqDiff]; try rfl) rfl
  | cons kid r =>
    have hil : i < ks.length := by have := congrArg List.length hdr; simp only [List.length_drop, List.length_cons] at this; omega
    have q1 : (i : Int) < (ks.length : Int) := by omega
    by_cases h12 : i = 12
    · have q2 : ¬ (i : Int) < 12 := by omega
      have q3 : ¬ ((ks.length : Int) ≤ 12) := by omega
      have q4 : ¬ (ks.length ≤ 12) := by omega
      rw [decide_eq_false q4, Bool.and_false]
      simp only [simB, zbo, Nat.reduceBEq, own0, ↓reduceIte, Nat.reduceEqDiff, Nat.reduceAdd, simL, simN, Nat.zero_add, e0, e3, lenTk, q1, q2, q3]
      exact finish_b _ _ _ _ _ _ _ (by simp only [zfp, ↓reduceIte, Nat.reduceEqDiff]; try rfl) rfl
    have q2 : (i : Int) < 12 := by omega
    obtain ⟨n, hn⟩ : ∃ n, 12 - i = n + 1 := ⟨11 - i, by omega⟩
    rw [hdr, hn] at hc
    simp only [fewR] at hc
    have kb := bigK_at R ks i kid r hdr hb
    have kf := fewK_at R ks i kid r hdr hf
    have cli := fun D st => callA_trees (cfg := cfg0) (d := D) (s := st) (f := 31) (vs := [encT kid, .int .i64 100]) rfl (Light_eq R hR hR2 d' kid 100 (by decide) (by decide) (by omega) kb kf)
    have ia := fun st => ia_K st ks g i hil
    rw [hdr] at ia
    have ld := fun st => ld_K st kid r
    simp only [encT] at cli ld
    by_cases hg : lgT kid 100 ≥ 0
    · rw [decide_eq_true hg] at cli hc
      rw [Bool.true_and] at hc
      have f5 := i_add Tryz.prog 3 (i : Int) 1 (by omega) (by omega)
      simp only [simB, zbo, Nat.reduceBEq, own0, ↓reduceIte, Nat.reduceEqDiff, Nat.reduceAdd, simL, simN, Nat.zero_add, e0, e3, lenTk, q1, q2, ia, ld, cli, unA_not', Bool.not_true, f5]
      exact ih (i + 1) _ _ (by omega) rfl ⟨(by simp only [zfp, ↓reduceIte, Nat.reduceEqDiff, e0]; try rfl), (by simp only [zfp, ↓reduceIte, Nat.reduceEqDiff]; try rfl), by omega, by omega, by rw [drop_next hdr, show 12 - (i + 1) = n by omega]; exact hc⟩
    · rw [decide_eq_false hg] at cli hc
      rw [Bool.false_and] at hc
      rw [← hc, Bool.false_and]
      simp only [simB, zbo, Nat.reduceBEq, own0, ↓reduceIte, Nat.reduceEqDiff, Nat.reduceAdd, simL, simN, Nat.zero_add, e0, e3, lenTk, q1, q2, ia, ld, cli, unA_not', Bool.not_false]
      exact finish_b _ _ _ _ _ _ _ (by simp only [zfp, ↓reduceIte, Nat.reduceEqDiff]; try rfl) rfl
theorem moreK (s : St) (vs : List T) (g : Grip) : moreA Tryz.prog 29 6 (some 22) s (.sl (cellsK vs) vs.length g) = some (cellsK vs, vs.length) := by
  simp only [moreA, Option.map_some, tkTk, cellsK_len, ↓reduceIte]
theorem roomK (n : Nat) (h : n ≤ 1000000) : n * byOf Tryz.prog 29 ≤ 140737488355328 ∧ n ≤ 9223372036854775807 := by
  have hb := of_decide_eq_true by28
  have : n * byOf Tryz.prog 29 ≤ 1000000 * 200 := Nat.mul_le_mul h hb
  omega
theorem appN (d : Nat) (s : St) (vs : List T) (g : Grip) (h : vs.length ≤ 1000000) : appendA Tryz.prog #[22, 22] d s (.sl [] 0 .nil) (.sl (cellsK vs) vs.length g) = some (.sl (cellsK vs) vs.length (.tok d ((s d).t + 1)), upd s d ⟨(s d).t + 1, .tok 6⟩) := by
  have hr := roomK vs.length h
  simp only [appendA, List.getElem?_toArray, List.getElem?_cons_zero, List.getElem?_cons_succ, Option.map_some, tkTk, eszT, Option.bind_some, moreK, baseA, List.length_nil, Nat.zero_mul, ↓reduceIte, zl28, and_true, Nat.zero_add, List.nil_append]
  rw [if_pos hr]
end Go.Ab

/- The statement BifOrders, its end. Conditions: terms that may be. -/
namespace Go.Ab
open Go.Proofs
set_option maxRecDepth 100000
set_option linter.unusedSimpArgs false

mutual
theorem few_node (N : Nat) : ∀ t : T, leanT t → nodT t ≤ N → 41 ≤ N → fewT (N + 1) t
  | .mk k b lg l s m kg ks, h, hn, h41 => by
    simp only [leanT] at h
    simp only [nodT] at hn
    have := nodK_len ks
    simp only [fewT]
    exact ⟨by omega, by omega, few_nodeK N ks h.2.2 (by omega) h41⟩
theorem few_nodeK (N : Nat) : ∀ ks : List T, leanK ks → nodK ks ≤ N → 41 ≤ N → fewK (N + 1) ks
  | [], _, _, _ => by simp only [fewK]
  | t :: r, h, hn, h41 => by
    simp only [leanK] at h
    simp only [nodK] at hn
    have := nod_pos t
    simp only [fewK]
    exact ⟨few_node N t h.1 (by omega) h41, few_nodeK N r h.2 (by omega) h41⟩
end
mutual
theorem fewT_le {m m' : Nat} (h : m ≤ m') : ∀ t : T, fewT m t → fewT m' t
  | .mk k b lg l s n kg ks, ht => by
    simp only [fewT] at ht ⊢
    exact ⟨by omega, by omega, fewK_le h ks ht.2.2⟩
theorem fewK_le {m m' : Nat} (h : m ≤ m') : ∀ ks : List T, fewK m ks → fewK m' ks
  | [], _ => by simp only [fewK]
  | t :: r, ht => by
    simp only [fewK] at ht ⊢
    exact ⟨fewT_le h t ht.1, fewK_le h r ht.2⟩
end
section
variable (R : Nat) (hR : 1000000 ≤ R) (a b : T) (l : List T) (n : Int) (ga : goodT a) (gb : goodT b) (na : nodT a ≤ 200) (nb : nodT b ≤ 200)
include hR na nb
omit na nb in
include ga in
end
end Go.Ab

/- relictlaw00.Term: a term in new memory (CFG3). Conditions: lengths in range. -/
namespace Go.Ab
open Go.Proofs
set_option maxRecDepth 100000
set_option linter.unusedSimpArgs false

noncomputable def prim3 (f : FuncId) (xs : List Arg) : Option Out := match f == 21 with
  | true => none
  | false => evalFn Tryz.prog cfg0 9223372036854775808 6190 f xs
noncomputable def cfg3 : Cfg := ⟨fun _ _ => false, fun _ => false, prim3, fun p => p == "=law.go:33"⟩
theorem own3 (p : String) : cfg3.ownAt p = (p == "=law.go:33") := rfl
theorem keep3 (f : FuncId) : cfg3.keep f = false := rfl
theorem ev3 {n d : Nat} {f : FuncId} {xs : List Arg} {o : Out} (h1 : (f == 21) = false) (h : evalFn Tryz.prog cfg0 9223372036854775808 6190 f xs = some o) : evalFn Tryz.prog cfg3 n (d+1) f xs = some o := by
  have hc : cfg3.prim = prim3 := rfl
  have hp : prim3 f xs = some o := by unfold prim3; rw [h1]; exact h
  rw [evalFn]
  simp only [hc, hp]
def setK : T → Gk → List T → T
  | .mk k b lg l s n _ _, kg, us => .mk k b lg l s n kg us
def TermM (e : Ent) (u : T) (us : List T) (x : AV) : Prop := (us = [] ∧ x = .sl [] 0 .nil ∧ e = ⟨1, .buf (cellsT (setK u .n []))⟩) ∨ (us ≠ [] ∧ ∃ q t, x = .sl (cellsK us) us.length (.tok q t) ∧ e = ⟨1, .mix (cellsT (setK u .l us)) [(5, x)]⟩)
theorem TermM.fa {e : Ent} {u : T} {us : List T} {x : AV} (h : TermM e u us x) (p : Nat) : faE e p 1 5 = some (.ptr p 1 5) := by
  rcases h with ⟨_, _, rfl⟩ | ⟨_, q, t, _, rfl⟩
  · rw [zes, if_pos rfl]
  · rw [faE_mix, if_pos rfl]
theorem ldT_sK (t k : Nat) (u : T) (kg : Gk) (us : List T) : ldE Tryz.prog 22 ⟨t, .buf (cellsT (setK u kg us))⟩ k 5 = if t = k then some (.sl (cellsK us) us.length (gr kg)) else none := by
  obtain ⟨a, b, c, d, e, f, g, h⟩ := u
  exact ldT_4 _ _ _ _ _ _ _ _
theorem TermM.ld {e : Ent} {u : T} {us : List T} {x : AV} (h : TermM e u us x) : ldE Tryz.prog 22 e 1 5 = some x := by
  rcases h with ⟨_, rfl, rfl⟩ | ⟨_, q, t, _, rfl⟩
  · exact (ldT_sK 1 1 u .n []).trans (if_pos rfl)
  · exact (ldE_mixK 1 1 _ x).trans (if_pos rfl)
theorem TermM.all {e : Ent} {u : T} {us : List T} {x : AV} (h : TermM e u us x) : ldE Tryz.prog 29 e 1 0 = some (.agg (cellsT (setK u (kgOf us) us))) := by
  rcases h with ⟨rfl, _, rfl⟩ | ⟨hu, q, t, _, rfl⟩
  · exact (ldT_u 1 1 _).trans (if_pos rfl)
  · rw [kgOf, if_neg hu]
    exact (ldE_mixT 1 1 _ _).trans (if_pos rfl)
theorem set5 (u : T) (kg : Gk) (us vs : List T) : (cellsT (setK u kg us)).set 5 (.sl (cellsK vs) vs.length .loose) = cellsT (setK u .l vs) := by
  obtain ⟨a, b, c, d, e, f, g, h⟩ := u
  rfl
theorem TermM.store {s : St} {p : Nat} {u : T} {us vs : List T} {x x' : AV} {d : Nat} {s0 : St} (h : TermM (s p) u us x) (ha : Ap s0 d x' vs) (hv : vs ≠ []) :
    ∃ s', storeH Tryz.prog 22 s (.ptr p 1 5) x' = some s' ∧ (∀ q, q ≠ p → s' q = s q) ∧ TermM (s' p) u vs x' := by
  rcases ha with ⟨rfl, _⟩ | ⟨_, t, rfl, _⟩
  · exact absurd rfl hv
  refine ⟨upd s p ⟨1, .mix (cellsT (setK u .l vs)) [(5, .sl (cellsK vs) vs.length (.tok d t))]⟩, ?_, fun q hq => upd_ne _ _ hq, .inr ⟨hv, d, t, rfl, upd_same _ _ _⟩⟩
  rcases h with ⟨rfl, rfl, he⟩ | ⟨hu, q, t', rfl, he⟩
  · simp only [storeH, he, eszTk]
    rw [if_pos ⟨trivial, trivial, by rw [cellsT_len]; decide⟩, set5]
  · simp only [storeH, he, eszTk]
    rw [if_pos ⟨trivial, trivial, by rw [cellsT_len]; decide⟩, set5]
    rfl
theorem htK_J : ∀ (ks : List T) (i : Nat) (t : T) (r : List T), ks.drop i = t :: r → htT t ≤ htK ks
  | [], i, t, r, h => by simp at h
  | a :: q, 0, t, r, h => by
    simp only [List.drop_zero, List.cons.injEq] at h
    obtain ⟨rfl, rfl⟩ := h
    simp only [htK]; omega
  | a :: q, i + 1, t, r, h => by
    have := htK_J q i t r (by simpa using h)
    simp only [htK]; omega
mutual
def copyT : T → T
  | .mk k b _ l s n _ ks => .mk k b .l l s n (kgOf (copyK ks)) (copyK ks)
def copyK : List T → List T
  | [] => []
  | t :: r => copyT t :: copyK r
end
theorem copyK_map : ∀ ks : List T, copyK ks = ks.map copyT
  | [] => by simp only [copyK, List.map_nil]
  | t :: r => by simp only [copyK, List.map_cons, copyK_map r]
theorem bdT_full (k : Int) (b : Bool) (g : Gk) (l : List Nat) (s : List UInt8) (n : Int) : buildA Tryz.prog 29 [(0, .int .i64 k), (1, .agg [.bool b, encL g l]), (2, .str s), (3, .int .i64 n)] = some (.agg (cellsT (.mk k b g l s n .n []))) := by
  simp only [buildA, zeroT, tkT, plT, Option.bind_some]
  cases g <;> rfl
theorem one26_c3 (call : FuncId → List Arg → Option Out) (q : Bool) (d : Option Tmp) (ty : TypeId) (pos : String) (af : Array Edge) (g : Option (Nat × Bool)) (t : Nat) (env : Env) (s : St) (x : Operand) :
    opA Tryz.prog cfg3 call q ⟨d, .buildSlice 22 1 #[(0, x)], ty, pos, af, g⟩ t env s = (one26 (ev env x)).map (·, s) := by
  rw [opA_bs]
  simp only [tkTk, eszT, zeroT, Option.bind_some, List.map_cons, List.map_nil]
  rfl
theorem one26_KU (e : T) : one26 (.agg (cellsT e)) = some (.sl (cellsT e) 1 .tight) := by
  have := one26_K1 e
  simp only [cellsK, List.append_nil] at this
  exact this
set_option maxHeartbeats 16000000 in
theorem term3_eq (n : Nat) (hn : 100000 ≤ n) : ∀ (d : Nat) (t : T), htT t ≤ d → fewT 100000 t → evalFn Tryz.prog cfg3 n (d+1) 21 [.tree (encT t)] = some (.tree (encT (copyT t)), [[]])
  | 0, t, hd, _ => by obtain ⟨k, b, lg, l, s, m, kg, ks⟩ := t; simp only [htT] at hd; omega
  | d + 1, t, hd, hf => by
    have IH := term3_eq n hn d
    rw [evalFn_go _ Tryz.func21 (by unfold Tryz.f21; rfl) (by unfold Tryz.f21; decide) (Nat.le_of_ble_eq_true (by unfold Tryz.f21; rfl)) (by kernel_rfl)]
    obtain ⟨k, b, lg, l, s, m, kg, ks⟩ := t
    simp only [htT] at hd
    simp only [fewT] at hf
    obtain ⟨hl, hk, hfk⟩ := hf
    have cn := callQ_trees (f := 50) (vs := [encA b lg l]) (by cases lg <;> rfl) (ev3 (n := n) (d := d) rfl (copyN_eq 9223372036854775808 6188 b lg l (by omega)))
    simp only [encA] at cn
    have bd := bdT_full k b .l l s m
    simp only [simB, keep3, Nat.reduceBEq, own3, String.reduceAppend, String.reduceBEq, Bool.or_false, Bool.or_true, Bool.or_self, ↓reduceIte, Nat.reduceEqDiff, Nat.reduceAdd, simA, simL, simN, Nat.zero_add, encT, zeroT, cellsT, ldT_a, ldT_0, ldT_1, ldT_2, ldT_3, ldT_4, faT_0, faT_1, faT_2, faT_3, faT_4, Nat.reduceAdd, cn, bd, st_T, stT_buf, st0_1, zel, den_loop]
    refine loop_ends (X := Nat) (fun i env s' => env 1 = .ptr 1 1 0 ∧ env 2 = .ptr 2 1 0 ∧ env 3 = .ptr 3 1 0 ∧ env 4 = .int .i64 (i : Int) ∧ s' 1 = ⟨1, .buf (cellsT (.mk k b lg l s m kg ks))⟩ ∧ s' 2 = ⟨1, .buf [.int .i64 0, .bool false, .sl [] 0 .nil, .str [], .int .i64 0, .sl [] 0 .nil]⟩ ∧ (∃ x, Ap s' 31 x ((ks.take i).map copyT) ∧ TermM (s' 3) (.mk k b .l l s m .n []) ((ks.take i).map copyT) x) ∧ i ≤ ks.length) (fun i => ks.length - i) (fun _ => (.tree (encT (copyT (.mk k b lg l s m kg ks))), [[]])) ?_ n 0 _ _ (by omega) ⟨(by simp only [zfp, ↓reduceIte, Nat.reduceEqDiff]; try rfl), (by simp only [zfp, ↓reduceIte, Nat.reduceEqDiff]; try rfl), (by simp only [zfp, ↓reduceIte, Nat.reduceEqDiff]; try rfl), (by simp only [zfp, ↓reduceIte, Nat.reduceEqDiff]; try rfl), by simp only [cellsT]; exact (by simp only [zfp, ↓reduceIte, Nat.reduceEqDiff]; try rfl), (by simp only [zfp, ↓reduceIte, Nat.reduceEqDiff]; try rfl), ⟨.sl [] 0 .nil, .inl ⟨rfl, rfl⟩, .inl ⟨rfl, rfl, (by simp only [zfp, ↓reduceIte, Nat.reduceEqDiff]; try rfl)⟩⟩, Nat.zero_le _⟩
    rintro rr i hrr ih2 env st ⟨e1, e2, e3, e4, j1, j2, ⟨x, ap, tm⟩, hi⟩
    simp only [cellsT] at j1
    cases hdr : ks.drop i with
    | nil =>
      have hil : i = ks.length := by have := congrArg List.length hdr; simp only [List.length_drop, List.length_nil] at this; omega
      subst hil
      rw [List.take_length] at tm
      have q1 : ¬ ((ks.length : Int) < (ks.length : Int)) := by omega
      have ta := tm.all
      have hc : copyT (.mk k b lg l s m kg ks) = setK (.mk k b .l l s m .n []) (kgOf (ks.map copyT)) (ks.map copyT) := by simp only [copyT, copyK_map, setK]
      rw [hc]
      simp only [simB, keep3, Nat.reduceBEq, own3, String.reduceAppend, String.reduceBEq, Bool.or_false, Bool.or_true, Bool.or_self, ↓reduceIte, Nat.reduceEqDiff, Nat.reduceAdd, simL, simN, Nat.zero_add, e1, e2, e3, e4, j1, j2, faT_4, Nat.reduceAdd, ldT_4, lenTk, q1, ta, st_Tt, stT_6]
      exact finish_cT _ _ _ _ _ (setK (.mk k b .l l s m .n []) (kgOf (ks.map copyT)) (ks.map copyT)) _ _ _ (by simp only [zfp, ↓reduceIte, Nat.reduceEqDiff, e2]; try rfl) (by simp only [zfp, ↓reduceIte, Nat.reduceEqDiff]; try rfl) rfl
    | cons kid r =>
      have hil : i < ks.length := by have := congrArg List.length hdr; simp only [List.length_drop, List.length_cons] at this; omega
      have q1 : (i : Int) < (ks.length : Int) := by omega
      have hkd := htK_J ks i kid r hdr
      have ck := callQ_trees (f := 21) (vs := [encT kid]) rfl (IH kid (by omega) (fewK_at 100000 ks i kid r hdr hfk))
      have ia := fun st => ia_K st ks (gr kg) i hil
      rw [hdr] at ia
      have ld := fun st => ld_K st kid r
      have hx : ks[i]? = some kid := by rw [← Nat.add_zero i, ← List.getElem?_drop, hdr]; rfl
      have hm : (ks.take (i + 1)).map copyT = (ks.take i).map copyT ++ [copyT kid] := by
        rw [List.take_add_one, hx, List.map_append]; rfl
      have hlen : ((ks.take i).map copyT).length ≤ 1000000 := by rw [List.length_map, List.length_take]; omega
      obtain ⟨x', s', a1', a2', a3'⟩ := ap.push hlen (copyT kid)
      have tf := tm.fa 3
      have tl := tm.ld
      have h3 : s' 3 = st 3 := a3' 3 (by decide)
      have h1' : s' 1 = st 1 := a3' 1 (by decide)
      rw [j1] at h1'
      have tm3 : TermM (s' 3) (.mk k b .l l s m .n []) ((ks.take i).map copyT) x := by rw [h3]; exact tm
      obtain ⟨s2, b1, b2, b3⟩ := tm3.store a2' (by simp)
      have f5 := i_add Tryz.prog 3 (i : Int) 1 (by omega) (by omega)
      have tf' := tm3.fa 3
      simp only [encT] at ld ck
      simp only [simB, keep3, Nat.reduceBEq, own3, String.reduceAppend, String.reduceBEq, Bool.or_false, Bool.or_true, Bool.or_self, ↓reduceIte, Nat.reduceEqDiff, Nat.reduceAdd, simL, simN, Nat.zero_add, e1, e2, e3, e4, j1, j2, faT_4, Nat.reduceAdd, ldT_4, lenTk, q1, tf, tl, ia, ld, ck, one26_c3, one26_KU, a1', h1', tf', b1, f5]
      refine ih2 (i + 1) _ _ (by omega) rfl ⟨(by simp only [zfp, ↓reduceIte, Nat.reduceEqDiff, e1]; try rfl), (by simp only [zfp, ↓reduceIte, Nat.reduceEqDiff, e2]; try rfl), (by simp only [zfp, ↓reduceIte, Nat.reduceEqDiff, e3]; try rfl), (by simp only [zfp, ↓reduceIte, Nat.reduceEqDiff]; try rfl), ?_, ?_, ⟨x', ?_, ?_⟩, by omega⟩
      · rw [b2 1 (by decide), h1']; simp only [cellsT]
      · rw [b2 2 (by decide), a3' 2 (by decide), j2]
      · rw [hm]
        rcases a2' with ⟨g1, _⟩ | ⟨g1, tt, g2, g3⟩
        · exact absurd g1 (by simp)
        · exact .inr ⟨g1, tt, g2, by rw [b2 31 (by decide)]; exact g3⟩
      · rw [hm]; exact b3
end Go.Ab

/- relictlaw00.SameTerm of terms that differ in their rows' room alone. Conditions: lengths in range. -/
namespace Go.Ab
open Go.Proofs
set_option maxRecDepth 100000
set_option linter.unusedSimpArgs false

mutual
def bareT : T → T
  | .mk k b _ l s n _ ks => .mk k b .n l s n .n (bareK ks)
def bareK : List T → List T
  | [] => []
  | t :: r => bareT t :: bareK r
end
theorem bareK_len : ∀ ks : List T, (bareK ks).length = ks.length
  | [] => rfl
  | t :: r => by simp only [bareK, List.length_cons, bareK_len r]
theorem bareK_drop : ∀ (i : Nat) (ks : List T), bareK (ks.drop i) = (bareK ks).drop i
  | 0, ks => by simp
  | i + 1, [] => rfl
  | i + 1, t :: r => by simp only [List.drop_succ_cons, bareK, bareK_drop i r]
mutual
theorem bare_copy : ∀ t : T, bareT (copyT t) = bareT t
  | .mk k b lg l s n kg ks => by simp only [copyT, bareT, bareK_copy ks]
theorem bareK_copy : ∀ ks : List T, bareK (copyK ks) = bareK ks
  | [] => rfl
  | t :: r => by simp only [copyK, bareK, bare_copy t, bareK_copy r]
end
set_option maxHeartbeats 16000000 in
theorem sameX_eq (n : Nat) (hn : 100000 ≤ n) : ∀ (d : Nat) (x y : T), htT x ≤ d → fewT 100000 x → bareT x = bareT y →
    evalFn Tryz.prog cfg0 n (d+2) 11 [.tree (encT x), .tree (encT y)] = some (.tree (.bool true), [[], []])
  | 0, x, y, hd, _, _ => by obtain ⟨k, b, lg, l, s, m, kg, ks⟩ := x; simp only [htT] at hd; omega
  | d + 1, x, y, hd, hf, hb => by
    have IH := sameX_eq n hn d
    rw [evalFn_go _ Tryz.func11 (by unfold Tryz.f11; rfl) (by unfold Tryz.f11; decide) (Nat.le_of_ble_eq_true (by unfold Tryz.f11; rfl)) (by kernel_rfl)]
    obtain ⟨k, b, lg, l, s, m, kg, ks⟩ := x
    obtain ⟨k', b', lg', l', s', m', kg', ks'⟩ := y
    simp only [bareT, T.mk.injEq, true_and] at hb
    obtain ⟨rfl, rfl, rfl, rfl, rfl, hb⟩ := hb
    have hkl : ks.length = ks'.length := by have := congrArg List.length hb; rwa [bareK_len, bareK_len] at this
    simp only [htT] at hd
    simp only [fewT] at hf
    obtain ⟨hl, hk, hfk⟩ := hf
    have cn := fun D st => callA_trees (cfg := cfg0) (d := D) (s := st) (f := 39) (vs := [encA b lg l, encA b lg' l]) (by cases lg <;> cases lg' <;> rfl) (sameN_eq n d b lg lg' l (by omega) (by omega))
    simp only [encA] at cn
    have w1 : (k != k) = false := by simp
    have w2 : (m != m) = false := by simp
    have w3 : (!(s == s)) = false := by simp
    have w4 : ((ks'.length : Int) != (ks'.length : Int)) = false := by simp
    simp only [simB, zbo, Nat.reduceBEq, own0, ↓reduceIte, Nat.reduceEqDiff, Nat.reduceAdd, simA, simL, simN, Nat.zero_add, encT, cellsT, hkl, ldT_0, ldT_1, ldT_2, ldT_3, ldT_4, faT_0, faT_1, faT_2, faT_3, faT_4, Nat.reduceAdd, i_neqV, i_eqlV, s_eqlS, s_neqS, w1, w2, w3, w4, cn, unA_not', Bool.not_true, lenTk, st0_2, zel, den_loop]
    refine loop_ends (X := Nat) (fun i env s' => env 2 = .ptr 2 1 0 ∧ env 3 = .ptr 3 1 0 ∧ env 5 = .int .i64 (i : Int) ∧ s' 2 = ⟨1, .buf (cellsT (.mk k b lg l s m kg ks))⟩ ∧ s' 3 = ⟨1, .buf (cellsT (.mk k b lg' l s m kg' ks'))⟩ ∧ i ≤ ks.length) (fun i => ks.length - i) (fun _ => (.tree (.bool true), [[], []])) ?_ n 0 _ _ (by omega) ⟨(by simp only [zfp, ↓reduceIte, Nat.reduceEqDiff]; try rfl), (by simp only [zfp, ↓reduceIte, Nat.reduceEqDiff]; try rfl), (by simp only [zfp, ↓reduceIte, Nat.reduceEqDiff]; try rfl), by simp only [cellsT, hkl]; exact (by simp only [zfp, ↓reduceIte, Nat.reduceEqDiff]; try rfl), by simp only [cellsT]; exact (by simp only [zfp, ↓reduceIte, Nat.reduceEqDiff]; try rfl), Nat.zero_le _⟩
    rintro rr i hrr ih2 env st ⟨e2, e3, e5, j2, j3, hi⟩
    simp only [cellsT] at j2 j3
    cases hdr : ks.drop i with
    | nil =>
      have hil : i = ks.length := by have := congrArg List.length hdr; simp only [List.length_drop, List.length_nil] at this; omega
      subst hil
      have q1 : ¬ ((ks.length : Int) < (ks.length : Int)) := by omega
      simp only [simB, zbo, Nat.reduceBEq, own0, ↓reduceIte, Nat.reduceEqDiff, Nat.reduceAdd, simL, simN, Nat.zero_add, e2, e3, e5, j2, j3, faT_4, Nat.reduceAdd, ldT_4, lenTk, q1]
      exact finish_b _ _ _ _ _ _ _ (by simp only [zfp, ↓reduceIte, Nat.reduceEqDiff]; try rfl) rfl
    | cons kid r =>
      have hil : i < ks.length := by have := congrArg List.length hdr; simp only [List.length_drop, List.length_cons] at this; omega
      have q1 : (i : Int) < (ks.length : Int) := by omega
      have hkd := htK_J ks i kid r hdr
      have hbd : bareT kid :: bareK r = bareK (ks'.drop i) := by rw [bareK_drop, ← hb, ← bareK_drop, hdr]; rfl
      cases hdr' : ks'.drop i with
      | nil => rw [hdr'] at hbd; cases hbd
      | cons kid' r' =>
      rw [hdr'] at hbd
      simp only [bareK, List.cons.injEq] at hbd
      have ck := callQ_trees (f := 11) (vs := [encT kid, encT kid']) rfl (IH kid kid' (by omega) (fewK_at 100000 ks i kid r hdr hfk) hbd.1)
      have ia := fun st => ia_K st ks (gr kg) i hil
      have ia' := fun st => ia_K st ks' (gr kg') i (by omega)
      rw [hdr] at ia
      rw [hdr'] at ia'
      have ld := fun st => ld_K st kid r
      have ld' := fun st => ld_K st kid' r'
      have f5 := i_add Tryz.prog 3 (i : Int) 1 (by omega) (by omega)
      simp only [encT] at ld ld' ck
      simp only [simB, zbo, Nat.reduceBEq, own0, ↓reduceIte, Nat.reduceEqDiff, Nat.reduceAdd, simL, simN, Nat.zero_add, e2, e3, e5, j2, j3, faT_4, Nat.reduceAdd, ldT_4, lenTk, q1, ia, ia', ld, ld', ck, unA_not', Bool.not_true, f5]
      exact ih2 (i + 1) _ _ (by omega) rfl ⟨(by simp only [zfp, ↓reduceIte, Nat.reduceEqDiff, e2]; try rfl), (by simp only [zfp, ↓reduceIte, Nat.reduceEqDiff, e3]; try rfl), (by simp only [zfp, ↓reduceIte, Nat.reduceEqDiff]; try rfl), by simp only [cellsT]; exact (by simp only [zfp, ↓reduceIte, Nat.reduceEqDiff, j2]; try rfl), by simp only [cellsT]; exact (by simp only [zfp, ↓reduceIte, Nat.reduceEqDiff, j3]; try rfl), by omega⟩
end Go.Ab

/- bif.Arith and relictref19.Arith. Conditions: limbs in range. -/
namespace Go.Ab
open Go.Proofs
set_option maxRecDepth 100000
set_option linter.unusedSimpArgs false

def lgT' : T → Gk
  | .mk _ _ lg _ _ _ _ _ => lg
end Go.Ab

/- relictref03.Items of any term; bif.One, relictref19.One. Conditions: so many nodes at most. -/
namespace Go.Ab
open Go.Proofs
set_option maxRecDepth 100000
set_option linter.unusedSimpArgs false

theorem itR_k3 (r : Nat) (k : Int) (b : Bool) (lg : Gk) (l : List Nat) (s : List UInt8) (n : Int) (kg : Gk) (ks acc : List T) (h : k = 3) : itT (r + 1) (.mk k b lg l s n kg ks) acc = some acc := by rw [itT_mk, if_pos h]
theorem itR_no (r : Nat) (k : Int) (b : Bool) (lg : Gk) (l : List Nat) (s : List UInt8) (n : Int) (kg : Gk) (ks acc : List T) (h : k ≠ 3) (h4 : k ≠ 4) : itT (r + 1) (.mk k b lg l s n kg ks) acc = none := by rw [itT_mk, if_neg h, if_neg h4]
theorem itR_n2 (r : Nat) (k : Int) (b : Bool) (lg : Gk) (l : List Nat) (s : List UInt8) (n : Int) (kg : Gk) (ks acc : List T) (h : k ≠ 3) (h4 : k = 4) (h2 : ks.length ≠ 2) : itT (r + 1) (.mk k b lg l s n kg ks) acc = none := by
  rw [itT_mk, if_neg h, if_pos h4]
  match ks, h2 with
  | [], _ => rfl
  | [_], _ => rfl
  | [_, _], h => exact absurd rfl h
  | _ :: _ :: _ :: _, _ => rfl
theorem itR_2 (r : Nat) (k : Int) (b : Bool) (lg : Gk) (l : List Nat) (s : List UInt8) (n : Int) (kg : Gk) (x u : T) (acc : List T) (h : k ≠ 3) (h4 : k = 4) : itT (r + 1) (.mk k b lg l s n kg [x, u]) acc = itT r u (acc ++ [x]) := by
  rw [itT_mk, if_neg h, if_pos h4]
theorem itT_len : ∀ (r : Nat) (t : T) (acc us : List T), itT r t acc = some us → us.length ≤ acc.length + nodT t
  | 0, _, _, _, h => by cases h
  | r + 1, .mk k b lg l s n kg ks, acc, us, h => by
    by_cases k3 : k = 3
    · rw [itR_k3 _ _ _ _ _ _ _ _ _ _ k3] at h; cases h; omega
    by_cases k4 : k = 4
    · by_cases k2 : ks.length = 2
      · obtain ⟨x, u, rfl⟩ : ∃ x u, ks = [x, u] := by
          match ks, k2 with
          | [x, u], _ => exact ⟨x, u, rfl⟩
        rw [itR_2 _ _ _ _ _ _ _ _ _ _ _ k3 k4] at h
        have := itT_len r u _ us h
        simp only [List.length_append, List.length_cons, List.length_nil] at this
        have hx := nod_pos x
        simp only [nodT, nodK]
        omega
      · rw [itR_n2 _ _ _ _ _ _ _ _ _ _ k3 k4 k2] at h; cases h
    · rw [itR_no _ _ _ _ _ _ _ _ _ _ k3 k4] at h; cases h
set_option maxHeartbeats 8000000 in
theorem rItemsA_eq (R d : Nat) (t0 : T) (hn : nodT t0 ≤ 1999) (hR : 2010 ≤ R) : evalFn Tryz.prog cfg0 R (d+1) 55 [.tree (encT t0)] = some (.tree (itemsV (itemsT t0)), [[]]) := by
  rw [evalFn_go _ Tryz.func55 (by unfold Tryz.f55; rfl) (by unfold Tryz.f55; decide) (Nat.le_of_ble_eq_true (by unfold Tryz.f55; rfl)) (by kernel_rfl)]
  simp only [simB, zbo, Nat.reduceBEq, own0, ↓reduceIte, Nat.reduceEqDiff, Nat.reduceAdd, simA, simN, Nat.zero_add, encT, den_loop]
  refine loop_ends (X := T × List T) (fun x env s => env 1 = .ptr 1 1 0 ∧ s 1 = ⟨1, .buf (cellsT x.1)⟩ ∧ Ap s 23 (env 4) x.2 ∧ x.2.length + nodT x.1 ≤ 1999 ∧ itT (2001 - x.2.length) x.1 x.2 = itemsT t0) (fun x => 2001 - x.2.length) (fun _ => (.tree (itemsV (itemsT t0)), [[]])) ?_ R (t0, []) _ _ (by simp only [List.length_nil]; omega) ⟨(by simp only [zfp, ↓reduceIte, Nat.reduceEqDiff]; try rfl), (by simp only [zfp, ↓reduceIte, Nat.reduceEqDiff]; try rfl), .inl ⟨rfl, (by simp only [zfp, ↓reduceIte, Nat.reduceEqDiff]; try rfl)⟩, by simpa using hn, rfl⟩
  rintro rd ⟨t, acc⟩ hrd ih env st ⟨e1, j1, ap, hl, hit⟩
  simp only at j1 ap hl hit hrd
  have hnp := nod_pos t
  rw [← hit]
  generalize h4 : env 4 = x4 at ap
  have la : ∀ st, lenA Tryz.prog 22 st x4 = some (.int .i64 (acc.length : Int)) := fun st => by
    rcases ap with ⟨rfl, rfl⟩ | ⟨_, tt, rfl, _⟩
    · exact lenTk st [] 0 .nil
    · exact lenTk st _ _ _
  obtain ⟨r, hr⟩ : ∃ r, 2001 - acc.length = r + 1 := ⟨2000 - acc.length, by omega⟩
  rw [hr] at hit ⊢
  obtain ⟨k, b, lg, l, s, m, kg, ks⟩ := t
  simp only [cellsT] at j1
  by_cases k4 : k = 4
  rotate_left
  · have q4 : (k == 4) = false := beq_eq_false_iff_ne.mpr k4
    by_cases k3 : k = 3
    · rw [itR_k3 _ _ _ _ _ _ _ _ _ _ k3]
      have q3 : (k != 3) = false := by rw [k3]; rfl
      simp only [simB, zbo, Nat.reduceBEq, own0, ↓reduceIte, Nat.reduceEqDiff, Nat.reduceAdd, simL, simN, Nat.zero_add, e1, j1, h4, faT_0, ldT_0, i_eqlV, i_neqV, q3, q4]
      exact finish_Kb _ _ _ _ 23 x4 acc _ _ _ _ (by simp only [zfp, ↓reduceIte, Nat.reduceEqDiff]; try rfl) ap (by simp only [zfp, ↓reduceIte, Nat.reduceEqDiff]; try rfl) rfl
    · rw [itR_no _ _ _ _ _ _ _ _ _ _ k3 k4]
      have q3 : (k != 3) = true := bne_iff_ne.mpr k3
      simp only [simB, zbo, Nat.reduceBEq, own0, ↓reduceIte, Nat.reduceEqDiff, Nat.reduceAdd, simL, simN, Nat.zero_add, e1, j1, h4, faT_0, ldT_0, i_eqlV, i_neqV, q3, q4]
      exact finish_Kb _ _ _ _ 23 _ [] _ _ _ _ (by simp only [zfp, ↓reduceIte, Nat.reduceEqDiff]; try rfl) (.inl ⟨rfl, rfl⟩) (by simp only [zfp, ↓reduceIte, Nat.reduceEqDiff]; try rfl) rfl
  have k3 : k ≠ 3 := by omega
  have q4 : (k == 4) = true := by rw [k4]; rfl
  by_cases k2 : ks.length = 2
  rotate_left
  · rw [itR_n2 _ _ _ _ _ _ _ _ _ _ k3 k4 k2]
    have q5 : ((ks.length : Int) != 2) = true := bne_iff_ne.mpr (by omega)
    simp only [simB, zbo, Nat.reduceBEq, own0, ↓reduceIte, Nat.reduceEqDiff, Nat.reduceAdd, simL, simN, Nat.zero_add, e1, j1, h4, faT_0, ldT_0, faT_4, Nat.reduceAdd, ldT_4, lenTk, i_eqlV, i_neqV, q4, q5]
    exact finish_Kb _ _ _ _ 23 _ [] _ _ _ _ (by simp only [zfp, ↓reduceIte, Nat.reduceEqDiff]; try rfl) (.inl ⟨rfl, rfl⟩) (by simp only [zfp, ↓reduceIte, Nat.reduceEqDiff]; try rfl) rfl
  obtain ⟨h, u, rfl⟩ : ∃ h u, ks = [h, u] := by
    match ks, k2 with
    | [h, u], _ => exact ⟨h, u, rfl⟩
  rw [itR_2 _ _ _ _ _ _ _ _ _ _ _ k3 k4] at hit ⊢
  have hnh := nod_pos h
  simp only [nodT, nodK] at hl
  have q5 : (((2 : Nat) : Int) != 2) = false := rfl
  have q6 : ¬ ((acc.length : Int) ≥ 2000) := by omega
  obtain ⟨x', s', a1, a2, a3⟩ := ap.push (by omega) h
  have i0 : ∀ st, indexAddrA Tryz.prog 22 st (.sl (cellsK [h, u]) 2 (gr kg)) (.int .i64 0) = some (.rptr (cellsK [h, u])) := fun st => ia_K st [h, u] (gr kg) 0 (by simp)
  have i1 : ∀ st, indexAddrA Tryz.prog 22 st (.sl (cellsK [h, u]) 2 (gr kg)) (.int .i64 1) = some (.rptr (cellsK [u])) := fun st => ia_K st [h, u] (gr kg) 1 (by simp)
  have l0 := fun st => ld_K st h [u]
  have l1 := fun st => ld_K st u []
  simp only [encT] at l0 l1
  simp only [List.length_cons, List.length_nil, Nat.zero_add, Nat.reduceAdd] at j1
  have j1' : s' 1 = st 1 := a3 1 (by decide)
  rw [j1] at j1'
  simp only [simB, zbo, Nat.reduceBEq, own0, ↓reduceIte, Nat.reduceEqDiff, Nat.reduceAdd, simL, simN, Nat.zero_add, e1, j1, h4, la, faT_0, ldT_0, faT_4, Nat.reduceAdd, ldT_4, lenTk, i_eqlV, i_neqV, q4, q5, q6, i0, l0, opA_one26, one26_KU, a1, j1', i1, l1, st_Tt, stT_6]
  rw [hit]
  refine ih (u, acc ++ [h]) _ _ (by simp; omega) rfl ⟨(by simp only [zfp, ↓reduceIte, Nat.reduceEqDiff, e1]; try rfl), (by simp only [zfp, ↓reduceIte, Nat.reduceEqDiff]; try rfl), ?_, by simp only [List.length_append, List.length_cons, List.length_nil]; omega, ?_⟩
  · rcases a2 with ⟨g1, _⟩ | ⟨g1, tt, g2, g3⟩
    · exact absurd g1 (by simp)
    · exact .inr ⟨g1, tt, (by simp only [zfp, ↓reduceIte, Nat.reduceEqDiff, g2]; try rfl), by rw [upd_ne _ _ (by decide)]; exact g3⟩
  · simp only [List.length_append, List.length_cons, List.length_nil]
    rw [show 2001 - (acc.length + (0 + 1)) = r by omega]
    exact hit
end Go.Ab

/- bif.One, relictref19.One. Conditions: so many nodes at most. -/
namespace Go.Ab
open Go.Proofs
set_option maxRecDepth 100000
set_option linter.unusedSimpArgs false

def oneT (f : Int → T) (op : Int) (t : T) : T × Bool :=
  if (op = 1 ∨ op = 2) ∧ kindT t = 4 ∧ (kidsT t).length = 2 then ((kidsT t).getD (op.toNat - 1) T0, true)
  else if op = 3 ∧ kindT t = 5 then (f (kidsT t).length, true)
  else if op = 4 ∧ kindT t = 6 then (f (strT t).length, true)
  else if op = 5 then (match itemsT t with | some us => (f us.length, true) | none => (T0, false))
  else (T0, false)
theorem ld_KW (st : St) (t : T) (r : List T) : loadA Tryz.prog 29 st (.rptr (cellsK (t :: r))) = some (.agg (cellsT t)) := ld_K st t r
theorem len_two (ks : List T) (h : ks.length = 2) : ∃ x y, ks = [x, y] := by
  match ks, h with
  | [x, y], _ => exact ⟨x, y, rfl⟩
theorem one_12 (f : Int → T) (op : Int) (t x : T) (h1 : op = 1 ∨ op = 2) (h2 : kindT t = 4) (h3 : (kidsT t).length = 2) (hx : (kidsT t).getD (op.toNat - 1) T0 = x) : oneT f op t = (x, true) := by
  unfold oneT; rw [if_pos ⟨h1, h2, h3⟩, hx]
theorem one_no (f : Int → T) (op : Int) (t : T) (h1 : ¬ ((op = 1 ∨ op = 2) ∧ kindT t = 4 ∧ (kidsT t).length = 2)) (h2 : ¬ (op = 3 ∧ kindT t = 5)) (h3 : ¬ (op = 4 ∧ kindT t = 6)) (h4 : op ≠ 5 ∨ itemsT t = none) : oneT f op t = (T0, false) := by
  unfold oneT; rw [if_neg h1, if_neg h2, if_neg h3]
  by_cases h5 : op = 5
  · rw [if_pos h5, h4.resolve_left (by simp [h5])]
  · rw [if_neg h5]
theorem one_3 (f : Int → T) (t : T) (h : kindT t = 5) : oneT f 3 t = (f (kidsT t).length, true) := by
  unfold oneT; rw [if_neg (by omega), if_pos ⟨rfl, h⟩]
theorem one_4 (f : Int → T) (t : T) (h : kindT t = 6) : oneT f 4 t = (f (strT t).length, true) := by
  unfold oneT; rw [if_neg (by omega), if_neg (by omega), if_pos ⟨rfl, h⟩]
theorem one_5 (f : Int → T) (t : T) (us : List T) (h : itemsT t = some us) : oneT f 5 t = (f us.length, true) := by
  unfold oneT; rw [if_neg (by omega), if_neg (by omega), if_neg (by omega), if_pos rfl, h]
theorem items_len (t : T) (us : List T) (h : itemsT t = some us) : us.length ≤ nodT t := by
  unfold itemsT at h
  have := itT_len 2001 t [] us h
  rw [List.length_nil, Nat.zero_add] at this
  exact this
theorem bare_oneK : ∀ (ks ks' : List T) (i : Nat), bareK ks = bareK ks' → bareT (ks.getD i T0) = bareT (ks'.getD i T0)
  | [], [], i, _ => rfl
  | [], _ :: _, _, h => by cases h
  | _ :: _, [], _, h => by cases h
  | a :: r, b :: q, 0, h => by simp only [bareK, List.cons.injEq] at h; exact h.1
  | a :: r, b :: q, i + 1, h => by
    simp only [bareK, List.cons.injEq] at h
    simpa using bare_oneK r q i h.2
theorem itT_bare : ∀ (r : Nat) (t t' : T) (acc acc' : List T), bareT t = bareT t' → acc.length = acc'.length → (itT r t acc).map List.length = (itT r t' acc').map List.length
  | 0, _, _, _, _, _, _ => rfl
  | r + 1, .mk k b lg l s n kg ks, .mk k' b' lg' l' s' n' kg' ks', acc, acc', h, ha => by
    simp only [bareT, T.mk.injEq, true_and] at h
    obtain ⟨rfl, rfl, rfl, rfl, rfl, hb⟩ := h
    by_cases k3 : k = 3
    · rw [itR_k3 _ _ _ _ _ _ _ _ _ _ k3, itR_k3 _ _ _ _ _ _ _ _ _ _ k3]; simp [ha]
    by_cases k4 : k = 4
    · have hl : ks.length = ks'.length := by have := congrArg List.length hb; rwa [bareK_len, bareK_len] at this
      by_cases k2 : ks.length = 2
      · obtain ⟨x, u, rfl⟩ : ∃ x u, ks = [x, u] := by
          match ks, k2 with
          | [x, u], _ => exact ⟨x, u, rfl⟩
        obtain ⟨x', u', rfl⟩ : ∃ x u, ks' = [x, u] := by
          match ks', hl with
          | [x, u], _ => exact ⟨x, u, rfl⟩
        rw [itR_2 _ _ _ _ _ _ _ _ _ _ _ k3 k4, itR_2 _ _ _ _ _ _ _ _ _ _ _ k3 k4]
        simp only [bareK, List.cons.injEq] at hb
        exact itT_bare r u u' _ _ hb.2.1 (by simp [ha])
      · rw [itR_n2 _ _ _ _ _ _ _ _ _ _ k3 k4 k2, itR_n2 _ _ _ _ _ _ _ _ _ _ k3 k4 (by omega)]
    · rw [itR_no _ _ _ _ _ _ _ _ _ _ k3 k4, itR_no _ _ _ _ _ _ _ _ _ _ k3 k4]
theorem bare_one (op : Int) (t t' : T) (h : bareT t = bareT t') : bareT (oneT smallT op t).1 = bareT (oneT intT op t').1 ∧ (oneT smallT op t).2 = (oneT intT op t').2 := by
  have hs : ∀ v, bareT (smallT v) = bareT (intT v) := fun v => rfl
  have hi := itT_bare 2001 t t' [] [] h rfl
  have e1 : kindT t = kindT t' ∧ strT t = strT t' ∧ bareK (kidsT t) = bareK (kidsT t') := by
    obtain ⟨k, b, lg, l, s, m, kg, ks⟩ := t
    obtain ⟨k', b', lg', l', s', m', kg', ks'⟩ := t'
    simp only [bareT, T.mk.injEq, true_and] at h
    exact ⟨h.1, h.2.2.2.1, h.2.2.2.2.2⟩
  obtain ⟨ek, es, hb⟩ := e1
  have hl : (kidsT t).length = (kidsT t').length := by have := congrArg List.length hb; rwa [bareK_len, bareK_len] at this
  by_cases q1 : (op = 1 ∨ op = 2) ∧ kindT t = 4 ∧ (kidsT t).length = 2
  · rw [one_12 smallT op t _ q1.1 q1.2.1 q1.2.2 rfl, one_12 intT op t' _ q1.1 (by rw [← ek]; exact q1.2.1) (by rw [← hl]; exact q1.2.2) rfl]
    exact ⟨bare_oneK _ _ _ hb, rfl⟩
  by_cases q2 : op = 3 ∧ kindT t = 5
  · obtain ⟨rfl, q2⟩ := q2
    rw [one_3 smallT t q2, one_3 intT t' (by rw [← ek]; exact q2), hl]
    exact ⟨hs _, rfl⟩
  by_cases q3 : op = 4 ∧ kindT t = 6
  · obtain ⟨rfl, q3⟩ := q3
    rw [one_4 smallT t q3, one_4 intT t' (by rw [← ek]; exact q3), es]
    exact ⟨hs _, rfl⟩
  have q1' : ¬ ((op = 1 ∨ op = 2) ∧ kindT t' = 4 ∧ (kidsT t').length = 2) := by rw [← ek, ← hl]; exact q1
  have q2' : ¬ (op = 3 ∧ kindT t' = 5) := by rw [← ek]; exact q2
  have q3' : ¬ (op = 4 ∧ kindT t' = 6) := by rw [← ek]; exact q3
  by_cases q4 : op = 5
  · subst q4
    have hi2 : (itemsT t).map List.length = (itemsT t').map List.length := hi
    cases h1 : itemsT t with
    | none =>
      cases h2 : itemsT t' with
      | none => rw [one_no smallT 5 t q1 q2 q3 (.inr h1), one_no intT 5 t' q1' q2' q3' (.inr h2)]; exact ⟨rfl, rfl⟩
      | some v => rw [h1, h2] at hi2; cases hi2
    | some u =>
      cases h2 : itemsT t' with
      | none => rw [h1, h2] at hi2; cases hi2
      | some v =>
        rw [h1, h2] at hi2
        have hi3 : u.length = v.length := by simpa using hi2
        rw [one_5 smallT t u h1, one_5 intT t' v h2, hi3]
        exact ⟨hs _, rfl⟩
  · rw [one_no smallT op t q1 q2 q3 (.inl q4), one_no intT op t' q1' q2' q3' (.inl q4)]
    exact ⟨rfl, rfl⟩
set_option maxHeartbeats 16000000 in
theorem oneA_eq (R d : Nat) (hR : 100000 ≤ R) (op : Int) (t : T) (hn : nodT t ≤ 1999) (hk : (kidsT t).length ≤ 1000000) (hs : (strT t).length ≤ 1000000) : evalFn Tryz.prog cfg0 R (d+6) 23 [.tree (.int .i64 op), .tree (encT t)] = some (.tree (.tup [encT (oneT smallT op t).1, .bool (oneT smallT op t).2]), [[], []]) := by
  rw [evalFn_go _ Tryz.func23 (by unfold Tryz.f23; rfl) (by unfold Tryz.f23; decide) (Nat.le_of_ble_eq_true (by unfold Tryz.f23; rfl)) (by kernel_rfl)]
  have cn (v : Int) (hv : I64 v) := fun D st => callA_trees (cfg := cfg0) (d := D) (s := st) (f := 52) (vs := [.int .i64 v]) rfl (number_eq R (d+1) hR v hv)
  have ct := fun D st => callA_trees (cfg := cfg0) (d := D) (s := st) (f := 53) (vs := [encT t]) rfl (items_eq R (by omega) (d+4) t)
  have hit := items_len t
  obtain ⟨k, n1, lg, l, s1, i1, kg, ks⟩ := t
  simp only [kidsT, strT] at hk hs
  have c1 := cn (ks.length : Int) ⟨by omega, by omega⟩
  have c2 := cn (s1.length : Int) ⟨by omega, by omega⟩
  simp only [encT] at c1 c2 ct
  by_cases k4 : k = 4
  · have b4 : (k == 4) = true := by rw [k4]; rfl
    have b5 : (k == 5) = false := by rw [k4]; rfl
    have b6 : (k == 6) = false := by rw [k4]; rfl
    by_cases o1 : op = 1
    · subst o1
      by_cases k2 : ks.length = 2
      · obtain ⟨x, y, rfl⟩ := len_two ks k2
        rw [one_12 smallT 1 (.mk k n1 lg l s1 i1 kg [x, y]) x (by decide) k4 rfl rfl]
        have ia : ∀ st, indexAddrA Tryz.prog 22 st (.sl (cellsK [x, y]) 2 (gr kg)) (.int .i64 0) = some (.rptr (cellsK [x, y])) := fun st => ia_K st [x, y] (gr kg) 0 (by simp)
        have ld := fun st => ld_KW st x [y]
        have w2 : (((2 : Nat) : Int) == 2) = true := rfl
        simp only [simB, zbo, Nat.reduceBEq, own0, ↓reduceIte, Nat.reduceEqDiff, Nat.reduceAdd, simA, simL, simN, Nat.zero_add, zev, List.toList_toArray, len9, ix9, zew, zex, zey, zez, zfa, zeroT, encT, cellsT, ldT_a, ldT_0, ldT_2, ldT_4, faT_0, faT_2, faT_4, Nat.reduceAdd, Int.reduceSub, lenTk, i_eqlV, Int.reduceBEq, zds, bdT_00, st_Tt, stT_6, List.length_cons, List.length_nil, Nat.zero_add, b4, w2, ia, ld]
        exact finish_T2 _ _ _ _ _ (x) _ _ _ _ _ (by simp only [zfp, ↓reduceIte, Nat.reduceEqDiff]; try rfl) (by simp only [zfp, ↓reduceIte, Nat.reduceEqDiff]; try rfl) (by simp only [zfp, ↓reduceIte, Nat.reduceEqDiff]; try rfl) rfl
      · have w2 : ((ks.length : Int) == 2) = false := beq_eq_false_iff_ne.mpr (by omega)
        rw [one_no smallT 1 (.mk k n1 lg l s1 i1 kg ks) (fun h => k2 h.2.2) (by omega) (by omega) (.inl (by decide))]
        simp only [simB, zbo, Nat.reduceBEq, own0, ↓reduceIte, Nat.reduceEqDiff, Nat.reduceAdd, simA, simL, simN, Nat.zero_add, zev, List.toList_toArray, len9, ix9, zew, zex, zey, zez, zfa, zeroT, encT, cellsT, ldT_a, ldT_0, ldT_2, ldT_4, faT_0, faT_2, faT_4, Nat.reduceAdd, Int.reduceSub, lenTk, i_eqlV, Int.reduceBEq, zds, bdT_00, st_Tt, stT_6, b4, w2]
        exact finish_T2 _ _ _ _ _ T0 _ _ _ _ _ (by simp only [zfp, ↓reduceIte, Nat.reduceEqDiff]; try rfl) (by simp only [zfp, ↓reduceIte, Nat.reduceEqDiff]; try rfl) (by simp only [zfp, ↓reduceIte, Nat.reduceEqDiff]; try rfl) rfl
    by_cases o2 : op = 2
    · subst o2
      by_cases k2 : ks.length = 2
      · obtain ⟨x, y, rfl⟩ := len_two ks k2
        rw [one_12 smallT 2 (.mk k n1 lg l s1 i1 kg [x, y]) y (by decide) k4 rfl rfl]
        have ia : ∀ st, indexAddrA Tryz.prog 22 st (.sl (cellsK [x, y]) 2 (gr kg)) (.int .i64 1) = some (.rptr (cellsK [y])) := fun st => ia_K st [x, y] (gr kg) 1 (by simp)
        have ld := fun st => ld_KW st y []
        have w2 : (((2 : Nat) : Int) == 2) = true := rfl
        simp only [simB, zbo, Nat.reduceBEq, own0, ↓reduceIte, Nat.reduceEqDiff, Nat.reduceAdd, simA, simL, simN, Nat.zero_add, zev, List.toList_toArray, len9, ix9, zew, zex, zey, zez, zfa, zeroT, encT, cellsT, ldT_a, ldT_0, ldT_2, ldT_4, faT_0, faT_2, faT_4, Nat.reduceAdd, Int.reduceSub, lenTk, i_eqlV, Int.reduceBEq, zds, bdT_00, st_Tt, stT_6, List.length_cons, List.length_nil, Nat.zero_add, b4, w2, ia, ld]
        exact finish_T2 _ _ _ _ _ (y) _ _ _ _ _ (by simp only [zfp, ↓reduceIte, Nat.reduceEqDiff]; try rfl) (by simp only [zfp, ↓reduceIte, Nat.reduceEqDiff]; try rfl) (by simp only [zfp, ↓reduceIte, Nat.reduceEqDiff]; try rfl) rfl
      · have w2 : ((ks.length : Int) == 2) = false := beq_eq_false_iff_ne.mpr (by omega)
        rw [one_no smallT 2 (.mk k n1 lg l s1 i1 kg ks) (fun h => k2 h.2.2) (by omega) (by omega) (.inl (by decide))]
        simp only [simB, zbo, Nat.reduceBEq, own0, ↓reduceIte, Nat.reduceEqDiff, Nat.reduceAdd, simA, simL, simN, Nat.zero_add, zev, List.toList_toArray, len9, ix9, zew, zex, zey, zez, zfa, zeroT, encT, cellsT, ldT_a, ldT_0, ldT_2, ldT_4, faT_0, faT_2, faT_4, Nat.reduceAdd, Int.reduceSub, lenTk, i_eqlV, Int.reduceBEq, zds, bdT_00, st_Tt, stT_6, b4, w2]
        exact finish_T2 _ _ _ _ _ T0 _ _ _ _ _ (by simp only [zfp, ↓reduceIte, Nat.reduceEqDiff]; try rfl) (by simp only [zfp, ↓reduceIte, Nat.reduceEqDiff]; try rfl) (by simp only [zfp, ↓reduceIte, Nat.reduceEqDiff]; try rfl) rfl
    by_cases o3 : op = 3
    · subst o3
      rw [one_no smallT 3 (.mk k n1 lg l s1 i1 kg ks) (by omega) (fun h => by have := h.2; simp only [kindT] at this; omega) (by omega) (.inl (by decide))]
      simp only [simB, zbo, Nat.reduceBEq, own0, ↓reduceIte, Nat.reduceEqDiff, Nat.reduceAdd, simA, simL, simN, Nat.zero_add, zev, List.toList_toArray, len9, ix9, zew, zex, zey, zez, zfa, zeroT, encT, cellsT, ldT_a, ldT_0, ldT_2, ldT_4, faT_0, faT_2, faT_4, Nat.reduceAdd, Int.reduceSub, lenTk, i_eqlV, Int.reduceBEq, zds, bdT_00, st_Tt, stT_6, b4, b5]
      exact finish_T2 _ _ _ _ _ T0 _ _ _ _ _ (by simp only [zfp, ↓reduceIte, Nat.reduceEqDiff]; try rfl) (by simp only [zfp, ↓reduceIte, Nat.reduceEqDiff]; try rfl) (by simp only [zfp, ↓reduceIte, Nat.reduceEqDiff]; try rfl) rfl
    by_cases o4 : op = 4
    · subst o4
      rw [one_no smallT 4 (.mk k n1 lg l s1 i1 kg ks) (by omega) (by omega) (fun h => by have := h.2; simp only [kindT] at this; omega) (.inl (by decide))]
      simp only [simB, zbo, Nat.reduceBEq, own0, ↓reduceIte, Nat.reduceEqDiff, Nat.reduceAdd, simA, simL, simN, Nat.zero_add, zev, List.toList_toArray, len9, ix9, zew, zex, zey, zez, zfa, zeroT, encT, cellsT, ldT_a, ldT_0, ldT_2, ldT_4, faT_0, faT_2, faT_4, Nat.reduceAdd, Int.reduceSub, lenTk, i_eqlV, Int.reduceBEq, zds, bdT_00, st_Tt, stT_6, b4, b6]
      exact finish_T2 _ _ _ _ _ T0 _ _ _ _ _ (by simp only [zfp, ↓reduceIte, Nat.reduceEqDiff]; try rfl) (by simp only [zfp, ↓reduceIte, Nat.reduceEqDiff]; try rfl) (by simp only [zfp, ↓reduceIte, Nat.reduceEqDiff]; try rfl) rfl
    by_cases o5 : op = 5
    · subst o5
      cases hI : itemsT (.mk k n1 lg l s1 i1 kg ks) with
      | none =>
        rw [hI] at ct
        simp only [itemsV, cellsT] at ct
        rw [one_no smallT 5 (.mk k n1 lg l s1 i1 kg ks) (by omega) (by omega) (by omega) (.inr hI)]
        simp only [simB, zbo, Nat.reduceBEq, own0, ↓reduceIte, Nat.reduceEqDiff, Nat.reduceAdd, simA, simL, simN, Nat.zero_add, zev, List.toList_toArray, len9, ix9, zew, zex, zey, zez, zfa, zeroT, encT, cellsT, ldT_a, ldT_0, ldT_2, ldT_4, faT_0, faT_2, faT_4, Nat.reduceAdd, Int.reduceSub, lenTk, i_eqlV, Int.reduceBEq, zds, bdT_00, st_Tt, stT_6, b4, ct]
        exact finish_T2 _ _ _ _ _ T0 _ _ _ _ _ (by simp only [zfp, ↓reduceIte, Nat.reduceEqDiff]; try rfl) (by simp only [zfp, ↓reduceIte, Nat.reduceEqDiff]; try rfl) (by simp only [zfp, ↓reduceIte, Nat.reduceEqDiff]; try rfl) rfl
      | some us =>
        rw [hI] at ct
        simp only [itemsV, cellsT] at ct
        have hu := hit us hI
        have c3 := cn (us.length : Int) ⟨by omega, by omega⟩
        simp only [encT] at c3
        rw [one_5 smallT (.mk k n1 lg l s1 i1 kg ks) us hI]
        simp only [simB, zbo, Nat.reduceBEq, own0, ↓reduceIte, Nat.reduceEqDiff, Nat.reduceAdd, simA, simL, simN, Nat.zero_add, zev, List.toList_toArray, len9, ix9, zew, zex, zey, zez, zfa, zeroT, encT, cellsT, ldT_a, ldT_0, ldT_2, ldT_4, faT_0, faT_2, faT_4, Nat.reduceAdd, Int.reduceSub, lenTk, i_eqlV, Int.reduceBEq, zds, bdT_00, st_Tt, stT_6, b4, ct, c3]
        exact finish_T2 _ _ _ _ _ (smallT (us.length : Int)) _ _ _ _ _ (by simp only [zfp, ↓reduceIte, Nat.reduceEqDiff]; try rfl) (by simp only [zfp, ↓reduceIte, Nat.reduceEqDiff]; try rfl) (by simp only [zfp, ↓reduceIte, Nat.reduceEqDiff]; try rfl) rfl
    have p1 : (op == 1) = false := beq_eq_false_iff_ne.mpr o1
    have p2 : (op == 2) = false := beq_eq_false_iff_ne.mpr o2
    have p3 : (op == 3) = false := beq_eq_false_iff_ne.mpr o3
    have p4 : (op == 4) = false := beq_eq_false_iff_ne.mpr o4
    have p5 : (op == 5) = false := beq_eq_false_iff_ne.mpr o5
    rw [one_no smallT op (.mk k n1 lg l s1 i1 kg ks) (by omega) (by omega) (by omega) (.inl o5)]
    simp only [simB, zbo, Nat.reduceBEq, own0, ↓reduceIte, Nat.reduceEqDiff, Nat.reduceAdd, simA, simL, simN, Nat.zero_add, zev, List.toList_toArray, len9, ix9, zew, zex, zey, zez, zfa, zeroT, encT, cellsT, ldT_a, ldT_0, ldT_2, ldT_4, faT_0, faT_2, faT_4, Nat.reduceAdd, Int.reduceSub, lenTk, i_eqlV, Int.reduceBEq, zds, bdT_00, st_Tt, stT_6, b4, p1, p2, p3, p4, p5]
    exact finish_T2 _ _ _ _ _ T0 _ _ _ _ _ (by simp only [zfp, ↓reduceIte, Nat.reduceEqDiff]; try rfl) (by simp only [zfp, ↓reduceIte, Nat.reduceEqDiff]; try rfl) (by simp only [zfp, ↓reduceIte, Nat.reduceEqDiff]; try rfl) rfl
  · have b4 : (k == 4) = false := by exact beq_eq_false_iff_ne.mpr k4
    by_cases o12 : op = 1 ∨ op = 2
    · rw [one_no smallT op (.mk k n1 lg l s1 i1 kg ks) (fun h => k4 h.2.1) (by omega) (by omega) (.inl (by omega))]
      rcases o12 with rfl | rfl
      · simp only [simB, zbo, Nat.reduceBEq, own0, ↓reduceIte, Nat.reduceEqDiff, Nat.reduceAdd, simA, simL, simN, Nat.zero_add, zev, List.toList_toArray, len9, ix9, zew, zex, zey, zez, zfa, zeroT, encT, cellsT, ldT_a, ldT_0, ldT_2, ldT_4, faT_0, faT_2, faT_4, Nat.reduceAdd, Int.reduceSub, lenTk, i_eqlV, Int.reduceBEq, zds, bdT_00, st_Tt, stT_6, b4]
        exact finish_T2 _ _ _ _ _ T0 _ _ _ _ _ (by simp only [zfp, ↓reduceIte, Nat.reduceEqDiff]; try rfl) (by simp only [zfp, ↓reduceIte, Nat.reduceEqDiff]; try rfl) (by simp only [zfp, ↓reduceIte, Nat.reduceEqDiff]; try rfl) rfl
      · simp only [simB, zbo, Nat.reduceBEq, own0, ↓reduceIte, Nat.reduceEqDiff, Nat.reduceAdd, simA, simL, simN, Nat.zero_add, zev, List.toList_toArray, len9, ix9, zew, zex, zey, zez, zfa, zeroT, encT, cellsT, ldT_a, ldT_0, ldT_2, ldT_4, faT_0, faT_2, faT_4, Nat.reduceAdd, Int.reduceSub, lenTk, i_eqlV, Int.reduceBEq, zds, bdT_00, st_Tt, stT_6, b4]
        exact finish_T2 _ _ _ _ _ T0 _ _ _ _ _ (by simp only [zfp, ↓reduceIte, Nat.reduceEqDiff]; try rfl) (by simp only [zfp, ↓reduceIte, Nat.reduceEqDiff]; try rfl) (by simp only [zfp, ↓reduceIte, Nat.reduceEqDiff]; try rfl) rfl
    have o1 : op ≠ 1 := fun h => o12 (.inl h)
    have o2 : op ≠ 2 := fun h => o12 (.inr h)
    by_cases o3 : op = 3
    · subst o3
      by_cases k5 : k = 5
      · rw [one_3 smallT (.mk k n1 lg l s1 i1 kg ks) k5]
        have b5 : (k == 5) = true := by rw [k5]; rfl
        simp only [simB, zbo, Nat.reduceBEq, own0, ↓reduceIte, Nat.reduceEqDiff, Nat.reduceAdd, simA, simL, simN, Nat.zero_add, zev, List.toList_toArray, len9, ix9, zew, zex, zey, zez, zfa, zeroT, encT, cellsT, ldT_a, ldT_0, ldT_2, ldT_4, faT_0, faT_2, faT_4, Nat.reduceAdd, Int.reduceSub, lenTk, i_eqlV, Int.reduceBEq, zds, bdT_00, st_Tt, stT_6, b4, b5, c1]
        exact finish_T2 _ _ _ _ _ (smallT (ks.length : Int)) _ _ _ _ _ (by simp only [zfp, ↓reduceIte, Nat.reduceEqDiff]; try rfl) (by simp only [zfp, ↓reduceIte, Nat.reduceEqDiff]; try rfl) (by simp only [zfp, ↓reduceIte, Nat.reduceEqDiff]; try rfl) rfl
      · rw [one_no smallT 3 (.mk k n1 lg l s1 i1 kg ks) (by omega) (fun h => k5 h.2) (by omega) (.inl (by decide))]
        have b5 : (k == 5) = false := beq_eq_false_iff_ne.mpr k5
        simp only [simB, zbo, Nat.reduceBEq, own0, ↓reduceIte, Nat.reduceEqDiff, Nat.reduceAdd, simA, simL, simN, Nat.zero_add, zev, List.toList_toArray, len9, ix9, zew, zex, zey, zez, zfa, zeroT, encT, cellsT, ldT_a, ldT_0, ldT_2, ldT_4, faT_0, faT_2, faT_4, Nat.reduceAdd, Int.reduceSub, lenTk, i_eqlV, Int.reduceBEq, zds, bdT_00, st_Tt, stT_6, b4, b5]
        exact finish_T2 _ _ _ _ _ T0 _ _ _ _ _ (by simp only [zfp, ↓reduceIte, Nat.reduceEqDiff]; try rfl) (by simp only [zfp, ↓reduceIte, Nat.reduceEqDiff]; try rfl) (by simp only [zfp, ↓reduceIte, Nat.reduceEqDiff]; try rfl) rfl
    by_cases o4 : op = 4
    · subst o4
      by_cases k6 : k = 6
      · rw [one_4 smallT (.mk k n1 lg l s1 i1 kg ks) k6]
        have b6 : (k == 6) = true := by rw [k6]; rfl
        simp only [simB, zbo, Nat.reduceBEq, own0, ↓reduceIte, Nat.reduceEqDiff, Nat.reduceAdd, simA, simL, simN, Nat.zero_add, zev, List.toList_toArray, len9, ix9, zew, zex, zey, zez, zfa, zeroT, encT, cellsT, ldT_a, ldT_0, ldT_2, ldT_4, faT_0, faT_2, faT_4, Nat.reduceAdd, Int.reduceSub, lenTk, i_eqlV, Int.reduceBEq, zds, bdT_00, st_Tt, stT_6, b4, b6, c2]
        exact finish_T2 _ _ _ _ _ (smallT (s1.length : Int)) _ _ _ _ _ (by simp only [zfp, ↓reduceIte, Nat.reduceEqDiff]; try rfl) (by simp only [zfp, ↓reduceIte, Nat.reduceEqDiff]; try rfl) (by simp only [zfp, ↓reduceIte, Nat.reduceEqDiff]; try rfl) rfl
      · rw [one_no smallT 4 (.mk k n1 lg l s1 i1 kg ks) (by omega) (by omega) (fun h => k6 h.2) (.inl (by decide))]
        have b6 : (k == 6) = false := beq_eq_false_iff_ne.mpr k6
        simp only [simB, zbo, Nat.reduceBEq, own0, ↓reduceIte, Nat.reduceEqDiff, Nat.reduceAdd, simA, simL, simN, Nat.zero_add, zev, List.toList_toArray, len9, ix9, zew, zex, zey, zez, zfa, zeroT, encT, cellsT, ldT_a, ldT_0, ldT_2, ldT_4, faT_0, faT_2, faT_4, Nat.reduceAdd, Int.reduceSub, lenTk, i_eqlV, Int.reduceBEq, zds, bdT_00, st_Tt, stT_6, b4, b6]
        exact finish_T2 _ _ _ _ _ T0 _ _ _ _ _ (by simp only [zfp, ↓reduceIte, Nat.reduceEqDiff]; try rfl) (by simp only [zfp, ↓reduceIte, Nat.reduceEqDiff]; try rfl) (by simp only [zfp, ↓reduceIte, Nat.reduceEqDiff]; try rfl) rfl
    by_cases o5 : op = 5
    · subst o5
      cases hI : itemsT (.mk k n1 lg l s1 i1 kg ks) with
      | none =>
        rw [hI] at ct
        simp only [itemsV, cellsT] at ct
        rw [one_no smallT 5 (.mk k n1 lg l s1 i1 kg ks) (by omega) (by omega) (by omega) (.inr hI)]
        simp only [simB, zbo, Nat.reduceBEq, own0, ↓reduceIte, Nat.reduceEqDiff, Nat.reduceAdd, simA, simL, simN, Nat.zero_add, zev, List.toList_toArray, len9, ix9, zew, zex, zey, zez, zfa, zeroT, encT, cellsT, ldT_a, ldT_0, ldT_2, ldT_4, faT_0, faT_2, faT_4, Nat.reduceAdd, Int.reduceSub, lenTk, i_eqlV, Int.reduceBEq, zds, bdT_00, st_Tt, stT_6, b4, ct]
        exact finish_T2 _ _ _ _ _ T0 _ _ _ _ _ (by simp only [zfp, ↓reduceIte, Nat.reduceEqDiff]; try rfl) (by simp only [zfp, ↓reduceIte, Nat.reduceEqDiff]; try rfl) (by simp only [zfp, ↓reduceIte, Nat.reduceEqDiff]; try rfl) rfl
      | some us =>
        rw [hI] at ct
        simp only [itemsV, cellsT] at ct
        have hu := hit us hI
        have c3 := cn (us.length : Int) ⟨by omega, by omega⟩
        simp only [encT] at c3
        rw [one_5 smallT (.mk k n1 lg l s1 i1 kg ks) us hI]
        simp only [simB, zbo, Nat.reduceBEq, own0, ↓reduceIte, Nat.reduceEqDiff, Nat.reduceAdd, simA, simL, simN, Nat.zero_add, zev, List.toList_toArray, len9, ix9, zew, zex, zey, zez, zfa, zeroT, encT, cellsT, ldT_a, ldT_0, ldT_2, ldT_4, faT_0, faT_2, faT_4, Nat.reduceAdd, Int.reduceSub, lenTk, i_eqlV, Int.reduceBEq, zds, bdT_00, st_Tt, stT_6, b4, ct, c3]
        exact finish_T2 _ _ _ _ _ (smallT (us.length : Int)) _ _ _ _ _ (by simp only [zfp, ↓reduceIte, Nat.reduceEqDiff]; try rfl) (by simp only [zfp, ↓reduceIte, Nat.reduceEqDiff]; try rfl) (by simp only [zfp, ↓reduceIte, Nat.reduceEqDiff]; try rfl) rfl
    have p1 : (op == 1) = false := beq_eq_false_iff_ne.mpr o1
    have p2 : (op == 2) = false := beq_eq_false_iff_ne.mpr o2
    have p3 : (op == 3) = false := beq_eq_false_iff_ne.mpr o3
    have p4 : (op == 4) = false := beq_eq_false_iff_ne.mpr o4
    have p5 : (op == 5) = false := beq_eq_false_iff_ne.mpr o5
    rw [one_no smallT op (.mk k n1 lg l s1 i1 kg ks) (by omega) (by omega) (by omega) (.inl o5)]
    simp only [simB, zbo, Nat.reduceBEq, own0, ↓reduceIte, Nat.reduceEqDiff, Nat.reduceAdd, simA, simL, simN, Nat.zero_add, zev, List.toList_toArray, len9, ix9, zew, zex, zey, zez, zfa, zeroT, encT, cellsT, ldT_a, ldT_0, ldT_2, ldT_4, faT_0, faT_2, faT_4, Nat.reduceAdd, Int.reduceSub, lenTk, i_eqlV, Int.reduceBEq, zds, bdT_00, st_Tt, stT_6, b4, p1, p2, p3, p4, p5]
    exact finish_T2 _ _ _ _ _ T0 _ _ _ _ _ (by simp only [zfp, ↓reduceIte, Nat.reduceEqDiff]; try rfl) (by simp only [zfp, ↓reduceIte, Nat.reduceEqDiff]; try rfl) (by simp only [zfp, ↓reduceIte, Nat.reduceEqDiff]; try rfl) rfl
set_option maxHeartbeats 16000000 in
theorem roneA_eq (R d : Nat) (hR : 100000 ≤ R) (op : Int) (t : T) (hn : nodT t ≤ 1999) (hk : (kidsT t).length ≤ 1000000) (hs : (strT t).length ≤ 1000000) : evalFn Tryz.prog cfg0 R (d+6) 24 [.tree (.int .i64 op), .tree (encT t)] = some (.tree (.tup [encT (oneT intT op t).1, .bool (oneT intT op t).2]), [[], []]) := by
  rw [evalFn_go _ Tryz.func24 (by unfold Tryz.f24; rfl) (by unfold Tryz.f24; decide) (Nat.le_of_ble_eq_true (by unfold Tryz.f24; rfl)) (by kernel_rfl)]
  have cn (v : Int) (hv : I64 v) := fun D st => callA_trees (cfg := cfg0) (d := D) (s := st) (f := 54) (vs := [.int .i64 v]) rfl (rInt_eq R (d+1) hR v hv)
  have ct := fun D st => callA_trees (cfg := cfg0) (d := D) (s := st) (f := 55) (vs := [encT t]) rfl (rItemsA_eq R (d+4) t hn (by omega))
  have hit := items_len t
  obtain ⟨k, n1, lg, l, s1, i1, kg, ks⟩ := t
  simp only [kidsT, strT] at hk hs
  have c1 := cn (ks.length : Int) ⟨by omega, by omega⟩
  have c2 := cn (s1.length : Int) ⟨by omega, by omega⟩
  simp only [encT] at c1 c2 ct
  by_cases k4 : k = 4
  · have b4 : (k == 4) = true := by rw [k4]; rfl
    have b5 : (k == 5) = false := by rw [k4]; rfl
    have b6 : (k == 6) = false := by rw [k4]; rfl
    by_cases o1 : op = 1
    · subst o1
      by_cases k2 : ks.length = 2
      · obtain ⟨x, y, rfl⟩ := len_two ks k2
        rw [one_12 intT 1 (.mk k n1 lg l s1 i1 kg [x, y]) x (by decide) k4 rfl rfl]
        have ia : ∀ st, indexAddrA Tryz.prog 22 st (.sl (cellsK [x, y]) 2 (gr kg)) (.int .i64 0) = some (.rptr (cellsK [x, y])) := fun st => ia_K st [x, y] (gr kg) 0 (by simp)
        have ld := fun st => ld_KW st x [y]
        have w2 : (((2 : Nat) : Int) == 2) = true := rfl
        have f5 := i_sub Tryz.prog 3 (1 : Int) 1 (by omega) (by omega)
        simp only [simB, zbo, Nat.reduceBEq, own0, ↓reduceIte, Nat.reduceEqDiff, Nat.reduceAdd, simA, simL, simN, Nat.zero_add, zev, List.toList_toArray, len9, ix9, zew, zex, zey, zez, zfa, zeroT, encT, cellsT, ldT_a, ldT_0, ldT_2, ldT_4, faT_0, faT_2, faT_4, Nat.reduceAdd, Int.reduceSub, lenTk, i_eqlV, Int.reduceBEq, zds, bdT_00, st_Tt, stT_6, List.length_cons, List.length_nil, Nat.zero_add, b4, w2, ia, ld, f5]
        exact finish_T2 _ _ _ _ _ (x) _ _ _ _ _ (by simp only [zfp, ↓reduceIte, Nat.reduceEqDiff]; try rfl) (by simp only [zfp, ↓reduceIte, Nat.reduceEqDiff]; try rfl) (by simp only [zfp, ↓reduceIte, Nat.reduceEqDiff]; try rfl) rfl
      · have w2 : ((ks.length : Int) == 2) = false := beq_eq_false_iff_ne.mpr (by omega)
        rw [one_no intT 1 (.mk k n1 lg l s1 i1 kg ks) (fun h => k2 h.2.2) (by omega) (by omega) (.inl (by decide))]
        simp only [simB, zbo, Nat.reduceBEq, own0, ↓reduceIte, Nat.reduceEqDiff, Nat.reduceAdd, simA, simL, simN, Nat.zero_add, zev, List.toList_toArray, len9, ix9, zew, zex, zey, zez, zfa, zeroT, encT, cellsT, ldT_a, ldT_0, ldT_2, ldT_4, faT_0, faT_2, faT_4, Nat.reduceAdd, Int.reduceSub, lenTk, i_eqlV, Int.reduceBEq, zds, bdT_00, st_Tt, stT_6, b4, w2]
        exact finish_T2 _ _ _ _ _ T0 _ _ _ _ _ (by simp only [zfp, ↓reduceIte, Nat.reduceEqDiff]; try rfl) (by simp only [zfp, ↓reduceIte, Nat.reduceEqDiff]; try rfl) (by simp only [zfp, ↓reduceIte, Nat.reduceEqDiff]; try rfl) rfl
    by_cases o2 : op = 2
    · subst o2
      by_cases k2 : ks.length = 2
      · obtain ⟨x, y, rfl⟩ := len_two ks k2
        rw [one_12 intT 2 (.mk k n1 lg l s1 i1 kg [x, y]) y (by decide) k4 rfl rfl]
        have ia : ∀ st, indexAddrA Tryz.prog 22 st (.sl (cellsK [x, y]) 2 (gr kg)) (.int .i64 1) = some (.rptr (cellsK [y])) := fun st => ia_K st [x, y] (gr kg) 1 (by simp)
        have ld := fun st => ld_KW st y []
        have w2 : (((2 : Nat) : Int) == 2) = true := rfl
        have f5 := i_sub Tryz.prog 3 (2 : Int) 1 (by omega) (by omega)
        simp only [simB, zbo, Nat.reduceBEq, own0, ↓reduceIte, Nat.reduceEqDiff, Nat.reduceAdd, simA, simL, simN, Nat.zero_add, zev, List.toList_toArray, len9, ix9, zew, zex, zey, zez, zfa, zeroT, encT, cellsT, ldT_a, ldT_0, ldT_2, ldT_4, faT_0, faT_2, faT_4, Nat.reduceAdd, Int.reduceSub, lenTk, i_eqlV, Int.reduceBEq, zds, bdT_00, st_Tt, stT_6, List.length_cons, List.length_nil, Nat.zero_add, b4, w2, ia, ld, f5]
        exact finish_T2 _ _ _ _ _ (y) _ _ _ _ _ (by simp only [zfp, ↓reduceIte, Nat.reduceEqDiff]; try rfl) (by simp only [zfp, ↓reduceIte, Nat.reduceEqDiff]; try rfl) (by simp only [zfp, ↓reduceIte, Nat.reduceEqDiff]; try rfl) rfl
      · have w2 : ((ks.length : Int) == 2) = false := beq_eq_false_iff_ne.mpr (by omega)
        rw [one_no intT 2 (.mk k n1 lg l s1 i1 kg ks) (fun h => k2 h.2.2) (by omega) (by omega) (.inl (by decide))]
        simp only [simB, zbo, Nat.reduceBEq, own0, ↓reduceIte, Nat.reduceEqDiff, Nat.reduceAdd, simA, simL, simN, Nat.zero_add, zev, List.toList_toArray, len9, ix9, zew, zex, zey, zez, zfa, zeroT, encT, cellsT, ldT_a, ldT_0, ldT_2, ldT_4, faT_0, faT_2, faT_4, Nat.reduceAdd, Int.reduceSub, lenTk, i_eqlV, Int.reduceBEq, zds, bdT_00, st_Tt, stT_6, b4, w2]
        exact finish_T2 _ _ _ _ _ T0 _ _ _ _ _ (by simp only [zfp, ↓reduceIte, Nat.reduceEqDiff]; try rfl) (by simp only [zfp, ↓reduceIte, Nat.reduceEqDiff]; try rfl) (by simp only [zfp, ↓reduceIte, Nat.reduceEqDiff]; try rfl) rfl
    by_cases o3 : op = 3
    · subst o3
      rw [one_no intT 3 (.mk k n1 lg l s1 i1 kg ks) (by omega) (fun h => by have := h.2; simp only [kindT] at this; omega) (by omega) (.inl (by decide))]
      simp only [simB, zbo, Nat.reduceBEq, own0, ↓reduceIte, Nat.reduceEqDiff, Nat.reduceAdd, simA, simL, simN, Nat.zero_add, zev, List.toList_toArray, len9, ix9, zew, zex, zey, zez, zfa, zeroT, encT, cellsT, ldT_a, ldT_0, ldT_2, ldT_4, faT_0, faT_2, faT_4, Nat.reduceAdd, Int.reduceSub, lenTk, i_eqlV, Int.reduceBEq, zds, bdT_00, st_Tt, stT_6, b4, b5]
      exact finish_T2 _ _ _ _ _ T0 _ _ _ _ _ (by simp only [zfp, ↓reduceIte, Nat.reduceEqDiff]; try rfl) (by simp only [zfp, ↓reduceIte, Nat.reduceEqDiff]; try rfl) (by simp only [zfp, ↓reduceIte, Nat.reduceEqDiff]; try rfl) rfl
    by_cases o4 : op = 4
    · subst o4
      rw [one_no intT 4 (.mk k n1 lg l s1 i1 kg ks) (by omega) (by omega) (fun h => by have := h.2; simp only [kindT] at this; omega) (.inl (by decide))]
      simp only [simB, zbo, Nat.reduceBEq, own0, ↓reduceIte, Nat.reduceEqDiff, Nat.reduceAdd, simA, simL, simN, Nat.zero_add, zev, List.toList_toArray, len9, ix9, zew, zex, zey, zez, zfa, zeroT, encT, cellsT, ldT_a, ldT_0, ldT_2, ldT_4, faT_0, faT_2, faT_4, Nat.reduceAdd, Int.reduceSub, lenTk, i_eqlV, Int.reduceBEq, zds, bdT_00, st_Tt, stT_6, b4, b6]
      exact finish_T2 _ _ _ _ _ T0 _ _ _ _ _ (by simp only [zfp, ↓reduceIte, Nat.reduceEqDiff]; try rfl) (by simp only [zfp, ↓reduceIte, Nat.reduceEqDiff]; try rfl) (by simp only [zfp, ↓reduceIte, Nat.reduceEqDiff]; try rfl) rfl
    by_cases o5 : op = 5
    · subst o5
      cases hI : itemsT (.mk k n1 lg l s1 i1 kg ks) with
      | none =>
        rw [hI] at ct
        simp only [itemsV, cellsT] at ct
        rw [one_no intT 5 (.mk k n1 lg l s1 i1 kg ks) (by omega) (by omega) (by omega) (.inr hI)]
        simp only [simB, zbo, Nat.reduceBEq, own0, ↓reduceIte, Nat.reduceEqDiff, Nat.reduceAdd, simA, simL, simN, Nat.zero_add, zev, List.toList_toArray, len9, ix9, zew, zex, zey, zez, zfa, zeroT, encT, cellsT, ldT_a, ldT_0, ldT_2, ldT_4, faT_0, faT_2, faT_4, Nat.reduceAdd, Int.reduceSub, lenTk, i_eqlV, Int.reduceBEq, zds, bdT_00, st_Tt, stT_6, b4, ct]
        exact finish_T2 _ _ _ _ _ T0 _ _ _ _ _ (by simp only [zfp, ↓reduceIte, Nat.reduceEqDiff]; try rfl) (by simp only [zfp, ↓reduceIte, Nat.reduceEqDiff]; try rfl) (by simp only [zfp, ↓reduceIte, Nat.reduceEqDiff]; try rfl) rfl
      | some us =>
        rw [hI] at ct
        simp only [itemsV, cellsT] at ct
        have hu := hit us hI
        have c3 := cn (us.length : Int) ⟨by omega, by omega⟩
        simp only [encT] at c3
        rw [one_5 intT (.mk k n1 lg l s1 i1 kg ks) us hI]
        simp only [simB, zbo, Nat.reduceBEq, own0, ↓reduceIte, Nat.reduceEqDiff, Nat.reduceAdd, simA, simL, simN, Nat.zero_add, zev, List.toList_toArray, len9, ix9, zew, zex, zey, zez, zfa, zeroT, encT, cellsT, ldT_a, ldT_0, ldT_2, ldT_4, faT_0, faT_2, faT_4, Nat.reduceAdd, Int.reduceSub, lenTk, i_eqlV, Int.reduceBEq, zds, bdT_00, st_Tt, stT_6, b4, ct, c3]
        exact finish_T2 _ _ _ _ _ (intT (us.length : Int)) _ _ _ _ _ (by simp only [zfp, ↓reduceIte, Nat.reduceEqDiff]; try rfl) (by simp only [zfp, ↓reduceIte, Nat.reduceEqDiff]; try rfl) (by simp only [zfp, ↓reduceIte, Nat.reduceEqDiff]; try rfl) rfl
    have p1 : (op == 1) = false := beq_eq_false_iff_ne.mpr o1
    have p2 : (op == 2) = false := beq_eq_false_iff_ne.mpr o2
    have p3 : (op == 3) = false := beq_eq_false_iff_ne.mpr o3
    have p4 : (op == 4) = false := beq_eq_false_iff_ne.mpr o4
    have p5 : (op == 5) = false := beq_eq_false_iff_ne.mpr o5
    rw [one_no intT op (.mk k n1 lg l s1 i1 kg ks) (by omega) (by omega) (by omega) (.inl o5)]
    simp only [simB, zbo, Nat.reduceBEq, own0, ↓reduceIte, Nat.reduceEqDiff, Nat.reduceAdd, simA, simL, simN, Nat.zero_add, zev, List.toList_toArray, len9, ix9, zew, zex, zey, zez, zfa, zeroT, encT, cellsT, ldT_a, ldT_0, ldT_2, ldT_4, faT_0, faT_2, faT_4, Nat.reduceAdd, Int.reduceSub, lenTk, i_eqlV, Int.reduceBEq, zds, bdT_00, st_Tt, stT_6, b4, p1, p2, p3, p4, p5]
    exact finish_T2 _ _ _ _ _ T0 _ _ _ _ _ (by simp only [zfp, ↓reduceIte, Nat.reduceEqDiff]; try rfl) (by simp only [zfp, ↓reduceIte, Nat.reduceEqDiff]; try rfl) (by simp only [zfp, ↓reduceIte, Nat.reduceEqDiff]; try rfl) rfl
  · have b4 : (k == 4) = false := by exact beq_eq_false_iff_ne.mpr k4
    by_cases o12 : op = 1 ∨ op = 2
    · rw [one_no intT op (.mk k n1 lg l s1 i1 kg ks) (fun h => k4 h.2.1) (by omega) (by omega) (.inl (by omega))]
      rcases o12 with rfl | rfl
      · simp only [simB, zbo, Nat.reduceBEq, own0, ↓reduceIte, Nat.reduceEqDiff, Nat.reduceAdd, simA, simL, simN, Nat.zero_add, zev, List.toList_toArray, len9, ix9, zew, zex, zey, zez, zfa, zeroT, encT, cellsT, ldT_a, ldT_0, ldT_2, ldT_4, faT_0, faT_2, faT_4, Nat.reduceAdd, Int.reduceSub, lenTk, i_eqlV, Int.reduceBEq, zds, bdT_00, st_Tt, stT_6, b4]
        exact finish_T2 _ _ _ _ _ T0 _ _ _ _ _ (by simp only [zfp, ↓reduceIte, Nat.reduceEqDiff]; try rfl) (by simp only [zfp, ↓reduceIte, Nat.reduceEqDiff]; try rfl) (by simp only [zfp, ↓reduceIte, Nat.reduceEqDiff]; try rfl) rfl
      · simp only [simB, zbo, Nat.reduceBEq, own0, ↓reduceIte, Nat.reduceEqDiff, Nat.reduceAdd, simA, simL, simN, Nat.zero_add, zev, List.toList_toArray, len9, ix9, zew, zex, zey, zez, zfa, zeroT, encT, cellsT, ldT_a, ldT_0, ldT_2, ldT_4, faT_0, faT_2, faT_4, Nat.reduceAdd, Int.reduceSub, lenTk, i_eqlV, Int.reduceBEq, zds, bdT_00, st_Tt, stT_6, b4]
        exact finish_T2 _ _ _ _ _ T0 _ _ _ _ _ (by simp only [zfp, ↓reduceIte, Nat.reduceEqDiff]; try rfl) (by simp only [zfp, ↓reduceIte, Nat.reduceEqDiff]; try rfl) (by simp only [zfp, ↓reduceIte, Nat.reduceEqDiff]; try rfl) rfl
    have o1 : op ≠ 1 := fun h => o12 (.inl h)
    have o2 : op ≠ 2 := fun h => o12 (.inr h)
    by_cases o3 : op = 3
    · subst o3
      by_cases k5 : k = 5
      · rw [one_3 intT (.mk k n1 lg l s1 i1 kg ks) k5]
        have b5 : (k == 5) = true := by rw [k5]; rfl
        simp only [simB, zbo, Nat.reduceBEq, own0, ↓reduceIte, Nat.reduceEqDiff, Nat.reduceAdd, simA, simL, simN, Nat.zero_add, zev, List.toList_toArray, len9, ix9, zew, zex, zey, zez, zfa, zeroT, encT, cellsT, ldT_a, ldT_0, ldT_2, ldT_4, faT_0, faT_2, faT_4, Nat.reduceAdd, Int.reduceSub, lenTk, i_eqlV, Int.reduceBEq, zds, bdT_00, st_Tt, stT_6, b4, b5, c1]
        exact finish_T2 _ _ _ _ _ (intT (ks.length : Int)) _ _ _ _ _ (by simp only [zfp, ↓reduceIte, Nat.reduceEqDiff]; try rfl) (by simp only [zfp, ↓reduceIte, Nat.reduceEqDiff]; try rfl) (by simp only [zfp, ↓reduceIte, Nat.reduceEqDiff]; try rfl) rfl
      · rw [one_no intT 3 (.mk k n1 lg l s1 i1 kg ks) (by omega) (fun h => k5 h.2) (by omega) (.inl (by decide))]
        have b5 : (k == 5) = false := beq_eq_false_iff_ne.mpr k5
        simp only [simB, zbo, Nat.reduceBEq, own0, ↓reduceIte, Nat.reduceEqDiff, Nat.reduceAdd, simA, simL, simN, Nat.zero_add, zev, List.toList_toArray, len9, ix9, zew, zex, zey, zez, zfa, zeroT, encT, cellsT, ldT_a, ldT_0, ldT_2, ldT_4, faT_0, faT_2, faT_4, Nat.reduceAdd, Int.reduceSub, lenTk, i_eqlV, Int.reduceBEq, zds, bdT_00, st_Tt, stT_6, b4, b5]
        exact finish_T2 _ _ _ _ _ T0 _ _ _ _ _ (by simp only [zfp, ↓reduceIte, Nat.reduceEqDiff]; try rfl) (by simp only [zfp, ↓reduceIte, Nat.reduceEqDiff]; try rfl) (by simp only [zfp, ↓reduceIte, Nat.reduceEqDiff]; try rfl) rfl
    by_cases o4 : op = 4
    · subst o4
      by_cases k6 : k = 6
      · rw [one_4 intT (.mk k n1 lg l s1 i1 kg ks) k6]
        have b6 : (k == 6) = true := by rw [k6]; rfl
        simp only [simB, zbo, Nat.reduceBEq, own0, ↓reduceIte, Nat.reduceEqDiff, Nat.reduceAdd, simA, simL, simN, Nat.zero_add, zev, List.toList_toArray, len9, ix9, zew, zex, zey, zez, zfa, zeroT, encT, cellsT, ldT_a, ldT_0, ldT_2, ldT_4, faT_0, faT_2, faT_4, Nat.reduceAdd, Int.reduceSub, lenTk, i_eqlV, Int.reduceBEq, zds, bdT_00, st_Tt, stT_6, b4, b6, c2]
        exact finish_T2 _ _ _ _ _ (intT (s1.length : Int)) _ _ _ _ _ (by simp only [zfp, ↓reduceIte, Nat.reduceEqDiff]; try rfl) (by simp only [zfp, ↓reduceIte, Nat.reduceEqDiff]; try rfl) (by simp only [zfp, ↓reduceIte, Nat.reduceEqDiff]; try rfl) rfl
      · rw [one_no intT 4 (.mk k n1 lg l s1 i1 kg ks) (by omega) (by omega) (fun h => k6 h.2) (.inl (by decide))]
        have b6 : (k == 6) = false := beq_eq_false_iff_ne.mpr k6
        simp only [simB, zbo, Nat.reduceBEq, own0, ↓reduceIte, Nat.reduceEqDiff, Nat.reduceAdd, simA, simL, simN, Nat.zero_add, zev, List.toList_toArray, len9, ix9, zew, zex, zey, zez, zfa, zeroT, encT, cellsT, ldT_a, ldT_0, ldT_2, ldT_4, faT_0, faT_2, faT_4, Nat.reduceAdd, Int.reduceSub, lenTk, i_eqlV, Int.reduceBEq, zds, bdT_00, st_Tt, stT_6, b4, b6]
        exact finish_T2 _ _ _ _ _ T0 _ _ _ _ _ (by simp only [zfp, ↓reduceIte, Nat.reduceEqDiff]; try rfl) (by simp only [zfp, ↓reduceIte, Nat.reduceEqDiff]; try rfl) (by simp only [zfp, ↓reduceIte, Nat.reduceEqDiff]; try rfl) rfl
    by_cases o5 : op = 5
    · subst o5
      cases hI : itemsT (.mk k n1 lg l s1 i1 kg ks) with
      | none =>
        rw [hI] at ct
        simp only [itemsV, cellsT] at ct
        rw [one_no intT 5 (.mk k n1 lg l s1 i1 kg ks) (by omega) (by omega) (by omega) (.inr hI)]
        simp only [simB, zbo, Nat.reduceBEq, own0, ↓reduceIte, Nat.reduceEqDiff, Nat.reduceAdd, simA, simL, simN, Nat.zero_add, zev, List.toList_toArray, len9, ix9, zew, zex, zey, zez, zfa, zeroT, encT, cellsT, ldT_a, ldT_0, ldT_2, ldT_4, faT_0, faT_2, faT_4, Nat.reduceAdd, Int.reduceSub, lenTk, i_eqlV, Int.reduceBEq, zds, bdT_00, st_Tt, stT_6, b4, ct]
        exact finish_T2 _ _ _ _ _ T0 _ _ _ _ _ (by simp only [zfp, ↓reduceIte, Nat.reduceEqDiff]; try rfl) (by simp only [zfp, ↓reduceIte, Nat.reduceEqDiff]; try rfl) (by simp only [zfp, ↓reduceIte, Nat.reduceEqDiff]; try rfl) rfl
      | some us =>
        rw [hI] at ct
        simp only [itemsV, cellsT] at ct
        have hu := hit us hI
        have c3 := cn (us.length : Int) ⟨by omega, by omega⟩
        simp only [encT] at c3
        rw [one_5 intT (.mk k n1 lg l s1 i1 kg ks) us hI]
        simp only [simB, zbo, Nat.reduceBEq, own0, ↓reduceIte, Nat.reduceEqDiff, Nat.reduceAdd, simA, simL, simN, Nat.zero_add, zev, List.toList_toArray, len9, ix9, zew, zex, zey, zez, zfa, zeroT, encT, cellsT, ldT_a, ldT_0, ldT_2, ldT_4, faT_0, faT_2, faT_4, Nat.reduceAdd, Int.reduceSub, lenTk, i_eqlV, Int.reduceBEq, zds, bdT_00, st_Tt, stT_6, b4, ct, c3]
        exact finish_T2 _ _ _ _ _ (intT (us.length : Int)) _ _ _ _ _ (by simp only [zfp, ↓reduceIte, Nat.reduceEqDiff]; try rfl) (by simp only [zfp, ↓reduceIte, Nat.reduceEqDiff]; try rfl) (by simp only [zfp, ↓reduceIte, Nat.reduceEqDiff]; try rfl) rfl
    have p1 : (op == 1) = false := beq_eq_false_iff_ne.mpr o1
    have p2 : (op == 2) = false := beq_eq_false_iff_ne.mpr o2
    have p3 : (op == 3) = false := beq_eq_false_iff_ne.mpr o3
    have p4 : (op == 4) = false := beq_eq_false_iff_ne.mpr o4
    have p5 : (op == 5) = false := beq_eq_false_iff_ne.mpr o5
    rw [one_no intT op (.mk k n1 lg l s1 i1 kg ks) (by omega) (by omega) (by omega) (.inl o5)]
    simp only [simB, zbo, Nat.reduceBEq, own0, ↓reduceIte, Nat.reduceEqDiff, Nat.reduceAdd, simA, simL, simN, Nat.zero_add, zev, List.toList_toArray, len9, ix9, zew, zex, zey, zez, zfa, zeroT, encT, cellsT, ldT_a, ldT_0, ldT_2, ldT_4, faT_0, faT_2, faT_4, Nat.reduceAdd, Int.reduceSub, lenTk, i_eqlV, Int.reduceBEq, zds, bdT_00, st_Tt, stT_6, b4, p1, p2, p3, p4, p5]
    exact finish_T2 _ _ _ _ _ T0 _ _ _ _ _ (by simp only [zfp, ↓reduceIte, Nat.reduceEqDiff]; try rfl) (by simp only [zfp, ↓reduceIte, Nat.reduceEqDiff]; try rfl) (by simp only [zfp, ↓reduceIte, Nat.reduceEqDiff]; try rfl) rfl
end Go.Ab

/- bif.Two, relictref19.Two. Conditions: limbs in range. -/
namespace Go.Ab
open Go.Proofs
set_option maxRecDepth 100000
set_option linter.unusedSimpArgs false

theorem ldT_4W (t k : Nat) (k' : Int) (b : Bool) (lg : Gk) (l : List Nat) (s : List UInt8) (m : Int) (kg : Gk) (ks : List T) : ldE Tryz.prog 22 ⟨t, .buf (cellsT (.mk k' b lg l s m kg ks))⟩ k 5 = if t = k then some (.sl (cellsK ks) ks.length (gr kg)) else none := ldT_4 _ _ _ _ _ _ _ _
def zOfT (t : T) : Int := numZ (sgnT t) (limT t)
def PlaceP (a b : T) : Prop := kindT a = 1 ∧ kindT b = 5 ∧ isI64 (zOfT a) = true ∧ 1 ≤ zOfT a ∧ zOfT a ≤ (kidsT b).length
theorem i_subW (P : Program) (t : TypeId) (a : Int) : binA P .sub t (.int .i64 a) (.int .i64 1) = some (.int .i64 (IntKind.i64.wrap (a - 1))) := rfl
theorem intZ_yesW {z : Int} (h : isI64 z = true) : intZ z = .tup [.int .i64 z, .bool true] := if_pos h
theorem intZ_noW {z : Int} (h : isI64 z = false) : intZ z = .tup [.int .i64 0, .bool false] := if_neg (by rw [h]; decide)
theorem isI64_W {z : Int} (h : isI64 z = true) : I64 z := by
  unfold isI64 at h
  rw [Bool.and_eq_true, decide_eq_true_eq, decide_eq_true_eq] at h
  exact ⟨h.1, by have := h.2; omega⟩
set_option maxHeartbeats 16000000 in
theorem placeA_eq (R d : Nat) (hR : 100000 ≤ R) (a b : T) (la : Limbs (limT a)) : ∃ w : Int, (PlaceP a b → w = zOfT a - 1) ∧ (∀ ok, (ok = true ↔ PlaceP a b) → evalFn Tryz.prog cfg0 R (d+4) 56 [.tree (encT a), .tree (encT b)] = some (.tree (.tup [.int .i64 w, .bool ok]), [[], []])) := by
  have c0 := fun D st => cInt R d hR (isN_A (sgnT a) (lgT' a) (limT a) la) D st
  have ez : numZ (sgnT a) (limT a) = zOfT a := rfl
  rw [ez] at c0
  obtain ⟨z, hz⟩ : ∃ z, zOfT a = z := ⟨_, rfl⟩
  unfold PlaceP
  rw [hz] at c0 ⊢
  clear ez hz
  obtain ⟨k, b1, lg, l, s, m, kg, ks⟩ := a
  obtain ⟨k', b2, lg', l', s', m', kg', ks'⟩ := b
  simp only [sgnT, limT, lgT', encA] at c0
  simp only [kindT, kidsT]
  by_cases h1 : k = 1
  rotate_left
  · refine ⟨0, fun h => absurd h.1 h1, fun ok hok => ?_⟩
    have : ok = false := by
      cases ok with
      | false => rfl
      | true => exact absurd (hok.1 rfl).1 h1
    subst this
    have w1 : (k != 1) = true := bne_iff_ne.mpr h1
    rw [evalFn_go _ Tryz.func56 (by unfold Tryz.f56; rfl) (by unfold Tryz.f56; decide) (Nat.le_of_ble_eq_true (by unfold Tryz.f56; rfl)) (by kernel_rfl)]
    simp only [simB, zbo, Nat.reduceBEq, own0, ↓reduceIte, Nat.reduceEqDiff, Nat.reduceAdd, simA, simL, simN, Nat.zero_add, encT, cellsT, ldT_0, faT_0, i_neqV, w1]
    exact finish_ib _ _ _ _ _ _ _ _ _ (by simp only [zfp, ↓reduceIte, Nat.reduceEqDiff]; try rfl) (by simp only [zfp, ↓reduceIte, Nat.reduceEqDiff]; try rfl) rfl
  have w1 : (k != 1) = false := by rw [h1]; rfl
  by_cases h2 : k' = 5
  rotate_left
  · refine ⟨0, fun h => absurd h.2.1 h2, fun ok hok => ?_⟩
    have : ok = false := by
      cases ok with
      | false => rfl
      | true => exact absurd (hok.1 rfl).2.1 h2
    subst this
    have w2 : (k' != 5) = true := bne_iff_ne.mpr h2
    rw [evalFn_go _ Tryz.func56 (by unfold Tryz.f56; rfl) (by unfold Tryz.f56; decide) (Nat.le_of_ble_eq_true (by unfold Tryz.f56; rfl)) (by kernel_rfl)]
    simp only [simB, zbo, Nat.reduceBEq, own0, ↓reduceIte, Nat.reduceEqDiff, Nat.reduceAdd, simA, simL, simN, Nat.zero_add, encT, cellsT, ldT_0, faT_0, i_neqV, w1, w2]
    exact finish_ib _ _ _ _ _ _ _ _ _ (by simp only [zfp, ↓reduceIte, Nat.reduceEqDiff]; try rfl) (by simp only [zfp, ↓reduceIte, Nat.reduceEqDiff]; try rfl) rfl
  have w2 : (k' != 5) = false := by rw [h2]; rfl
  cases h3 : isI64 z with
  | false =>
    rw [intZ_noW h3] at c0
    refine ⟨IntKind.i64.wrap (0 - 1), fun h => (by cases h.2.2.1), fun ok hok => ?_⟩
    have : ok = false := by
      cases ok with
      | false => rfl
      | true => exact absurd (hok.1 rfl).2.2.1 (by decide)
    subst this
    rw [evalFn_go _ Tryz.func56 (by unfold Tryz.f56; rfl) (by unfold Tryz.f56; decide) (Nat.le_of_ble_eq_true (by unfold Tryz.f56; rfl)) (by kernel_rfl)]
    simp only [simB, zbo, Nat.reduceBEq, own0, ↓reduceIte, Nat.reduceEqDiff, Nat.reduceAdd, simA, simL, simN, Nat.zero_add, encT, cellsT, ldT_0, ldT_1, faT_0, faT_1, Nat.reduceAdd, i_neqV, w1, w2, c0, zds, i_subW]
    exact finish_ib _ _ _ _ _ _ _ _ _ (by simp only [zfp, ↓reduceIte, Nat.reduceEqDiff]; try rfl) (by simp only [zfp, ↓reduceIte, Nat.reduceEqDiff]; try rfl) rfl
  | true =>
    rw [intZ_yesW h3] at c0
    by_cases h4 : z ≥ 1
    rotate_left
    · refine ⟨IntKind.i64.wrap (z - 1), fun h => absurd h.2.2.2.1 h4, fun ok hok => ?_⟩
      have : ok = false := by
        cases ok with
        | false => rfl
        | true => exact absurd (hok.1 rfl).2.2.2.1 h4
      subst this
      rw [evalFn_go _ Tryz.func56 (by unfold Tryz.f56; rfl) (by unfold Tryz.f56; decide) (Nat.le_of_ble_eq_true (by unfold Tryz.f56; rfl)) (by kernel_rfl)]
      simp only [simB, zbo, Nat.reduceBEq, own0, ↓reduceIte, Nat.reduceEqDiff, Nat.reduceAdd, simA, simL, simN, Nat.zero_add, encT, cellsT, ldT_0, ldT_1, faT_0, faT_1, Nat.reduceAdd, i_neqV, w1, w2, c0, zds, i_subW, h4]
      exact finish_ib _ _ _ _ _ _ _ _ _ (by simp only [zfp, ↓reduceIte, Nat.reduceEqDiff]; try rfl) (by simp only [zfp, ↓reduceIte, Nat.reduceEqDiff]; try rfl) rfl
    have hz := isI64_W h3
    have f5 := i_sub Tryz.prog 3 z 1 (by omega) (by have := hz.2; omega)
    refine ⟨z - 1, fun _ => rfl, fun ok hok => ?_⟩
    by_cases h5 : z ≤ (ks'.length : Int)
    · have : ok = true := hok.2 ⟨h1, h2, rfl, h4, h5⟩
      subst this
      rw [evalFn_go _ Tryz.func56 (by unfold Tryz.f56; rfl) (by unfold Tryz.f56; decide) (Nat.le_of_ble_eq_true (by unfold Tryz.f56; rfl)) (by kernel_rfl)]
      simp only [simB, zbo, Nat.reduceBEq, own0, ↓reduceIte, Nat.reduceEqDiff, Nat.reduceAdd, simA, simL, simN, Nat.zero_add, encT, cellsT, ldT_0, ldT_1, ldT_4, faT_0, faT_1, faT_4, Nat.reduceAdd, i_neqV, w1, w2, c0, zds, f5, h4, lenTk, h5]
      exact finish_ib _ _ _ _ _ _ _ _ _ (by simp only [zfp, ↓reduceIte, Nat.reduceEqDiff]; try rfl) (by simp only [zfp, ↓reduceIte, Nat.reduceEqDiff]; try rfl) rfl
    · have : ok = false := by
        cases ok with
        | false => rfl
        | true => exact absurd (hok.1 rfl).2.2.2.2 h5
      subst this
      rw [evalFn_go _ Tryz.func56 (by unfold Tryz.f56; rfl) (by unfold Tryz.f56; decide) (Nat.le_of_ble_eq_true (by unfold Tryz.f56; rfl)) (by kernel_rfl)]
      simp only [simB, zbo, Nat.reduceBEq, own0, ↓reduceIte, Nat.reduceEqDiff, Nat.reduceAdd, simA, simL, simN, Nat.zero_add, encT, cellsT, ldT_0, ldT_1, ldT_4, faT_0, faT_1, faT_4, Nat.reduceAdd, i_neqV, w1, w2, c0, zds, f5, h4, lenTk, h5]
      exact finish_ib _ _ _ _ _ _ _ _ _ (by simp only [zfp, ↓reduceIte, Nat.reduceEqDiff]; try rfl) (by simp only [zfp, ↓reduceIte, Nat.reduceEqDiff]; try rfl) rfl
set_option maxHeartbeats 16000000 in
theorem rplaceA_eq (R d : Nat) (hR : 100000 ≤ R) (a b : T) (la : Limbs (limT a)) (w : Int) (hw1 : PlaceP a b → w = zOfT a - 1) (hw2 : ¬ PlaceP a b → w = -1) : evalFn Tryz.prog cfg0 R (d+4) 57 [.tree (encT a), .tree (encT b)] = some (.tree (.int .i64 w), [[], []]) := by
  have c0 := fun D st => cRint R d hR (isN_A (sgnT a) (lgT' a) (limT a) la) D st
  have ez : numZ (sgnT a) (limT a) = zOfT a := rfl
  rw [ez] at c0
  obtain ⟨z, hz⟩ : ∃ z, zOfT a = z := ⟨_, rfl⟩
  unfold PlaceP at hw1 hw2
  rw [hz] at c0 hw1 hw2
  clear ez hz
  obtain ⟨k, b1, lg, l, s, m, kg, ks⟩ := a
  obtain ⟨k', b2, lg', l', s', m', kg', ks'⟩ := b
  simp only [sgnT, limT, lgT', encA] at c0
  simp only [kindT, kidsT] at hw1 hw2
  rw [evalFn_go _ Tryz.func57 (by unfold Tryz.f57; rfl) (by unfold Tryz.f57; decide) (Nat.le_of_ble_eq_true (by unfold Tryz.f57; rfl)) (by kernel_rfl)]
  by_cases h1 : k = 1
  rotate_left
  · have w1 : (k != 1) = true := bne_iff_ne.mpr h1
    rw [hw2 (fun h => h1 h.1)]
    cases h3 : isI64 z with
    | false =>
      rw [intZ_noW h3] at c0
      simp only [simB, zbo, Nat.reduceBEq, own0, ↓reduceIte, Nat.reduceEqDiff, Nat.reduceAdd, simA, simL, simN, Nat.zero_add, encT, cellsT, ldT_0, ldT_1, faT_0, faT_1, Nat.reduceAdd, c0, zds, i_neqV, w1]
      exact finish_i _ _ _ _ _ _ _ (by simp only [zfp, ↓reduceIte, Nat.reduceEqDiff]; try rfl) rfl
    | true =>
      rw [intZ_yesW h3] at c0
      simp only [simB, zbo, Nat.reduceBEq, own0, ↓reduceIte, Nat.reduceEqDiff, Nat.reduceAdd, simA, simL, simN, Nat.zero_add, encT, cellsT, ldT_0, ldT_1, faT_0, faT_1, Nat.reduceAdd, c0, zds, i_neqV, w1]
      exact finish_i _ _ _ _ _ _ _ (by simp only [zfp, ↓reduceIte, Nat.reduceEqDiff]; try rfl) rfl
  have w1 : (k != 1) = false := by rw [h1]; rfl
  by_cases h2 : k' = 5
  rotate_left
  · have w2 : (k' != 5) = true := bne_iff_ne.mpr h2
    rw [hw2 (fun h => h2 h.2.1)]
    cases h3 : isI64 z with
    | false =>
      rw [intZ_noW h3] at c0
      simp only [simB, zbo, Nat.reduceBEq, own0, ↓reduceIte, Nat.reduceEqDiff, Nat.reduceAdd, simA, simL, simN, Nat.zero_add, encT, cellsT, ldT_0, ldT_1, faT_0, faT_1, Nat.reduceAdd, c0, zds, i_neqV, w1, w2]
      exact finish_i _ _ _ _ _ _ _ (by simp only [zfp, ↓reduceIte, Nat.reduceEqDiff]; try rfl) rfl
    | true =>
      rw [intZ_yesW h3] at c0
      simp only [simB, zbo, Nat.reduceBEq, own0, ↓reduceIte, Nat.reduceEqDiff, Nat.reduceAdd, simA, simL, simN, Nat.zero_add, encT, cellsT, ldT_0, ldT_1, faT_0, faT_1, Nat.reduceAdd, c0, zds, i_neqV, w1, w2]
      exact finish_i _ _ _ _ _ _ _ (by simp only [zfp, ↓reduceIte, Nat.reduceEqDiff]; try rfl) rfl
  have w2 : (k' != 5) = false := by rw [h2]; rfl
  cases h3 : isI64 z with
  | false =>
    rw [intZ_noW h3] at c0
    rw [hw2 (fun h => by have := h.2.2.1; rw [h3] at this; cases this)]
    simp only [simB, zbo, Nat.reduceBEq, own0, ↓reduceIte, Nat.reduceEqDiff, Nat.reduceAdd, simA, simL, simN, Nat.zero_add, encT, cellsT, ldT_0, ldT_1, faT_0, faT_1, Nat.reduceAdd, c0, zds, i_neqV, w1, w2, unA_not', Bool.not_false]
    exact finish_i _ _ _ _ _ _ _ (by simp only [zfp, ↓reduceIte, Nat.reduceEqDiff]; try rfl) rfl
  | true =>
    rw [intZ_yesW h3] at c0
    by_cases h4 : z < 1
    · rw [hw2 (fun h => by have := h.2.2.2.1; omega)]
      simp only [simB, zbo, Nat.reduceBEq, own0, ↓reduceIte, Nat.reduceEqDiff, Nat.reduceAdd, simA, simL, simN, Nat.zero_add, encT, cellsT, ldT_0, ldT_1, faT_0, faT_1, Nat.reduceAdd, c0, zds, i_neqV, w1, w2, unA_not', Bool.not_true, h4]
      exact finish_i _ _ _ _ _ _ _ (by simp only [zfp, ↓reduceIte, Nat.reduceEqDiff]; try rfl) rfl
    by_cases h5 : z > (ks'.length : Int)
    · rw [hw2 (fun h => by have := h.2.2.2.2; omega)]
      simp only [simB, zbo, Nat.reduceBEq, own0, ↓reduceIte, Nat.reduceEqDiff, Nat.reduceAdd, simA, simL, simN, Nat.zero_add, encT, cellsT, ldT_0, ldT_1, ldT_4, faT_0, faT_1, faT_4, Nat.reduceAdd, c0, zds, i_neqV, w1, w2, unA_not', Bool.not_true, h4, lenTk, h5]
      exact finish_i _ _ _ _ _ _ _ (by simp only [zfp, ↓reduceIte, Nat.reduceEqDiff]; try rfl) rfl
    have hz := isI64_W h3
    have f5 := i_sub Tryz.prog 3 z 1 (by omega) (by have := hz.2; omega)
    rw [hw1 ⟨h1, h2, h3, by omega, by omega⟩]
    simp only [simB, zbo, Nat.reduceBEq, own0, ↓reduceIte, Nat.reduceEqDiff, Nat.reduceAdd, simA, simL, simN, Nat.zero_add, encT, cellsT, ldT_0, ldT_1, ldT_4, faT_0, faT_1, faT_4, Nat.reduceAdd, c0, zds, i_neqV, w1, w2, unA_not', Bool.not_true, h4, lenTk, h5, f5]
    exact finish_i _ _ _ _ _ _ _ (by simp only [zfp, ↓reduceIte, Nat.reduceEqDiff]; try rfl) rfl
instance (a b : T) : Decidable (PlaceP a b) := by unfold PlaceP; infer_instance
def twoT (op : Int) (a b : T) : T × Bool := if op = 1 ∧ PlaceP a b then ((kidsT b).getD ((zOfT a).toNat - 1) T0, true) else (T0, false)
theorem two_yes (op : Int) (a b : T) (h : op = 1 ∧ PlaceP a b) : twoT op a b = ((kidsT b).getD ((zOfT a).toNat - 1) T0, true) := if_pos h
theorem two_no (op : Int) (a b : T) (h : ¬ (op = 1 ∧ PlaceP a b)) : twoT op a b = (T0, false) := if_neg h
theorem bare_two (op : Int) (a b a' b' : T) (ha : bareT a = bareT a') (hb : bareT b = bareT b') : bareT (twoT op a b).1 = bareT (twoT op a' b').1 ∧ (twoT op a b).2 = (twoT op a' b').2 := by
  have e1 : kindT a = kindT a' ∧ zOfT a = zOfT a' := by
    obtain ⟨k, b, lg, l, s, m, kg, ks⟩ := a
    obtain ⟨k', b', lg', l', s', m', kg', ks'⟩ := a'
    simp only [bareT, T.mk.injEq, true_and] at ha
    obtain ⟨rfl, rfl, rfl, _⟩ := ha
    exact ⟨rfl, rfl⟩
  have e2 : kindT b = kindT b' ∧ bareK (kidsT b) = bareK (kidsT b') := by
    obtain ⟨k, b1, lg, l, s, m, kg, ks⟩ := b
    obtain ⟨k', b1', lg', l', s', m', kg', ks'⟩ := b'
    simp only [bareT, T.mk.injEq, true_and] at hb
    exact ⟨hb.1, hb.2.2.2.2.2⟩
  have hl : (kidsT b).length = (kidsT b').length := by have := congrArg List.length e2.2; rwa [bareK_len, bareK_len] at this
  have hP : PlaceP a b ↔ PlaceP a' b' := by unfold PlaceP; rw [e1.1, e1.2, e2.1, hl]
  by_cases h : op = 1 ∧ PlaceP a b
  · rw [two_yes _ _ _ h, two_yes _ _ _ ⟨h.1, hP.1 h.2⟩, e1.2]
    exact ⟨bare_oneK _ _ _ e2.2, rfl⟩
  · rw [two_no _ _ _ h, two_no _ _ _ (fun h' => h ⟨h'.1, hP.2 h'.2⟩)]
    exact ⟨rfl, rfl⟩
theorem place_drop (a b : T) (h : PlaceP a b) : (zOfT a).toNat - 1 < (kidsT b).length ∧ (((zOfT a).toNat - 1 : Nat) : Int) = zOfT a - 1 ∧ (kidsT b).drop ((zOfT a).toNat - 1) = (kidsT b).getD ((zOfT a).toNat - 1) T0 :: (kidsT b).drop ((zOfT a).toNat - 1 + 1) := by
  obtain ⟨_, _, _, h4, h5⟩ := h
  have hi : (zOfT a).toNat - 1 < (kidsT b).length := by omega
  refine ⟨hi, by omega, ?_⟩
  rw [List.drop_eq_getElem_cons hi, List.getD_eq_getElem?_getD, List.getElem?_eq_getElem hi, Option.getD_some]
set_option maxHeartbeats 16000000 in
theorem twoA_eq (R d : Nat) (hR : 100000 ≤ R) (op : Int) (a b : T) (la : Limbs (limT a)) : evalFn Tryz.prog cfg0 R (d+5) 25 [.tree (.int .i64 op), .tree (encT a), .tree (encT b)] = some (.tree (.tup [encT (twoT op a b).1, .bool (twoT op a b).2]), [[], [], []]) := by
  obtain ⟨w, hw, hpl⟩ := placeA_eq R d hR a b la
  by_cases hP : PlaceP a b
  rotate_left
  · have c1 := fun D st => callA_trees (cfg := cfg0) (d := D) (s := st) (f := 56) (vs := [encT a, encT b]) rfl (hpl false ⟨(fun h => by cases h), fun h => absurd h hP⟩)
    rw [two_no _ _ _ (fun h => hP h.2)]
    rw [evalFn_go _ Tryz.func25 (by unfold Tryz.f25; rfl) (by unfold Tryz.f25; decide) (Nat.le_of_ble_eq_true (by unfold Tryz.f25; rfl)) (by kernel_rfl)]
    simp only [encT] at c1
    simp only [simB, zbo, Nat.reduceBEq, own0, ↓reduceIte, Nat.reduceEqDiff, Nat.reduceAdd, simA, simL, simN, Nat.zero_add, encT, zeroT, ldT_u, c1, zds, bdT_00, st_Tt, stT_6]
    exact finish_T2 _ _ _ _ _ T0 _ _ _ _ _ (by simp only [zfp, ↓reduceIte, Nat.reduceEqDiff]; try rfl) (by simp only [zfp, ↓reduceIte, Nat.reduceEqDiff]; try rfl) (by simp only [zfp, ↓reduceIte, Nat.reduceEqDiff]; try rfl) rfl
  have c1 := fun D st => callA_trees (cfg := cfg0) (d := D) (s := st) (f := 56) (vs := [encT a, encT b]) rfl (hpl true ⟨fun _ => hP, fun _ => rfl⟩)
  obtain ⟨q1, q2, q3⟩ := place_drop a b hP
  rw [hw hP, ← q2] at c1
  by_cases ho : op = 1
  rotate_left
  · have w1 : (op == 1) = false := beq_eq_false_iff_ne.mpr ho
    rw [two_no _ _ _ (fun h => ho h.1)]
    rw [evalFn_go _ Tryz.func25 (by unfold Tryz.f25; rfl) (by unfold Tryz.f25; decide) (Nat.le_of_ble_eq_true (by unfold Tryz.f25; rfl)) (by kernel_rfl)]
    simp only [encT] at c1
    simp only [simB, zbo, Nat.reduceBEq, own0, ↓reduceIte, Nat.reduceEqDiff, Nat.reduceAdd, simA, simL, simN, Nat.zero_add, encT, zeroT, ldT_u, c1, zds, i_eqlV, w1, bdT_00, st_Tt, stT_6]
    exact finish_T2 _ _ _ _ _ T0 _ _ _ _ _ (by simp only [zfp, ↓reduceIte, Nat.reduceEqDiff]; try rfl) (by simp only [zfp, ↓reduceIte, Nat.reduceEqDiff]; try rfl) (by simp only [zfp, ↓reduceIte, Nat.reduceEqDiff]; try rfl) rfl
  subst ho
  rw [two_yes _ _ _ ⟨rfl, hP⟩]
  obtain ⟨x, hx⟩ : ∃ x, (kidsT b).getD ((zOfT a).toNat - 1) T0 = x := ⟨_, rfl⟩
  obtain ⟨i, hi⟩ : ∃ i, (zOfT a).toNat - 1 = i := ⟨_, rfl⟩
  rw [hx, hi] at q3
  rw [hi] at q1 c1
  rw [hx]
  clear hx hi q2 hpl hw hP
  obtain ⟨k', b2, lg', l', s', m', kg', ks'⟩ := b
  simp only [kidsT] at q1 q3
  have i0 := fun st => ia_K st ks' (gr kg') i q1
  rw [q3] at i0
  have l0 := fun st => ld_KW st x (ks'.drop (i + 1))
  rw [evalFn_go _ Tryz.func25 (by unfold Tryz.f25; rfl) (by unfold Tryz.f25; decide) (Nat.le_of_ble_eq_true (by unfold Tryz.f25; rfl)) (by kernel_rfl)]
  simp only [encT] at c1
  have lt := fun t k => ldT_4W t k k' b2 lg' l' s' m' kg' ks'
  simp only [simB, zbo, Nat.reduceBEq, own0, ↓reduceIte, Nat.reduceEqDiff, Nat.reduceAdd, simA, simL, simN, Nat.zero_add, encT, zeroT, ldT_u, c1, zds, i_eqlV, Int.reduceBEq, faT_4, Nat.reduceAdd, lt, i0, l0, st_Tt, stT_6]
  exact finish_T2 _ _ _ _ _ x _ _ _ _ _ (by simp only [zfp, ↓reduceIte, Nat.reduceEqDiff]; try rfl) (by simp only [zfp, ↓reduceIte, Nat.reduceEqDiff]; try rfl) (by simp only [zfp, ↓reduceIte, Nat.reduceEqDiff]; try rfl) rfl
set_option maxHeartbeats 16000000 in
theorem rtwoA_eq (R d : Nat) (hR : 100000 ≤ R) (op : Int) (a b : T) (la : Limbs (limT a)) : evalFn Tryz.prog cfg0 R (d+5) 26 [.tree (.int .i64 op), .tree (encT a), .tree (encT b)] = some (.tree (.tup [encT (twoT op a b).1, .bool (twoT op a b).2]), [[], [], []]) := by
  by_cases hP : PlaceP a b
  rotate_left
  · have c1 := fun D st => callA_trees (cfg := cfg0) (d := D) (s := st) (f := 57) (vs := [encT a, encT b]) rfl (rplaceA_eq R d hR a b la (-1) (fun h => absurd h hP) (fun _ => rfl))
    rw [two_no _ _ _ (fun h => hP h.2)]
    have w2 : ((-1 : Int) < 0) := by decide
    rw [evalFn_go _ Tryz.func26 (by unfold Tryz.f26; rfl) (by unfold Tryz.f26; decide) (Nat.le_of_ble_eq_true (by unfold Tryz.f26; rfl)) (by kernel_rfl)]
    simp only [encT] at c1
    by_cases ho : op = 1
    · have w1 : (op != 1) = false := by rw [ho]; rfl
      simp only [simB, zbo, Nat.reduceBEq, own0, ↓reduceIte, Nat.reduceEqDiff, Nat.reduceAdd, simA, simL, simN, Nat.zero_add, encT, zeroT, ldT_u, c1, i_neqV, w1, w2, bdT_00, st_Tt, stT_6]
      exact finish_T2 _ _ _ _ _ T0 _ _ _ _ _ (by simp only [zfp, ↓reduceIte, Nat.reduceEqDiff]; try rfl) (by simp only [zfp, ↓reduceIte, Nat.reduceEqDiff]; try rfl) (by simp only [zfp, ↓reduceIte, Nat.reduceEqDiff]; try rfl) rfl
    · have w1 : (op != 1) = true := bne_iff_ne.mpr ho
      simp only [simB, zbo, Nat.reduceBEq, own0, ↓reduceIte, Nat.reduceEqDiff, Nat.reduceAdd, simA, simL, simN, Nat.zero_add, encT, zeroT, ldT_u, c1, i_neqV, w1, bdT_00, st_Tt, stT_6]
      exact finish_T2 _ _ _ _ _ T0 _ _ _ _ _ (by simp only [zfp, ↓reduceIte, Nat.reduceEqDiff]; try rfl) (by simp only [zfp, ↓reduceIte, Nat.reduceEqDiff]; try rfl) (by simp only [zfp, ↓reduceIte, Nat.reduceEqDiff]; try rfl) rfl
  have c1 := fun D st => callA_trees (cfg := cfg0) (d := D) (s := st) (f := 57) (vs := [encT a, encT b]) rfl (rplaceA_eq R d hR a b la (zOfT a - 1) (fun _ => rfl) (fun h => absurd hP h))
  obtain ⟨q1, q2, q3⟩ := place_drop a b hP
  rw [← q2] at c1
  by_cases ho : op = 1
  rotate_left
  · have w1 : (op != 1) = true := bne_iff_ne.mpr ho
    rw [two_no _ _ _ (fun h => ho h.1)]
    rw [evalFn_go _ Tryz.func26 (by unfold Tryz.f26; rfl) (by unfold Tryz.f26; decide) (Nat.le_of_ble_eq_true (by unfold Tryz.f26; rfl)) (by kernel_rfl)]
    simp only [encT] at c1
    simp only [simB, zbo, Nat.reduceBEq, own0, ↓reduceIte, Nat.reduceEqDiff, Nat.reduceAdd, simA, simL, simN, Nat.zero_add, encT, zeroT, ldT_u, c1, i_neqV, w1, bdT_00, st_Tt, stT_6]
    exact finish_T2 _ _ _ _ _ T0 _ _ _ _ _ (by simp only [zfp, ↓reduceIte, Nat.reduceEqDiff]; try rfl) (by simp only [zfp, ↓reduceIte, Nat.reduceEqDiff]; try rfl) (by simp only [zfp, ↓reduceIte, Nat.reduceEqDiff]; try rfl) rfl
  subst ho
  rw [two_yes _ _ _ ⟨rfl, hP⟩]
  obtain ⟨x, hx⟩ : ∃ x, (kidsT b).getD ((zOfT a).toNat - 1) T0 = x := ⟨_, rfl⟩
  obtain ⟨i, hi⟩ : ∃ i, (zOfT a).toNat - 1 = i := ⟨_, rfl⟩
  rw [hx, hi] at q3
  rw [hi] at q1 c1
  rw [hx]
  clear hx hi q2 hP
  obtain ⟨k', b2, lg', l', s', m', kg', ks'⟩ := b
  simp only [kidsT] at q1 q3
  have i0 := fun st => ia_K st ks' (gr kg') i q1
  rw [q3] at i0
  have l0 := fun st => ld_KW st x (ks'.drop (i + 1))
  have w1 : ((1 : Int) != 1) = false := rfl
  have w2 : ¬ ((i : Int) < 0) := by omega
  rw [evalFn_go _ Tryz.func26 (by unfold Tryz.f26; rfl) (by unfold Tryz.f26; decide) (Nat.le_of_ble_eq_true (by unfold Tryz.f26; rfl)) (by kernel_rfl)]
  simp only [encT] at c1
  have lt := fun t k => ldT_4W t k k' b2 lg' l' s' m' kg' ks'
  simp only [simB, zbo, Nat.reduceBEq, own0, ↓reduceIte, Nat.reduceEqDiff, Nat.reduceAdd, simA, simL, simN, Nat.zero_add, encT, zeroT, ldT_u, c1, i_neqV, w1, w2, faT_4, Nat.reduceAdd, lt, i0, l0, st_Tt, stT_6]
  exact finish_T2 _ _ _ _ _ x _ _ _ _ _ (by simp only [zfp, ↓reduceIte, Nat.reduceEqDiff]; try rfl) (by simp only [zfp, ↓reduceIte, Nat.reduceEqDiff]; try rfl) (by simp only [zfp, ↓reduceIte, Nat.reduceEqDiff]; try rfl) rfl
end Go.Ab

/- bif.Make, relictref19.Make. Conditions: lengths in range. -/
namespace Go.Ab
open Go.Proofs
set_option maxRecDepth 100000
set_option linter.unusedSimpArgs false

end Go.Ab

/- The run of BifAll and BifCalls (CFG4); relictlaw00.Terms. Conditions: lengths in range. -/
namespace Go.Ab
open Go.Proofs
set_option maxRecDepth 100000
set_option linter.unusedSimpArgs false

def run4 (f : FuncId) (_ : List Arg) : Bool := f == 5 || f == 3 || f == 9 || f == 64 || f == 8 || f == 34 || f == 10 || f == 37
noncomputable def prim4 (f : FuncId) (xs : List Arg) : Option Out := match run4 f xs with
  | true => none
  | false => match f == 21 with
    | true => evalFn Tryz.prog cfg3 9223372036854775808 6190 f xs
    | false => evalFn Tryz.prog cfg0 9223372036854775808 6190 f xs
noncomputable def cfg4 : Cfg := ⟨fun _ _ => false, fun f => f == 64, prim4, fun p => p == "slices.go:362" || p == "#bif.go:203" || p == "ref.go:175" || p == "#ref.go:177"⟩
theorem own4 (p : String) : cfg4.ownAt p = (p == "slices.go:362" || p == "#bif.go:203" || p == "ref.go:175" || p == "#ref.go:177") := rfl
theorem keep4 (f : FuncId) : cfg4.keep f = (f == 64) := rfl
theorem ev4 {n d : Nat} {f : FuncId} {xs : List Arg} {o : Out} (h1 : run4 f xs = false) (h2 : (f == 21) = false) (h : evalFn Tryz.prog cfg0 9223372036854775808 6190 f xs = some o) : evalFn Tryz.prog cfg4 n (d+1) f xs = some o := by
  have hc : cfg4.prim = prim4 := rfl
  have hp : prim4 f xs = some o := by unfold prim4; rw [h1]; dsimp only; rw [h2]; exact h
  rw [evalFn]
  simp only [hc, hp]
theorem term4_eq (n d : Nat) (t : T) (h : htT t ≤ 6189) (hf : fewT 100000 t) : evalFn Tryz.prog cfg4 n (d+1) 21 [.tree (encT t)] = some (.tree (encT (copyT t)), [[]]) := by
  have hc : cfg4.prim = prim4 := rfl
  have hp : prim4 21 [.tree (encT t)] = some (.tree (encT (copyT t)), [[]]) := term3_eq 9223372036854775808 (by decide) 6189 t h hf
  rw [evalFn]
  simp only [hc, hp]
theorem finish_KtW (k : Bool) (xs : List Arg) (t d : Nat) (x : AV) (us : List T) (env : Env) (s : St) (os : List (List AV)) (hk : k = false) (hv : env t = x) (hA : Ap s d x us) (ho : outsA s 0 xs = some os) :
    finishP Tryz.prog k xs #[.tmp t] env s = some (.tree (.sl (cellsK us) us.length (gr (kgOf us))), os) := by
  subst hk
  rw [finishP_t1]
  rcases hA with ⟨rfl, rfl⟩ | ⟨hu, tt, rfl, _⟩
  · simp [finish, finish1, hv, settle, ho, kgOf, gr, cellsK]
  · simp [finish, finish1, hv, ho, kgOf, hu, gr]
theorem one26_c4 (call : FuncId → List Arg → Option Out) (q : Bool) (d : Option Tmp) (ty : TypeId) (pos : String) (af : Array Edge) (g : Option (Nat × Bool)) (t : Nat) (env : Env) (s : St) (x : Operand) :
    opA Tryz.prog cfg4 call q ⟨d, .buildSlice 22 1 #[(0, x)], ty, pos, af, g⟩ t env s = (one26 (ev env x)).map (·, s) := by
  rw [opA_bs]
  simp only [tkTk, eszT, zeroT, Option.bind_some, List.map_cons, List.map_nil]
  rfl
set_option maxHeartbeats 16000000 in
theorem terms4_eq (n d : Nat) (us : List T) (g : Grip) (hn : us.length < n) (hl : us.length ≤ 100000) (hu : ∀ t ∈ us, htT t ≤ 6189 ∧ fewT 100000 t) : evalFn Tryz.prog cfg4 n (d+2) 9 [.tree (.sl (cellsK us) us.length g)] = some (.tree (.sl (cellsK (copyK us)) (copyK us).length (gr (kgOf (copyK us)))), [[]]) := by
  rw [copyK_map]
  rw [evalFn_go _ Tryz.func9 (by unfold Tryz.f9; rfl) (by unfold Tryz.f9; decide) (Nat.le_of_ble_eq_true (by unfold Tryz.f9; rfl)) (by kernel_rfl)]
  simp only [simB, keep4, Nat.reduceBEq, own4, String.reduceAppend, String.reduceBEq, Bool.or_false, Bool.or_true, Bool.or_self, ↓reduceIte, Nat.reduceEqDiff, Nat.reduceAdd, simA, simL, simN, Nat.zero_add, den_loop]
  refine loop_ends (X := Nat) (fun i env s => env 0 = .sl (cellsK us) us.length g ∧ env 4 = .int .i64 (i : Int) ∧ Ap s 18 (env 3) ((us.take i).map copyT) ∧ i ≤ us.length) (fun i => us.length - i) (fun _ => (.tree (.sl (cellsK (us.map copyT)) (us.map copyT).length (gr (kgOf (us.map copyT)))), [[]])) ?_ n 0 _ _ (by omega) ⟨(by simp only [zfp, ↓reduceIte, Nat.reduceEqDiff, env0, List.getElem?_cons_zero]; try rfl), (by simp only [zfp, ↓reduceIte, Nat.reduceEqDiff]; try rfl), .inl ⟨rfl, (by simp only [zfp, ↓reduceIte, Nat.reduceEqDiff]; try rfl)⟩, Nat.zero_le _⟩
  rintro rd i hrd ih env st ⟨e0, e4, ap, hi⟩
  generalize h3 : env 3 = x3 at ap
  cases hdr : us.drop i with
  | nil =>
    have hil : i = us.length := by have := congrArg List.length hdr; simp only [List.length_drop, List.length_nil] at this; omega
    subst hil
    rw [List.take_length] at ap
    have q1 : ¬ ((us.length : Int) < (us.length : Int)) := by omega
    simp only [simB, keep4, Nat.reduceBEq, own4, String.reduceAppend, String.reduceBEq, Bool.or_false, Bool.or_true, Bool.or_self, ↓reduceIte, Nat.reduceEqDiff, Nat.reduceAdd, simL, simN, Nat.zero_add, e0, e4, h3, lenTk, q1]
    exact finish_KtW _ _ _ 18 x3 _ _ _ _ rfl (by simp only [zfp, ↓reduceIte, Nat.reduceEqDiff]; try rfl) ap rfl
  | cons t r =>
    have hil : i < us.length := by have := congrArg List.length hdr; simp only [List.length_drop, List.length_cons] at this; omega
    have q1 : (i : Int) < (us.length : Int) := by omega
    have hx : us[i]? = some t := by rw [← Nat.add_zero i, ← List.getElem?_drop, hdr]; rfl
    obtain ⟨hh, hf⟩ := hu t (List.mem_of_getElem? hx)
    have ck := fun D st => callA_trees (cfg := cfg4) (d := D) (s := st) (f := 21) (vs := [encT t]) rfl (term4_eq n d t hh hf)
    have ia := fun st => ia_K st us g i hil
    rw [hdr] at ia
    have ld := fun st => ld_KW st t r
    have hm : (us.take (i + 1)).map copyT = (us.take i).map copyT ++ [copyT t] := by
      rw [List.take_add_one, hx, List.map_append]; rfl
    have hlen : ((us.take i).map copyT).length ≤ 1000000 := by rw [List.length_map, List.length_take]; omega
    obtain ⟨x', s', a1', a2', a3'⟩ := ap.push hlen (copyT t)
    have f5 := i_add Tryz.prog 3 (i : Int) 1 (by omega) (by omega)
    simp only [encT] at ck
    simp only [simB, keep4, Nat.reduceBEq, own4, String.reduceAppend, String.reduceBEq, Bool.or_false, Bool.or_true, Bool.or_self, ↓reduceIte, Nat.reduceEqDiff, Nat.reduceAdd, simL, simN, Nat.zero_add, e0, e4, h3, lenTk, q1, ia, ld, ck, one26_c4, one26_KU, a1', f5]
    refine ih (i + 1) _ _ (by omega) rfl ⟨(by simp only [zfp, ↓reduceIte, Nat.reduceEqDiff, e0]; try rfl), (by simp only [zfp, ↓reduceIte, Nat.reduceEqDiff]; try rfl), ?_, by omega⟩
    rw [hm]
    rcases a2' with ⟨g1, _⟩ | ⟨g1, tt, g2, g3⟩
    · exact absurd g1 (by simp)
    · exact .inr ⟨g1, tt, (by simp only [zfp, ↓reduceIte, Nat.reduceEqDiff, g2]; try rfl), g3⟩
end Go.Ab

/- What BifAll compares, term by term. Conditions: terms that are few. -/
namespace Go.Ab
open Go.Proofs
set_option maxRecDepth 100000
set_option linter.unusedSimpArgs false

mutual
theorem nod_copy : ∀ t : T, nodT (copyT t) = nodT t
  | .mk k b lg l s n kg ks => by simp only [copyT, nodT, nodK_copy ks]
theorem nodK_copy : ∀ ks : List T, nodK (copyK ks) = nodK ks
  | [] => rfl
  | t :: r => by simp only [copyK, nodK, nod_copy t, nodK_copy r]
end
theorem lim_copy (t : T) : limT (copyT t) = limT t := by obtain ⟨k, b, lg, l, s, m, kg, ks⟩ := t; rfl
theorem str_copy (t : T) : strT (copyT t) = strT t := by obtain ⟨k, b, lg, l, s, m, kg, ks⟩ := t; rfl
theorem kids_copy (t : T) : kidsT (copyT t) = copyK (kidsT t) := by obtain ⟨k, b, lg, l, s, m, kg, ks⟩ := t; rfl
theorem copyK_len (ks : List T) : (copyK ks).length = ks.length := by rw [copyK_map, List.length_map]
mutual
theorem few_copy (m : Nat) : ∀ t : T, fewT m t → fewT m (copyT t)
  | .mk k b lg l s n kg ks, h => by
    simp only [fewT] at h
    simp only [copyT, fewT, copyK_len]
    exact ⟨h.1, h.2.1, fewK_copy m ks h.2.2⟩
theorem fewK_copy (m : Nat) : ∀ ks : List T, fewK m ks → fewK m (copyK ks)
  | [], _ => by simp only [copyK, fewK]
  | t :: r, h => by
    simp only [fewK] at h
    simp only [copyK, fewK]
    exact ⟨few_copy m t h.1, fewK_copy m r h.2⟩
end
def okX (u : T) : Prop := fewT 100000 u ∧ htT u ≤ 2000
theorem okX_leaf (k : Int) (b : Bool) (g : Gk) (l : List Nat) (s : List UInt8) (n : Int) (h : l.length < 100000) : okX (.mk k b g l s n .n []) := by
  refine ⟨?_, ?_⟩
  · simp only [fewT, fewK, List.length_nil]; exact ⟨h, by omega, trivial⟩
  · simp only [htT, htK]; omega
theorem okX_0 : okX T0 := okX_leaf _ _ _ _ _ _ (by simp)
theorem kid_ok : ∀ (ks : List T) (i : Nat), fewK 100000 ks → htK ks ≤ 1999 → okX (ks.getD i T0)
  | [], i, _, _ => okX_0
  | t :: r, 0, h, h2 => by
    simp only [fewK] at h
    simp only [htK] at h2
    exact ⟨h.1, by show htT t ≤ 2000; omega⟩
  | t :: r, i + 1, h, h2 => by
    simp only [fewK] at h
    simp only [htK] at h2
    have := kid_ok r i h.2 (by omega)
    simpa using this
theorem kids_few (t : T) (h : fewT 100000 t) (hn : nodT t ≤ 1999) : fewK 100000 (kidsT t) ∧ htK (kidsT t) ≤ 1999 := by
  obtain ⟨k, b, lg, l, s, m, kg, ks⟩ := t
  simp only [fewT] at h
  simp only [nodT] at hn
  have := htK_nod ks
  exact ⟨h.2.2, by show htK ks ≤ 1999; omega⟩
theorem digs12 (z : Int) (h : z.natAbs < B ^ 12) : (digs z.natAbs).length < 100000 := by
  have := (digs_len_le z.natAbs 12).2 h
  omega
theorem small_ok (v : Int) (h : I64 v) : okX (smallT v) := okX_leaf _ _ _ _ _ _ (digs12 v (Nat.lt_of_lt_of_le (show v.natAbs < 18446744073709551616 by have := h.1; have := h.2; omega) (by decide)))
theorem one_ok (op : Int) (t : T) (hf : fewT 100000 t) (hn : nodT t ≤ 1999) (hs : (strT t).length ≤ 1000000) : okX (oneT smallT op t).1 := by
  have hk := kids_few t hf hn
  have hkl : (kidsT t).length ≤ 1000000 := by
    obtain ⟨k, b, lg, l, s, m, kg, ks⟩ := t
    simp only [fewT] at hf
    show ks.length ≤ 1000000
    omega
  by_cases q1 : (op = 1 ∨ op = 2) ∧ kindT t = 4 ∧ (kidsT t).length = 2
  · rw [one_12 smallT op t _ q1.1 q1.2.1 q1.2.2 rfl]; exact kid_ok _ _ hk.1 hk.2
  by_cases q2 : op = 3 ∧ kindT t = 5
  · obtain ⟨rfl, q2⟩ := q2
    rw [one_3 smallT t q2]; exact small_ok _ ⟨by omega, by omega⟩
  by_cases q3 : op = 4 ∧ kindT t = 6
  · obtain ⟨rfl, q3⟩ := q3
    rw [one_4 smallT t q3]; exact small_ok _ ⟨by omega, by omega⟩
  by_cases q4 : op = 5
  · subst q4
    cases h1 : itemsT t with
    | none => rw [one_no smallT 5 t q1 q2 q3 (.inr h1)]; exact okX_0
    | some u =>
      have := items_len t u h1
      rw [one_5 smallT t u h1]; exact small_ok _ ⟨by omega, by omega⟩
  · rw [one_no smallT op t q1 q2 q3 (.inl q4)]; exact okX_0
theorem two_ok (op : Int) (a b : T) (hf : fewT 100000 b) (hn : nodT b ≤ 1999) : okX (twoT op a b).1 := by
  have hk := kids_few b hf hn
  by_cases h : op = 1 ∧ PlaceP a b
  · rw [two_yes _ _ _ h]; exact kid_ok _ _ hk.1 hk.2
  · rw [two_no _ _ _ h]; exact okX_0
structure PairX (F G : FuncId) (n : Nat) (xs ys : List AV) (x y : T) (o : Bool) : Prop where
  p : evalFn Tryz.prog cfg0 9223372036854775808 6190 F (xs.map .tree) = some (.tree (.tup [encT x, .bool o]), xs.map fun _ => [])
  q : evalFn Tryz.prog cfg0 9223372036854775808 6190 G (ys.map .tree) = some (.tree (.tup [encT y, .bool o]), ys.map fun _ => [])
  ok : okX x
  same : bareT x = bareT y
theorem ratom_eq (n d : Nat) (s : List UInt8) : evalFn Tryz.prog cfg0 n (d+1) 30 [.tree (.str s)] = some (.tree (encT (atomT s)), [[]]) := by
  rw [evalFn_go _ Tryz.func30 (by unfold Tryz.f30; rfl) (by unfold Tryz.f30; decide) (Nat.le_of_ble_eq_true (by unfold Tryz.f30; rfl)) (by kernel_rfl)]
  simp only [simB, zbo, Nat.reduceBEq, own0, ↓reduceIte, Nat.reduceEqDiff, Nat.reduceAdd, simA, simL, simN, Nat.zero_add, zeroT, bdT_at, st_Tt, stT_6]
  exact finish_cT _ _ _ _ _ (atomT s) _ _ _ (by simp only [zfp, ↓reduceIte, Nat.reduceEqDiff]; try rfl) (by simp only [zfp, ↓reduceIte, Nat.reduceEqDiff]; try rfl) rfl
end Go.Ab

/- The statement NumBits, abstractly. Conditions: limbs in range. -/
namespace Go.Ab
open Go.Proofs
set_option maxRecDepth 100000
set_option linter.unusedSimpArgs false

section
variable {P : Program} {cfg : Cfg} {call : FuncId → List Arg → Option Out}
def callVQ (call : FuncId → List Arg → Option Out) (vs : List AV) : AV → Option AV
  | .fn f caps => callQ call f (vs ++ caps)
  | _ => none
@[congr] theorem callVQ_congr {vs vs' : List AV} {v v' : AV} (h : v = v') (h2 : vs = vs') : callVQ call vs v = callVQ call vs' v' := by rw [h, h2]
end
end Go.Ab

/- The statement BifAll (CFG4). Conditions: terms; limbs, texts in range. -/
namespace Go.Ab
open Go.Proofs
set_option maxRecDepth 100000
set_option linter.unusedSimpArgs false

theorem awake4 (n d : Nat) : evalFn Tryz.prog cfg4 n (d+1) 7 [] = some (.tree (.bool true), []) := ev4 rfl rfl (evalFn_mono (by decide) 60 6190 (by decide) _ _ _ awakeB_eq)
theorem few4 (n d : Nat) (us : List T) (g : Grip) (hb : bigK 9223372036854775808 us) (hf : fewK 9223372036854775808 us) : evalFn Tryz.prog cfg4 n (d+1) 6 [.tree (.sl (cellsK us) us.length g)] = some (.tree (.bool (fewR 12 us && decide (us.length ≤ 12))), [[]]) := ev4 rfl rfl (fewB_eq 9223372036854775808 6189 (by decide) (by decide) (by decide) us g hb hf)
theorem same4 (n d : Nat) (x y : T) (h : okX x) (hb : bareT x = bareT y) : evalFn Tryz.prog cfg4 n (d+1) 11 [.tree (encT x), .tree (encT y)] = some (.tree (.bool true), [[], []]) := ev4 rfl rfl (sameX_eq 9223372036854775808 (by decide) 6188 x y (by have := h.2; omega) h.1 hb)
structure FewX (t : T) : Prop where
  few : fewT 100000 t
  nod : nodT t ≤ 100
  lim : Limbs (limT t)
  str : (strT t).length ≤ 1000000
theorem fewX_of (t : T) (hb : bigT 9223372036854775808 t) (h : lgT t 100 ≥ 0) : FewX t := by
  have h2 := lgT_ok t 100 h
  have h3 : nodT t ≤ 100 := by omega
  refine ⟨fewT_le (by decide) t (few_node 100 t h2.1 h3 (by decide)), h3, ?_, ?_⟩
  · obtain ⟨k, b, lg, l, s, m, kg, ks⟩ := t
    simp only [bigT] at hb
    exact hb.1
  · obtain ⟨k, b, lg, l, s, m, kg, ks⟩ := t
    have := h2.1
    simp only [leanT] at this
    show s.length ≤ 1000000
    omega
theorem bigK_mem (R : Nat) : ∀ (ks : List T), bigK R ks → ∀ t ∈ ks, bigT R t
  | [], _, t, h => by cases h
  | a :: r, h, t, ht => by
    simp only [bigK] at h
    rcases List.mem_cons.1 ht with rfl | ht
    · exact h.1
    · exact bigK_mem R r h.2 t ht
theorem tk4W : tkOf Tryz.prog 4 = .bool := by kernel_rfl
end Go.Ab

/- The walk of BifAll (CFG4): it gives true, and leaves memory below as it was. No conditions. -/
namespace Go.Ab
open Go.Proofs Go.RowKit
theorem prim3_ok : FnOk Tryz.prog prim3 := fun f xs r os h => by
  unfold prim3 at h
  split at h
  · cases h
  · exact evalFn_ok mixed prim0_ok 9223372036854775808 6190 f xs r os h
theorem prim4_ok : FnOk Tryz.prog prim4 := fun f xs r os h => by
  unfold prim4 at h
  split at h
  · cases h
  · split at h
    · exact evalFn_ok (cfg := cfg3) mixed prim3_ok 9223372036854775808 6190 f xs r os h
    · exact evalFn_ok mixed prim0_ok 9223372036854775808 6190 f xs r os h
theorem st0_4W (a b c d : AV) : st0 [.tree a, .tree b, .tree c, .tree d] = dead := by
  funext p
  match p with
  | 0 => rfl
  | 1 => rfl
  | 2 => rfl
  | 3 => rfl
  | p + 4 => rfl
end Go.Ab

/- bif.Has, relictref19.Has of any strings. Conditions: lengths in range. -/
namespace Go.Ab
open Go.Proofs
set_option maxRecDepth 100000
set_option linter.unusedSimpArgs false

def erlW : List UInt8 := [101, 114, 108, 97, 110, 103]
def lisW : List UInt8 := [108, 105, 115, 116, 115]
def w_error : List UInt8 := [101, 114, 114, 111, 114]
def w_exit : List UInt8 := [101, 120, 105, 116]
def w_throw : List UInt8 := [116, 104, 114, 111, 119]
def w_hd : List UInt8 := [104, 100]
def w_tl : List UInt8 := [116, 108]
def w_tuple_size : List UInt8 := [116, 117, 112, 108, 101, 95, 115, 105, 122, 101]
def w_byte_size : List UInt8 := [98, 121, 116, 101, 95, 115, 105, 122, 101]
def w_length : List UInt8 := [108, 101, 110, 103, 116, 104]
def w_list_to_tuple : List UInt8 := [108, 105, 115, 116, 95, 116, 111, 95, 116, 117, 112, 108, 101]
def w_tuple_to_list : List UInt8 := [116, 117, 112, 108, 101, 95, 116, 111, 95, 108, 105, 115, 116]
def w_integer_to_list : List UInt8 := [105, 110, 116, 101, 103, 101, 114, 95, 116, 111, 95, 108, 105, 115, 116]
def w_atom_to_list : List UInt8 := [97, 116, 111, 109, 95, 116, 111, 95, 108, 105, 115, 116]
def w_element : List UInt8 := [101, 108, 101, 109, 101, 110, 116]
def w_pp : List UInt8 := [43, 43]
def w_max : List UInt8 := [109, 97, 120]
def w_min : List UInt8 := [109, 105, 110]
def w_setelement : List UInt8 := [115, 101, 116, 101, 108, 101, 109, 101, 110, 116]
def w_reverse : List UInt8 := [114, 101, 118, 101, 114, 115, 101]
def w_member : List UInt8 := [109, 101, 109, 98, 101, 114]
def arE (s : List UInt8) : Int := if s == w_error then 1 else if s == w_exit then 1 else if s == w_throw then 1 else if s == w_hd then 1 else if s == w_tl then 1 else if s == w_tuple_size then 1 else if s == w_byte_size then 1 else if s == w_length then 1 else if s == w_list_to_tuple then 1 else if s == w_tuple_to_list then 1 else if s == w_integer_to_list then 1 else if s == w_atom_to_list then 1 else if s == w_element then 2 else if s == w_pp then 2 else if s == w_max then 2 else if s == w_min then 2 else if s == w_setelement then 3 else -1
def arL (s : List UInt8) : Int := if s == w_reverse then 1 else if s == w_member then 2 else -1
theorem cons_beqW (a : UInt8) (x y : List UInt8) : (a :: x == a :: y) = (x == y) := by simp
theorem cons_bneW (a b : UInt8) (x y : List UInt8) (h : (a == b) = false) : (a :: x == b :: y) = false := by simp [List.cons_beq_cons, h]
theorem erl_pre (s q : List UInt8) : ((erlW ++ [58]) ++ s == 101 :: 114 :: 108 :: 97 :: 110 :: 103 :: 58 :: q) = (s == q) := by
  simp only [erlW, List.cons_append, List.nil_append, cons_beqW]
theorem erl_not (s q : List UInt8) : ((erlW ++ [58]) ++ s == 108 :: q) = false := by
  simp only [erlW, List.cons_append, List.nil_append]
  exact cons_bneW _ _ _ _ (by decide)
theorem lis_pre (s q : List UInt8) : ((lisW ++ [58]) ++ s == 108 :: 105 :: 115 :: 116 :: 115 :: 58 :: q) = (s == q) := by
  simp only [lisW, List.cons_append, List.nil_append, cons_beqW]
theorem lis_not (s q : List UInt8) : ((lisW ++ [58]) ++ s == 101 :: q) = false := by
  simp only [lisW, List.cons_append, List.nil_append]
  exact cons_bneW _ _ _ _ (by decide)
theorem bar_error : evalFn Tryz.prog cfg0 100000 20 40 [.tree (.str erlW), .tree (.str w_error)] = some (.tree (.int .i64 1), [[], []]) := by kernel_rfl
theorem bar_exit : evalFn Tryz.prog cfg0 100000 20 40 [.tree (.str erlW), .tree (.str w_exit)] = some (.tree (.int .i64 1), [[], []]) := by kernel_rfl
theorem bar_throw : evalFn Tryz.prog cfg0 100000 20 40 [.tree (.str erlW), .tree (.str w_throw)] = some (.tree (.int .i64 1), [[], []]) := by kernel_rfl
theorem bar_hd : evalFn Tryz.prog cfg0 100000 20 40 [.tree (.str erlW), .tree (.str w_hd)] = some (.tree (.int .i64 1), [[], []]) := by kernel_rfl
theorem bar_tl : evalFn Tryz.prog cfg0 100000 20 40 [.tree (.str erlW), .tree (.str w_tl)] = some (.tree (.int .i64 1), [[], []]) := by kernel_rfl
theorem bar_tuple_size : evalFn Tryz.prog cfg0 100000 20 40 [.tree (.str erlW), .tree (.str w_tuple_size)] = some (.tree (.int .i64 1), [[], []]) := by kernel_rfl
theorem bar_byte_size : evalFn Tryz.prog cfg0 100000 20 40 [.tree (.str erlW), .tree (.str w_byte_size)] = some (.tree (.int .i64 1), [[], []]) := by kernel_rfl
theorem bar_length : evalFn Tryz.prog cfg0 100000 20 40 [.tree (.str erlW), .tree (.str w_length)] = some (.tree (.int .i64 1), [[], []]) := by kernel_rfl
theorem bar_list_to_tuple : evalFn Tryz.prog cfg0 100000 20 40 [.tree (.str erlW), .tree (.str w_list_to_tuple)] = some (.tree (.int .i64 1), [[], []]) := by kernel_rfl
theorem bar_tuple_to_list : evalFn Tryz.prog cfg0 100000 20 40 [.tree (.str erlW), .tree (.str w_tuple_to_list)] = some (.tree (.int .i64 1), [[], []]) := by kernel_rfl
theorem bar_integer_to_list : evalFn Tryz.prog cfg0 100000 20 40 [.tree (.str erlW), .tree (.str w_integer_to_list)] = some (.tree (.int .i64 1), [[], []]) := by kernel_rfl
theorem bar_atom_to_list : evalFn Tryz.prog cfg0 100000 20 40 [.tree (.str erlW), .tree (.str w_atom_to_list)] = some (.tree (.int .i64 1), [[], []]) := by kernel_rfl
theorem bar_element : evalFn Tryz.prog cfg0 100000 20 40 [.tree (.str erlW), .tree (.str w_element)] = some (.tree (.int .i64 2), [[], []]) := by kernel_rfl
theorem bar_pp : evalFn Tryz.prog cfg0 100000 20 40 [.tree (.str erlW), .tree (.str w_pp)] = some (.tree (.int .i64 2), [[], []]) := by kernel_rfl
theorem bar_max : evalFn Tryz.prog cfg0 100000 20 40 [.tree (.str erlW), .tree (.str w_max)] = some (.tree (.int .i64 2), [[], []]) := by kernel_rfl
theorem bar_min : evalFn Tryz.prog cfg0 100000 20 40 [.tree (.str erlW), .tree (.str w_min)] = some (.tree (.int .i64 2), [[], []]) := by kernel_rfl
theorem bar_setelement : evalFn Tryz.prog cfg0 100000 20 40 [.tree (.str erlW), .tree (.str w_setelement)] = some (.tree (.int .i64 3), [[], []]) := by kernel_rfl
theorem bal_reverse : evalFn Tryz.prog cfg0 100000 20 40 [.tree (.str lisW), .tree (.str w_reverse)] = some (.tree (.int .i64 1), [[], []]) := by kernel_rfl
theorem bal_member : evalFn Tryz.prog cfg0 100000 20 40 [.tree (.str lisW), .tree (.str w_member)] = some (.tree (.int .i64 2), [[], []]) := by kernel_rfl
theorem rar_error : evalFn Tryz.prog cfg0 100000 20 41 [.tree (.str erlW), .tree (.str w_error)] = some (.tree (.int .i64 1), [[], []]) := by kernel_rfl
theorem rar_exit : evalFn Tryz.prog cfg0 100000 20 41 [.tree (.str erlW), .tree (.str w_exit)] = some (.tree (.int .i64 1), [[], []]) := by kernel_rfl
theorem rar_throw : evalFn Tryz.prog cfg0 100000 20 41 [.tree (.str erlW), .tree (.str w_throw)] = some (.tree (.int .i64 1), [[], []]) := by kernel_rfl
theorem rar_hd : evalFn Tryz.prog cfg0 100000 20 41 [.tree (.str erlW), .tree (.str w_hd)] = some (.tree (.int .i64 1), [[], []]) := by kernel_rfl
theorem rar_tl : evalFn Tryz.prog cfg0 100000 20 41 [.tree (.str erlW), .tree (.str w_tl)] = some (.tree (.int .i64 1), [[], []]) := by kernel_rfl
theorem rar_tuple_size : evalFn Tryz.prog cfg0 100000 20 41 [.tree (.str erlW), .tree (.str w_tuple_size)] = some (.tree (.int .i64 1), [[], []]) := by kernel_rfl
theorem rar_byte_size : evalFn Tryz.prog cfg0 100000 20 41 [.tree (.str erlW), .tree (.str w_byte_size)] = some (.tree (.int .i64 1), [[], []]) := by kernel_rfl
theorem rar_length : evalFn Tryz.prog cfg0 100000 20 41 [.tree (.str erlW), .tree (.str w_length)] = some (.tree (.int .i64 1), [[], []]) := by kernel_rfl
theorem rar_list_to_tuple : evalFn Tryz.prog cfg0 100000 20 41 [.tree (.str erlW), .tree (.str w_list_to_tuple)] = some (.tree (.int .i64 1), [[], []]) := by kernel_rfl
theorem rar_tuple_to_list : evalFn Tryz.prog cfg0 100000 20 41 [.tree (.str erlW), .tree (.str w_tuple_to_list)] = some (.tree (.int .i64 1), [[], []]) := by kernel_rfl
theorem rar_integer_to_list : evalFn Tryz.prog cfg0 100000 20 41 [.tree (.str erlW), .tree (.str w_integer_to_list)] = some (.tree (.int .i64 1), [[], []]) := by kernel_rfl
theorem rar_atom_to_list : evalFn Tryz.prog cfg0 100000 20 41 [.tree (.str erlW), .tree (.str w_atom_to_list)] = some (.tree (.int .i64 1), [[], []]) := by kernel_rfl
theorem rar_element : evalFn Tryz.prog cfg0 100000 20 41 [.tree (.str erlW), .tree (.str w_element)] = some (.tree (.int .i64 2), [[], []]) := by kernel_rfl
theorem rar_pp : evalFn Tryz.prog cfg0 100000 20 41 [.tree (.str erlW), .tree (.str w_pp)] = some (.tree (.int .i64 2), [[], []]) := by kernel_rfl
theorem rar_max : evalFn Tryz.prog cfg0 100000 20 41 [.tree (.str erlW), .tree (.str w_max)] = some (.tree (.int .i64 2), [[], []]) := by kernel_rfl
theorem rar_min : evalFn Tryz.prog cfg0 100000 20 41 [.tree (.str erlW), .tree (.str w_min)] = some (.tree (.int .i64 2), [[], []]) := by kernel_rfl
theorem rar_setelement : evalFn Tryz.prog cfg0 100000 20 41 [.tree (.str erlW), .tree (.str w_setelement)] = some (.tree (.int .i64 3), [[], []]) := by kernel_rfl
theorem ral_reverse : evalFn Tryz.prog cfg0 100000 20 41 [.tree (.str lisW), .tree (.str w_reverse)] = some (.tree (.int .i64 1), [[], []]) := by kernel_rfl
theorem ral_member : evalFn Tryz.prog cfg0 100000 20 41 [.tree (.str lisW), .tree (.str w_member)] = some (.tree (.int .i64 2), [[], []]) := by kernel_rfl
set_option maxHeartbeats 16000000 in
theorem bar_none (R d : Nat) (s : List UInt8) (hs : s.length ≤ 9000000000000000000) (h0 : (s == w_error) = false) (h1 : (s == w_exit) = false) (h2 : (s == w_throw) = false) (h3 : (s == w_hd) = false) (h4 : (s == w_tl) = false) (h5 : (s == w_tuple_size) = false) (h6 : (s == w_byte_size) = false) (h7 : (s == w_length) = false) (h8 : (s == w_list_to_tuple) = false) (h9 : (s == w_tuple_to_list) = false) (h10 : (s == w_integer_to_list) = false) (h11 : (s == w_atom_to_list) = false) (h12 : (s == w_element) = false) (h13 : (s == w_pp) = false) (h14 : (s == w_max) = false) (h15 : (s == w_min) = false) (h16 : (s == w_setelement) = false) : evalFn Tryz.prog cfg0 R (d+1) 40 [.tree (.str erlW), .tree (.str s)] = some (.tree (.int .i64 (-1)), [[], []]) := by
  rw [evalFn_go _ Tryz.func40 (by unfold Tryz.f40; rfl) (by unfold Tryz.f40; decide) (Nat.le_of_ble_eq_true (by unfold Tryz.f40; rfl)) (by kernel_rfl)]
  have a1 := s_addS Tryz.prog 9 erlW [58] (by decide)
  have a2 := s_addS Tryz.prog 9 (erlW ++ [58]) s (by simp only [List.length_append, erlW, List.length_cons, List.length_nil]; omega)
  simp only [w_error, w_exit, w_throw, w_hd, w_tl, w_tuple_size, w_byte_size, w_length, w_list_to_tuple, w_tuple_to_list, w_integer_to_list, w_atom_to_list, w_element, w_pp, w_max, w_min, w_setelement] at h0 h1 h2 h3 h4 h5 h6 h7 h8 h9 h10 h11 h12 h13 h14 h15 h16
  simp only [simB, zbo, Nat.reduceBEq, own0, ↓reduceIte, Nat.reduceEqDiff, Nat.reduceAdd, simA, simL, simN, Nat.zero_add, zev, List.toList_toArray, len9, ix9, zew, zex, zey, zez, zfa, s_eqlS, a1, a2, erl_pre, erl_not, h0, h1, h2, h3, h4, h5, h6, h7, h8, h9, h10, h11, h12, h13, h14, h15, h16]
  exact finish_i _ _ _ _ _ _ _ (by simp only [zfp, ↓reduceIte, Nat.reduceEqDiff]; try rfl) rfl
set_option maxHeartbeats 16000000 in
theorem rar_none (R d : Nat) (s : List UInt8) (h0 : (s == w_error) = false) (h1 : (s == w_exit) = false) (h2 : (s == w_throw) = false) (h3 : (s == w_hd) = false) (h4 : (s == w_tl) = false) (h5 : (s == w_tuple_size) = false) (h6 : (s == w_byte_size) = false) (h7 : (s == w_length) = false) (h8 : (s == w_list_to_tuple) = false) (h9 : (s == w_tuple_to_list) = false) (h10 : (s == w_integer_to_list) = false) (h11 : (s == w_atom_to_list) = false) (h12 : (s == w_element) = false) (h13 : (s == w_pp) = false) (h14 : (s == w_max) = false) (h15 : (s == w_min) = false) (h16 : (s == w_setelement) = false) : evalFn Tryz.prog cfg0 R (d+1) 41 [.tree (.str erlW), .tree (.str s)] = some (.tree (.int .i64 (-1)), [[], []]) := by
  rw [evalFn_go _ Tryz.func41 (by unfold Tryz.f41; rfl) (by unfold Tryz.f41; decide) (Nat.le_of_ble_eq_true (by unfold Tryz.f41; rfl)) (by kernel_rfl)]
  have w0 : (erlW == ([108, 105, 115, 116, 115] : List UInt8)) = false := by decide
  simp only [w_error, w_exit, w_throw, w_hd, w_tl, w_tuple_size, w_byte_size, w_length, w_list_to_tuple, w_tuple_to_list, w_integer_to_list, w_atom_to_list, w_element, w_pp, w_max, w_min, w_setelement] at h0 h1 h2 h3 h4 h5 h6 h7 h8 h9 h10 h11 h12 h13 h14 h15 h16
  simp only [simB, zbo, Nat.reduceBEq, own0, ↓reduceIte, Nat.reduceEqDiff, Nat.reduceAdd, simA, simL, simN, Nat.zero_add, zev, List.toList_toArray, len9, ix9, zew, zex, zey, zez, zfa, s_eqlS, w0, h0, h1, h2, h3, h4, h5, h6, h7, h8, h9, h10, h11, h12, h13, h14, h15, h16]
  exact finish_i _ _ _ _ _ _ _ (by simp only [zfp, ↓reduceIte, Nat.reduceEqDiff]; try rfl) rfl
set_option maxHeartbeats 16000000 in
theorem bal_none (R d : Nat) (s : List UInt8) (hs : s.length ≤ 9000000000000000000) (h0 : (s == w_reverse) = false) (h1 : (s == w_member) = false) : evalFn Tryz.prog cfg0 R (d+1) 40 [.tree (.str lisW), .tree (.str s)] = some (.tree (.int .i64 (-1)), [[], []]) := by
  rw [evalFn_go _ Tryz.func40 (by unfold Tryz.f40; rfl) (by unfold Tryz.f40; decide) (Nat.le_of_ble_eq_true (by unfold Tryz.f40; rfl)) (by kernel_rfl)]
  have a1 := s_addS Tryz.prog 9 lisW [58] (by decide)
  have a2 := s_addS Tryz.prog 9 (lisW ++ [58]) s (by simp only [List.length_append, lisW, List.length_cons, List.length_nil]; omega)
  simp only [w_reverse, w_member] at h0 h1
  simp only [simB, zbo, Nat.reduceBEq, own0, ↓reduceIte, Nat.reduceEqDiff, Nat.reduceAdd, simA, simL, simN, Nat.zero_add, zev, List.toList_toArray, len9, ix9, zew, zex, zey, zez, zfa, s_eqlS, a1, a2, lis_pre, lis_not, h0, h1]
  exact finish_i _ _ _ _ _ _ _ (by simp only [zfp, ↓reduceIte, Nat.reduceEqDiff]; try rfl) rfl
set_option maxHeartbeats 16000000 in
theorem ral_none (R d : Nat) (s : List UInt8) (h0 : (s == w_reverse) = false) (h1 : (s == w_member) = false) : evalFn Tryz.prog cfg0 R (d+1) 41 [.tree (.str lisW), .tree (.str s)] = some (.tree (.int .i64 (-1)), [[], []]) := by
  rw [evalFn_go _ Tryz.func41 (by unfold Tryz.f41; rfl) (by unfold Tryz.f41; decide) (Nat.le_of_ble_eq_true (by unfold Tryz.f41; rfl)) (by kernel_rfl)]
  have w0 : (lisW == ([108, 105, 115, 116, 115] : List UInt8)) = true := by decide
  simp only [w_reverse, w_member] at h0 h1
  simp only [simB, zbo, Nat.reduceBEq, own0, ↓reduceIte, Nat.reduceEqDiff, Nat.reduceAdd, simA, simL, simN, Nat.zero_add, zev, List.toList_toArray, len9, ix9, zew, zex, zey, zez, zfa, s_eqlS, w0, h0, h1]
  exact finish_i _ _ _ _ _ _ _ (by simp only [zfp, ↓reduceIte, Nat.reduceEqDiff]; try rfl) rfl
theorem bar_eq (R d : Nat) (hR : 100000 ≤ R) (hd : 20 ≤ d) (s : List UInt8) (hs : s.length ≤ 9000000000000000000) : evalFn Tryz.prog cfg0 R d 40 [.tree (.str erlW), .tree (.str s)] = some (.tree (.int .i64 (arE s)), [[], []]) := by
  cases h0 : (s == w_error) with
  | true =>
    have e := beq_iff_eq.1 h0
    subst e
    exact evalFn_mono hR 20 d hd _ _ _ bar_error
  | false =>
  cases h1 : (s == w_exit) with
  | true =>
    have e := beq_iff_eq.1 h1
    subst e
    exact evalFn_mono hR 20 d hd _ _ _ bar_exit
  | false =>
  cases h2 : (s == w_throw) with
  | true =>
    have e := beq_iff_eq.1 h2
    subst e
    exact evalFn_mono hR 20 d hd _ _ _ bar_throw
  | false =>
  cases h3 : (s == w_hd) with
  | true =>
    have e := beq_iff_eq.1 h3
    subst e
    exact evalFn_mono hR 20 d hd _ _ _ bar_hd
  | false =>
  cases h4 : (s == w_tl) with
  | true =>
    have e := beq_iff_eq.1 h4
    subst e
    exact evalFn_mono hR 20 d hd _ _ _ bar_tl
  | false =>
  cases h5 : (s == w_tuple_size) with
  | true =>
    have e := beq_iff_eq.1 h5
    subst e
    exact evalFn_mono hR 20 d hd _ _ _ bar_tuple_size
  | false =>
  cases h6 : (s == w_byte_size) with
  | true =>
    have e := beq_iff_eq.1 h6
    subst e
    exact evalFn_mono hR 20 d hd _ _ _ bar_byte_size
  | false =>
  cases h7 : (s == w_length) with
  | true =>
    have e := beq_iff_eq.1 h7
    subst e
    exact evalFn_mono hR 20 d hd _ _ _ bar_length
  | false =>
  cases h8 : (s == w_list_to_tuple) with
  | true =>
    have e := beq_iff_eq.1 h8
    subst e
    exact evalFn_mono hR 20 d hd _ _ _ bar_list_to_tuple
  | false =>
  cases h9 : (s == w_tuple_to_list) with
  | true =>
    have e := beq_iff_eq.1 h9
    subst e
    exact evalFn_mono hR 20 d hd _ _ _ bar_tuple_to_list
  | false =>
  cases h10 : (s == w_integer_to_list) with
  | true =>
    have e := beq_iff_eq.1 h10
    subst e
    exact evalFn_mono hR 20 d hd _ _ _ bar_integer_to_list
  | false =>
  cases h11 : (s == w_atom_to_list) with
  | true =>
    have e := beq_iff_eq.1 h11
    subst e
    exact evalFn_mono hR 20 d hd _ _ _ bar_atom_to_list
  | false =>
  cases h12 : (s == w_element) with
  | true =>
    have e := beq_iff_eq.1 h12
    subst e
    exact evalFn_mono hR 20 d hd _ _ _ bar_element
  | false =>
  cases h13 : (s == w_pp) with
  | true =>
    have e := beq_iff_eq.1 h13
    subst e
    exact evalFn_mono hR 20 d hd _ _ _ bar_pp
  | false =>
  cases h14 : (s == w_max) with
  | true =>
    have e := beq_iff_eq.1 h14
    subst e
    exact evalFn_mono hR 20 d hd _ _ _ bar_max
  | false =>
  cases h15 : (s == w_min) with
  | true =>
    have e := beq_iff_eq.1 h15
    subst e
    exact evalFn_mono hR 20 d hd _ _ _ bar_min
  | false =>
  cases h16 : (s == w_setelement) with
  | true =>
    have e := beq_iff_eq.1 h16
    subst e
    exact evalFn_mono hR 20 d hd _ _ _ bar_setelement
  | false =>
  obtain ⟨d', rfl⟩ : ∃ d', d = d' + 1 := ⟨d - 1, by omega⟩
  have e : arE s = -1 := by simp only [arE, h0, h1, h2, h3, h4, h5, h6, h7, h8, h9, h10, h11, h12, h13, h14, h15, h16, Bool.false_eq_true, if_false]
  rw [e]
  exact bar_none R d' s hs h0 h1 h2 h3 h4 h5 h6 h7 h8 h9 h10 h11 h12 h13 h14 h15 h16
theorem bal_eq (R d : Nat) (hR : 100000 ≤ R) (hd : 20 ≤ d) (s : List UInt8) (hs : s.length ≤ 9000000000000000000) : evalFn Tryz.prog cfg0 R d 40 [.tree (.str lisW), .tree (.str s)] = some (.tree (.int .i64 (arL s)), [[], []]) := by
  cases h0 : (s == w_reverse) with
  | true =>
    have e := beq_iff_eq.1 h0
    subst e
    exact evalFn_mono hR 20 d hd _ _ _ bal_reverse
  | false =>
  cases h1 : (s == w_member) with
  | true =>
    have e := beq_iff_eq.1 h1
    subst e
    exact evalFn_mono hR 20 d hd _ _ _ bal_member
  | false =>
  obtain ⟨d', rfl⟩ : ∃ d', d = d' + 1 := ⟨d - 1, by omega⟩
  have e : arL s = -1 := by simp only [arL, h0, h1, Bool.false_eq_true, if_false]
  rw [e]
  exact bal_none R d' s hs h0 h1
theorem rar_eq (R d : Nat) (hR : 100000 ≤ R) (hd : 20 ≤ d) (s : List UInt8) : evalFn Tryz.prog cfg0 R d 41 [.tree (.str erlW), .tree (.str s)] = some (.tree (.int .i64 (arE s)), [[], []]) := by
  cases h0 : (s == w_error) with
  | true =>
    have e := beq_iff_eq.1 h0
    subst e
    exact evalFn_mono hR 20 d hd _ _ _ rar_error
  | false =>
  cases h1 : (s == w_exit) with
  | true =>
    have e := beq_iff_eq.1 h1
    subst e
    exact evalFn_mono hR 20 d hd _ _ _ rar_exit
  | false =>
  cases h2 : (s == w_throw) with
  | true =>
    have e := beq_iff_eq.1 h2
    subst e
    exact evalFn_mono hR 20 d hd _ _ _ rar_throw
  | false =>
  cases h3 : (s == w_hd) with
  | true =>
    have e := beq_iff_eq.1 h3
    subst e
    exact evalFn_mono hR 20 d hd _ _ _ rar_hd
  | false =>
  cases h4 : (s == w_tl) with
  | true =>
    have e := beq_iff_eq.1 h4
    subst e
    exact evalFn_mono hR 20 d hd _ _ _ rar_tl
  | false =>
  cases h5 : (s == w_tuple_size) with
  | true =>
    have e := beq_iff_eq.1 h5
    subst e
    exact evalFn_mono hR 20 d hd _ _ _ rar_tuple_size
  | false =>
  cases h6 : (s == w_byte_size) with
  | true =>
    have e := beq_iff_eq.1 h6
    subst e
    exact evalFn_mono hR 20 d hd _ _ _ rar_byte_size
  | false =>
  cases h7 : (s == w_length) with
  | true =>
    have e := beq_iff_eq.1 h7
    subst e
    exact evalFn_mono hR 20 d hd _ _ _ rar_length
  | false =>
  cases h8 : (s == w_list_to_tuple) with
  | true =>
    have e := beq_iff_eq.1 h8
    subst e
    exact evalFn_mono hR 20 d hd _ _ _ rar_list_to_tuple
  | false =>
  cases h9 : (s == w_tuple_to_list) with
  | true =>
    have e := beq_iff_eq.1 h9
    subst e
    exact evalFn_mono hR 20 d hd _ _ _ rar_tuple_to_list
  | false =>
  cases h10 : (s == w_integer_to_list) with
  | true =>
    have e := beq_iff_eq.1 h10
    subst e
    exact evalFn_mono hR 20 d hd _ _ _ rar_integer_to_list
  | false =>
  cases h11 : (s == w_atom_to_list) with
  | true =>
    have e := beq_iff_eq.1 h11
    subst e
    exact evalFn_mono hR 20 d hd _ _ _ rar_atom_to_list
  | false =>
  cases h12 : (s == w_element) with
  | true =>
    have e := beq_iff_eq.1 h12
    subst e
    exact evalFn_mono hR 20 d hd _ _ _ rar_element
  | false =>
  cases h13 : (s == w_pp) with
  | true =>
    have e := beq_iff_eq.1 h13
    subst e
    exact evalFn_mono hR 20 d hd _ _ _ rar_pp
  | false =>
  cases h14 : (s == w_max) with
  | true =>
    have e := beq_iff_eq.1 h14
    subst e
    exact evalFn_mono hR 20 d hd _ _ _ rar_max
  | false =>
  cases h15 : (s == w_min) with
  | true =>
    have e := beq_iff_eq.1 h15
    subst e
    exact evalFn_mono hR 20 d hd _ _ _ rar_min
  | false =>
  cases h16 : (s == w_setelement) with
  | true =>
    have e := beq_iff_eq.1 h16
    subst e
    exact evalFn_mono hR 20 d hd _ _ _ rar_setelement
  | false =>
  obtain ⟨d', rfl⟩ : ∃ d', d = d' + 1 := ⟨d - 1, by omega⟩
  have e : arE s = -1 := by simp only [arE, h0, h1, h2, h3, h4, h5, h6, h7, h8, h9, h10, h11, h12, h13, h14, h15, h16, Bool.false_eq_true, if_false]
  rw [e]
  exact rar_none R d' s h0 h1 h2 h3 h4 h5 h6 h7 h8 h9 h10 h11 h12 h13 h14 h15 h16
theorem ral_eq (R d : Nat) (hR : 100000 ≤ R) (hd : 20 ≤ d) (s : List UInt8) : evalFn Tryz.prog cfg0 R d 41 [.tree (.str lisW), .tree (.str s)] = some (.tree (.int .i64 (arL s)), [[], []]) := by
  cases h0 : (s == w_reverse) with
  | true =>
    have e := beq_iff_eq.1 h0
    subst e
    exact evalFn_mono hR 20 d hd _ _ _ ral_reverse
  | false =>
  cases h1 : (s == w_member) with
  | true =>
    have e := beq_iff_eq.1 h1
    subst e
    exact evalFn_mono hR 20 d hd _ _ _ ral_member
  | false =>
  obtain ⟨d', rfl⟩ : ∃ d', d = d' + 1 := ⟨d - 1, by omega⟩
  have e : arL s = -1 := by simp only [arL, h0, h1, Bool.false_eq_true, if_false]
  rw [e]
  exact ral_none R d' s h0 h1
end Go.Ab
