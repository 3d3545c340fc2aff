/- Several texts put together: AbzA18, AbzT21, AbzT22, AbzT23, AbzT24, AbzB1, AbzB2, AbzB3, AbzA21, AbzR10, AbzA22, AbMn3, AbMn4, AbMn5, AbMn6, AbMn7, AbzA23, AbzA24, AbzA25, AbzA12, AbzA13, AbzA14, AbzA15, AbzA10, AbzA26, AbzA11, AbzA27, AbzA8, AbzA9o, AbzA28, AbMn8, AbzX1, AbzX2, AbzA19, AbzX3, AbzX4, AbzB4, AbzB5, AbzT25, AbzB6, AbzD1. Conditions: as each part says. -/
import Derived.Test.YtpgnjcckmmkmkaaGreatDoorAbBCallsZ05
import Derived.Laws.Sem
import Derived.Test.YtpgnjcckmmkmkaaGreatDoorAbBCallsZ04
/- The reference's numbers: what is a number, made of limbs, of ints; its compare. Conditions: limbs in range. -/
namespace Go.Ab
open Go.Proofs
set_option maxRecDepth 100000
set_option linter.unusedSimpArgs false

set_option maxHeartbeats 2000000 in
theorem ris_eq (n d : Nat) (neg : Bool) (g : Gk) (l : List Nat) (hl : Limbs l) : evalFn Tryz.prog cfg0 n (d+2) 69 [.tree (encA neg g l)] = some (.tree (canA (gz neg g l) (numZ neg l)), [[]]) := by
  rw [evalFn_go _ Tryz.func69 (by unfold Tryz.f69; rfl) (by unfold Tryz.f69; decide) (Nat.le_of_ble_eq_true (by unfold Tryz.f69; rfl)) (by kernel_rfl)]
  have c1 := fun D s => cRcheck n d neg g l hl D s
  cases h : chkN neg l with
  | false =>
    rw [canA_no h]
    simp only [simB, zbo, Nat.reduceBEq, own0, ↓reduceIte, Nat.reduceEqDiff, Nat.reduceAdd, simA, simL, simN, Nat.zero_add, st0_1, c1, h]
    exact finish_c _ _ 2 2 1 _ _ _ _ _ (by simp only [zfr, ↓reduceIte, Nat.reduceEqDiff]) (by simp only [zfr, ↓reduceIte, Nat.reduceEqDiff]) rfl
  | true =>
    rw [canA_of hl h]
    simp only [simB, zbo, Nat.reduceBEq, own0, ↓reduceIte, Nat.reduceEqDiff, Nat.reduceAdd, simA, simL, simN, Nat.zero_add, st0_1, c1, h]
    exact finish_c _ _ 2 2 1 _ _ _ _ _ (by simp only [zfr, ↓reduceIte, Nat.reduceEqDiff]) (by simp only [zfr, ↓reduceIte, Nat.reduceEqDiff]) rfl
theorem cRis (n d : Nat) {w : AV} {z : Int} (h : IsN w z) : ∃ g, ∀ D s, callA cfg0 (evalFn Tryz.prog cfg0 n (d+2)) D s 69 [w] = some (canA g z, s) := by
  obtain ⟨neg, g, l, rfl, hl, rfl⟩ := h
  exact ⟨_, fun D s => callA_trees rfl (ris_eq n d neg g l hl)⟩
theorem qRis (n d : Nat) {w : AV} {z : Int} (h : IsN w z) : ∃ g, callQ (evalFn Tryz.prog cfg0 n (d+2)) 69 [w] = some (canA g z) := by
  obtain ⟨neg, g, l, rfl, hl, rfl⟩ := h
  exact ⟨_, callQ_trees rfl (ris_eq n d neg g l hl)⟩
def gm (z : Int) : Gk := if z.natAbs < B ^ 12 then .l else .n
def madeF (z : Int) : AV := .tup [canA (gm z) (mkZ z).1, .bool (mkZ z).2]
theorem madeF_fit {z : Int} (h : z.natAbs < B ^ 12) : madeF z = .tup [canA .l z, .bool true] := by rw [madeF, mkZ_fit h, gm, if_pos h]
theorem lenF' (s : St) (v : Nat) : lenA Tryz.prog 25 s (encF v) = some (.int .i64 ((digs v).length : Int)) := zdx s _ _
theorem bd_2F (b : Bool) (v : Nat) : buildA Tryz.prog 27 [(0, .bool b), (1, encF v)] = some (.agg [.bool b, encF v]) := bd_2 _ _ _
set_option maxHeartbeats 2000000 in
theorem rmade_eq (n d : Nat) (neg : Bool) (g : Gk) (l : List Nat) (hl : Limbs l) (hn : l.length < n) (hk : l.length ≤ 1000000) : evalFn Tryz.prog cfg0 n (d+2) 82 [.tree (.bool neg), .tree (encL g l)] = some (.tree (madeF (sgn neg (val l))), [[], []]) := by
  rw [evalFn_go _ Tryz.func82 (by unfold Tryz.f82; rfl) (by unfold Tryz.f82; decide) (Nat.le_of_ble_eq_true (by unfold Tryz.f82; rfl)) (by kernel_rfl)]
  have c1 := fun D s => callA_L1 (evalFn Tryz.prog cfg0 n (d+1)) D s 111 g l _ (rnorm_eq n d g l hl hn hk)
  generalize hv : val l = v at *
  have hp : (((digs v).length : Nat) : Int) > 0 ↔ v ≠ 0 := by
    have := digs_len0 v
    omega
  have hd : decide ((((digs v).length : Nat) : Int) > 0) = decide (v ≠ 0) := by
    rw [decide_eq_decide]; exact hp
  have hm : mkZ (sgn neg v) = if v < B ^ 12 then (sgn neg v, true) else (0, false) := by rw [mkZ, sgn_abs]
  by_cases hf : v < B ^ 12
  · have hlen : ¬ (((digs v).length : Nat) : Int) > 12 := by have := digs_len v 12 hf; omega
    rw [madeF_fit (by rw [sgn_abs]; exact hf)]
    have he : (.agg [.bool (neg && decide (v ≠ 0)), encF v] : AV) = canA .l (sgn neg v) := by
      unfold canA; rw [sgn_neg, sgn_abs]; rfl
    rw [← he]
    cases neg with
    | false =>
      simp only [simB, zbo, Nat.reduceBEq, own0, ↓reduceIte, Nat.reduceEqDiff, Nat.reduceAdd, simA, simL, simN, Nat.zero_add, st0_2, c1, lenF', hlen, bd_2F]
      exact finish_ct _ _ 4 4 1 _ _ _ _ _ _ _ (by simp only [zfr, ↓reduceIte, Nat.reduceEqDiff]) (by simp only [zfr, ↓reduceIte, Nat.reduceEqDiff]) (by simp only [zfr, ↓reduceIte, Nat.reduceEqDiff]) rfl
    | true =>
      simp only [simB, zbo, Nat.reduceBEq, own0, ↓reduceIte, Nat.reduceEqDiff, Nat.reduceAdd, simA, simL, simN, Nat.zero_add, st0_2, c1, lenF', hlen, hd, bd_2F]
      exact finish_ct _ _ 4 4 1 _ _ _ _ _ _ _ (by simp only [zfr, ↓reduceIte, Nat.reduceEqDiff]) (by simp only [zfr, ↓reduceIte, Nat.reduceEqDiff]) (by simp only [zfr, ↓reduceIte, Nat.reduceEqDiff]) rfl
  · have hlen : (((digs v).length : Nat) : Int) > 12 := by
      have h1 := val_lt (digs v) (limbs_digs v)
      rw [val_digs] at h1
      rcases Nat.lt_or_ge 12 (digs v).length with h2 | h2
      · omega
      · exact absurd (Nat.lt_of_lt_of_le h1 (Nat.pow_le_pow_right (by decide) h2)) hf
    have he : madeF (sgn neg v) = .tup [encA false .n [], .bool false] := by
      rw [madeF, hm, if_neg hf, gm, if_neg (by rw [sgn_abs]; exact hf)]
      simp [canA, digs_0]
    rw [he]
    simp only [simB, zbo, Nat.reduceBEq, own0, ↓reduceIte, Nat.reduceEqDiff, Nat.reduceAdd, simA, simL, simN, Nat.zero_add, st0_2, c1, lenF', hlen]
    exact finish_ct _ _ 4 4 1 _ _ _ _ _ _ _ (by simp only [zfr, ↓reduceIte, Nat.reduceEqDiff]) (by simp only [zfr, ↓reduceIte, Nat.reduceEqDiff]) (by simp only [zfr, ↓reduceIte, Nat.reduceEqDiff]) rfl
section
variable (n d : Nat) (hn : 100000 ≤ n) (D : Nat) (s : St)
include hn
theorem cRmade {w : AV} {v : Nat} (h : Num w v) (neg : Bool) : callA cfg0 (evalFn Tryz.prog cfg0 n (d+2)) D s 82 [.bool neg, w] = some (madeF (sgn neg v), s) := by
  obtain ⟨l, hs, hl, hk, rfl⟩ := h
  exact callA_bS _ D s _ hs neg _ fun g => rmade_eq n d neg g l hl (by omega) (by omega)
end
set_option maxHeartbeats 2000000 in
theorem rof64_eq (n d : Nat) (hn : 100000 ≤ n) (z : Int) (h : -9223372036854775808 ≤ z) (h' : z ≤ 9223372036854775807) : evalFn Tryz.prog cfg0 n (d+3) 89 [.tree (.int .i64 z)] = some (.tree (canA .l z), [[]]) := by
  rw [evalFn_go _ Tryz.func89 (by unfold Tryz.f89; rfl) (by unfold Tryz.f89; decide) (Nat.le_of_ble_eq_true (by unfold Tryz.f89; rfl)) (by kernel_rfl)]
  have hz : z.natAbs ≤ 9223372036854775808 := by omega
  have hfit : z.natAbs < B ^ 12 := by have := B12_big; omega
  have c0 := fun s => conv3_55 s z h h'
  have key : ∀ (x : Nat), x = z.natAbs → x < 18446744073709551616 →
      (∀ s, convA Tryz.prog 96 57 s (.int .u64 (x : Int)) = some (.int .u32 ((x % 4294967296 : Nat) : Int))) ∧
      binA Tryz.prog .shr 96 (.int .u64 (x : Int)) (.int .u64 32) = some (.int .u64 ((x / 4294967296 : Nat) : Int)) ∧
      (∀ s, convA Tryz.prog 96 57 s (.int .u64 ((x / 4294967296 : Nat) : Int)) = some (.int .u32 ((x / 4294967296 % 4294967296 : Nat) : Int))) ∧
      (∀ D s, callA cfg0 (evalFn Tryz.prog cfg0 n (d+2)) D s 82 [.bool (decide (z < 0)), .sl [.int .u32 ((x % 4294967296 : Nat) : Int), .int .u32 ((x / 4294967296 % 4294967296 : Nat) : Int)] 2 .tight] = some (.tup [canA .l z, .bool true], s)) := by
    intro x hx hlt
    refine ⟨fun s => zeg s x, ?_, fun s => zeg s _, fun D s => ?_⟩
    · have := u_shr Tryz.prog 96 x .u64 32 (by decide) (by decide)
      rw [show (2 : Nat) ^ (32 : Int).toNat = 4294967296 from rfl] at this
      exact this
    · have hnum : Num (.sl [.int .u32 ((x % 4294967296 : Nat) : Int), .int .u32 ((x / 4294967296 % 4294967296 : Nat) : Int)] 2 .tight) x := by
        refine ⟨[x % 4294967296, x / 4294967296 % 4294967296], ⟨_, rfl⟩, limbs_cons (Nat.mod_lt _ (by decide)) (limbs_one (Nat.mod_lt _ (by decide))), by simp, ?_⟩
        show x % 4294967296 + 4294967296 * (x / 4294967296 % 4294967296 + 4294967296 * 0) = x
        omega
      have := cRmade n d hn D s hnum (decide (z < 0))
      rw [hx, sgn_of, madeF_fit hfit] at this
      rw [hx]; exact this
  by_cases hneg : z < 0
  · rw [if_pos hneg] at c0
    have u := un_neg64 (18446744073709551616 - z.natAbs) (by omega)
    rw [show (18446744073709551616 - (18446744073709551616 - z.natAbs)) % 18446744073709551616 = z.natAbs by omega] at u
    obtain ⟨k1, k2, k3, k4⟩ := key z.natAbs rfl (by omega)
    rw [decide_eq_true hneg] at k4
    simp only [simB, zbo, Nat.reduceBEq, own0, ↓reduceIte, Nat.reduceEqDiff, Nat.reduceAdd, simA, simL, simN, Nat.zero_add, st0_1, c0, hneg, u, k1, k2, k3, opA_two, two22_int, k4, ext_0, ext_1, zes]
    exact finish_c _ _ 2 2 1 _ _ _ _ _ (by simp only [zfr, ↓reduceIte, Nat.reduceEqDiff]) (by simp only [zfr, ↓reduceIte, Nat.reduceEqDiff, hneg, decide_true, decide_false]) rfl
  · rw [if_neg hneg] at c0
    obtain ⟨k1, k2, k3, k4⟩ := key z.natAbs rfl (by omega)
    rw [decide_eq_false hneg] at k4
    simp only [simB, zbo, Nat.reduceBEq, own0, ↓reduceIte, Nat.reduceEqDiff, Nat.reduceAdd, simA, simL, simN, Nat.zero_add, st0_1, c0, hneg, k1, k2, k3, opA_two, two22_int, k4, ext_0, ext_1, zes]
    exact finish_c _ _ 2 2 1 _ _ _ _ _ (by simp only [zfr, ↓reduceIte, Nat.reduceEqDiff]) (by simp only [zfr, ↓reduceIte, Nat.reduceEqDiff, hneg, decide_true, decide_false]) rfl
theorem cRof64 (n d : Nat) (hn : 100000 ≤ n) (z : Int) (h : -9223372036854775808 ≤ z) (h' : z ≤ 9223372036854775807) (D : Nat) (s : St) : callA cfg0 (evalFn Tryz.prog cfg0 n (d+3)) D s 89 [.int .i64 z] = some (canA .l z, s) :=
  callA_trees rfl (rof64_eq n d hn z h h')

set_option maxHeartbeats 4000000 in
theorem rncmp_eq (n d : Nat) (hn : 100000 ≤ n) {w w' : AV} {z z' : Int} (hw : IsN w z) (hw' : IsN w' z') : evalFn Tryz.prog cfg0 n (d+4) 46 [.tree w, .tree w'] = some (.tree (.int .i64 (cmpI z z')), [[], []]) := by
  obtain ⟨g, c1⟩ := qRis n (d + 1) hw
  obtain ⟨g', c2⟩ := qRis n (d + 1) hw'
  have hlt := hw.lt
  have hlt' := hw'.lt
  obtain ⟨neg, g0, l, rfl, hl, hz⟩ := hw
  obtain ⟨neg', g0', l', rfl, hl', hz'⟩ := hw'
  rw [evalFn_go _ Tryz.func46 (by unfold Tryz.f46; rfl) (by unfold Tryz.f46; decide) (Nat.le_of_ble_eq_true (by unfold Tryz.f46; rfl)) (by kernel_rfl)]
  by_cases ha : z < 0
  · by_cases hb : z' < 0
    · have c3 := fun D s => rcCmp n (d + 1) hn D s (num_can g' z' hlt') (num_can g z hlt)
      rw [cmp_mm z z' ha hb] at c3
      simp only [simB, zbo, Nat.reduceBEq, own0, ↓reduceIte, Nat.reduceEqDiff, Nat.reduceAdd, simA, simL, simN, Nat.zero_add, st0_2, c1, c2, ha, hb, unA_not', Bool.not_true, Bool.not_false, c3]
      exact finish_i _ _ _ _ _ _ _ (by simp only [zfr, ↓reduceIte]) rfl
    · simp only [simB, zbo, Nat.reduceBEq, own0, ↓reduceIte, Nat.reduceEqDiff, Nat.reduceAdd, simA, simL, simN, Nat.zero_add, st0_2, c1, c2, ha, hb, unA_not', Bool.not_true, Bool.not_false]
      rw [show cmpI z z' = -1 by rw [cmpI, if_pos (by omega)]]
      exact finish_i _ _ _ _ _ _ _ (by simp only [zfr, ↓reduceIte]) rfl
  · by_cases hb : z' < 0
    · simp only [simB, zbo, Nat.reduceBEq, own0, ↓reduceIte, Nat.reduceEqDiff, Nat.reduceAdd, simA, simL, simN, Nat.zero_add, st0_2, c1, c2, ha, hb, unA_not', Bool.not_true, Bool.not_false]
      rw [show cmpI z z' = 1 by rw [cmpI, if_neg (by omega), if_pos (by omega)]]
      exact finish_i _ _ _ _ _ _ _ (by simp only [zfr, ↓reduceIte]) rfl
    · have c3 := fun D s => rcCmp n (d + 1) hn D s (num_can g z hlt) (num_can g' z' hlt')
      rw [cmp_nn z z' ha hb] at c3
      simp only [simB, zbo, Nat.reduceBEq, own0, ↓reduceIte, Nat.reduceEqDiff, Nat.reduceAdd, simA, simL, simN, Nat.zero_add, st0_2, c1, c2, ha, hb, unA_not', Bool.not_true, Bool.not_false, c3]
      exact finish_i _ _ _ _ _ _ _ (by simp only [zfr, ↓reduceIte]) rfl
end Go.Ab

/- Small Ints as terms; rows and lists of them, compared. Conditions: numbers that Go has. -/
namespace Go.Ab
open Go.Proofs
set_option maxRecDepth 100000
set_option linter.unusedSimpArgs false

def I64 (v : Int) : Prop := -9223372036854775808 ≤ v ∧ v ≤ 9223372036854775807
def intT (v : Int) : T := .mk 1 (decide (v < 0)) .l (digs v.natAbs) [] 0 .n []
def nilT' : T := .mk 3 false .n [] [] 0 .n []
def tupT (kg : Gk) (us : List T) : T := .mk 5 false .n [] [] 0 kg us
theorem rInt_eq (n d : Nat) (hn : 100000 ≤ n) (v : Int) (h : I64 v) : evalFn Tryz.prog cfg0 n (d+4) 54 [.tree (.int .i64 v)] = some (.tree (encT (intT v)), [[]]) := by
  rw [evalFn_go _ Tryz.func54 (by unfold Tryz.f54; rfl) (by unfold Tryz.f54; decide) (Nat.le_of_ble_eq_true (by unfold Tryz.f54; rfl)) (by kernel_rfl)]
  have c1 := fun D st => cRof64 n d hn v h.1 h.2 D st
  have b1 := bdT_1 1 (decide (v < 0)) .l (digs v.natAbs)
  have st1 := fun st p k => st_Tt st p k (intT v)
  simp only [intT, cellsT, encC, List.map_nil, cellsK, List.length_nil, gr] at st1
  simp only [simB, zbo, Nat.reduceBEq, own0, ↓reduceIte, Nat.reduceEqDiff, Nat.reduceAdd, simA, simL, simN, Nat.zero_add, zeroT, c1, canA, encA, b1, st1]
  have st6 := fun t k p st => stT_6 t k p st (.int .i64 0) (.bool false) (.sl [] 0 .nil) (.str []) (.int .i64 0) (.sl [] 0 .nil) (intT v)
  simp only [intT, cellsT, encC, List.map_nil, cellsK, List.length_nil, gr] at st6
  simp only [simB, zbo, Nat.reduceBEq, own0, ↓reduceIte, Nat.reduceEqDiff, Nat.reduceAdd, simA, simL, simN, Nat.zero_add, st6]
  exact finish_cT _ _ _ _ _ (intT v) _ _ _ (by simp only [zfr, ↓reduceIte, Nat.reduceEqDiff]; try rfl) (by simp only [intT, cellsT, encC, List.map_nil, cellsK, List.length_nil, gr]; exact (by simp only [zfr, ↓reduceIte, Nat.reduceEqDiff]; try rfl)) rfl
theorem nod_list : ∀ (us : List T) (t : T), nodT (listT us t) = us.length + nodK us + nodT t
  | [], t => by simp [listT, nodK]
  | u :: us, t => by
    have := nod_list us t
    simp only [listT, consT, nodT, nodK, List.length_cons] at this ⊢
    omega
end Go.Ab

/- The statement TermTuples. Conditions: numbers that Go has. -/
namespace Go.Ab
open Go.Proofs
set_option maxRecDepth 100000
set_option linter.unusedSimpArgs false

def intsA (xs : List Int) : List AV := xs.map (AV.int .i64)
theorem ldInts (xs : List Int) (i : Nat) (h : i < xs.length) (st : St) : loadA Tryz.prog 3 st (.rptr ((intsA xs).drop i)) = some (.int .i64 xs[i]) := by
  have e : (intsA xs).drop i = .int .i64 xs[i] :: (intsA xs).drop (i + 1) := by
    rw [List.drop_eq_getElem_cons (by simpa [intsA] using h)]
    simp [intsA]
  rw [e]
  exact ld33 st _ _
theorem bs1T (e : T) : (fillA (fun i => some (i * 6, 6)) (rep 1 zeroT6) [(0, .agg (cellsT e))]).map (AV.sl · 1 .tight) = some (.sl (cellsT e) 1 .tight) := by
  have h := cellsT_len e
  have a1 : splice (rep 1 zeroT6) (0 * 6) (cellsT e) = cellsT e := by
    simp only [splice, Nat.zero_mul, List.take_zero, List.nil_append, Nat.zero_add, h]; exact List.append_nil _
  simp only [fillA, settled, Option.bind_some, cellsOf]
  rw [if_pos ⟨h, by decide⟩, a1]
  rfl
theorem opA_bs1 (call : FuncId → List Arg → Option Out) (q : Bool) (d : Option Tmp) (ty : TypeId) (pos : String) (af : Array Edge) (g : Option (Nat × Bool)) (t : Nat) (env : Env) (s : St) (x : Operand) (e : T) (hx : ev env x = .agg (cellsT e)) :
    opA Tryz.prog cfg0 call q ⟨d, .buildSlice 22 1 #[(0, x)], ty, pos, af, g⟩ t env s = some (.sl (cellsT e) 1 .tight, s) := by
  simp only [opA, tkTk, eszT, zeroT, Option.bind_some, List.map_cons, List.map_nil, hx]
  rw [if_pos ⟨by rfl, by decide⟩]
  show Option.map _ (Option.map _ (fillA (fun i => some (i * 6, 6)) (rep 1 zeroT6) [(0, .agg (cellsT e))])) = _
  have := bs1T e
  rw [this]; rfl
theorem Ap.tup {s : St} {d : Nat} {x : AV} {us : List T} (h : Ap s d x us) : buildA Tryz.prog 29 [(0, .int .i64 5), (4, x)] = some (.agg (cellsT (tupT (kgOf us) us))) := by
  have hs := h.settled
  simp only [buildA, zeroT, tkT, plT, Option.bind_some, fillA, List.getElem?_cons_zero, List.getElem?_cons_succ, hs]
  simp only [tupT, cellsT, encL, encC, List.map_nil, List.length_nil, gr]
  rfl
theorem Ap.list {s : St} {d : Nat} {x : AV} {us : List T} (h : Ap s d x us) (hl : us.length ≤ 1000000) (R D : Nat) : callQ (evalFn Tryz.prog cfg0 R (D+1)) 91 [x, encT nilT'] = some (encT (listT us nilT')) := by
  rcases h with ⟨rfl, rfl⟩ | ⟨_, t, rfl, _⟩
  · exact callQ_trees (vs := [.sl [] 0 .nil, encT nilT']) rfl (tList_eq R D [] .nil nilT' (by decide))
  · exact callQ_loose (vs := [.sl (cellsK us) us.length (.tok d t), encT nilT']) rfl rfl rfl (tList_eq R D us .loose nilT' (by omega))

section
variable (R : Nat) (hR : 100000 ≤ R) (xs ys : List Int) (hx : ∀ x ∈ xs, I64 x) (hy : ∀ x ∈ ys, I64 x) (hxk : xs.length ≤ 30) (hyk : ys.length ≤ 30) (gx gy : Grip) (x5 x6 : AV) (s1 s2 : St) (ap : Ap s1 36 x5 (xs.map intT)) (ap2 : Ap s2 50 x6 (ys.map intT))
include hR hx hy hxk hyk ap ap2
end
end Go.Ab

/- Light terms; the items of a list. Conditions: lengths in range. -/
namespace Go.Ab
open Go.Proofs
set_option maxRecDepth 100000
set_option linter.unusedSimpArgs false

mutual
def lgT : T → Int → Int
  | .mk _ _ _ l s _ _ ks, n => if (l.length : Int) > 40 ∨ (s.length : Int) > 500 then -1 else lgK ks (n - 1)
def lgK : List T → Int → Int
  | [], n => n
  | t :: r, n => if n ≥ 0 then lgK r (lgT t n) else n
end
mutual
theorem lgT_lt : ∀ (t : T) (n : Int), 0 ≤ n → -1 ≤ lgT t n ∧ lgT t n ≤ n - 1
  | .mk _ _ _ l s _ _ ks, n, h => by
    simp only [lgT]
    split
    · omega
    · by_cases h1 : 0 ≤ n - 1
      · have := lgK_le ks (n - 1) (by omega); omega
      · have h2 : n - 1 = -1 := by omega
        rw [h2]
        cases ks with
        | nil => simp only [lgK]; omega
        | cons a r => simp only [lgK]; rw [if_neg (by omega)]; omega
theorem lgK_le : ∀ (ks : List T) (n : Int), -1 ≤ n → -1 ≤ lgK ks n ∧ lgK ks n ≤ n
  | [], n, h => by simp only [lgK]; omega
  | t :: r, n, h => by
    simp only [lgK]
    split
    · rename_i h0
      have h1 := lgT_lt t n h0
      have h2 := lgK_le r (lgT t n) h1.1
      omega
    · omega
end
mutual
def leanT : T → Prop
  | .mk _ _ _ l s _ _ ks => l.length ≤ 40 ∧ s.length ≤ 500 ∧ leanK ks
def leanK : List T → Prop
  | [] => True
  | t :: r => leanT t ∧ leanK r
end
mutual
theorem lgT_ok : ∀ (t : T) (n : Int), 0 ≤ lgT t n → leanT t ∧ lgT t n = n - nodT t
  | .mk _ _ _ l s _ _ ks, n, h => by
    simp only [lgT] at h ⊢
    split at h
    · omega
    · rename_i hc
      rw [if_neg hc]
      obtain ⟨h1, h2⟩ := lgK_ok ks (n - 1) h
      simp only [leanT, nodT]
      exact ⟨⟨by omega, by omega, h1⟩, by omega⟩
theorem lgK_ok : ∀ (ks : List T) (n : Int), 0 ≤ lgK ks n → leanK ks ∧ lgK ks n = n - nodK ks
  | [], n, h => by simp only [lgK, leanK, nodK]; exact ⟨trivial, by omega⟩
  | t :: r, n, h => by
    simp only [lgK] at h ⊢
    split at h
    · rename_i h0
      rw [if_pos h0]
      obtain ⟨h1, h2⟩ := lgK_ok r (lgT t n) h
      have h3 := nodK_nn r
      obtain ⟨h4, h5⟩ := lgT_ok t n (by omega)
      simp only [leanK, nodK]
      exact ⟨⟨h4, h1⟩, by omega⟩
    · omega
theorem nodK_nn (r : List T) : (0 : Int) ≤ nodK r := by omega
end
set_option maxHeartbeats 8000000 in
theorem light_eq (R : Nat) (hR : 2000 ≤ R) (hR2 : R ≤ 9223372036854775808) : ∀ (d : Nat) (t : T) (n : Int), 0 ≤ n → n < 1000 → n + 2 ≤ (d : Int) → bigT R t → fewT R t →
    evalFn Tryz.prog cfg0 R d 60 [.tree (encT t), .tree (.int .i64 n)] = some (.tree (.int .i64 (lgT t n)), [[], []])
  | 0, t, n, h0, _, hd, _, _ => by omega
  | d + 1, t, n, h0, h1, hd, hb, hf => by
    have IH := light_eq R hR hR2 d
    obtain ⟨k, b, lg, l, s, m, kg, ks⟩ := t
    simp only [bigT] at hb
    simp only [fewT] at hf
    rw [evalFn_go _ Tryz.func60 (by unfold Tryz.f60; rfl) (by unfold Tryz.f60; decide) (Nat.le_of_ble_eq_true (by unfold Tryz.f60; rfl)) (by kernel_rfl)]
    have f0 := i_sub Tryz.prog 3 n 1 (by omega) (by omega)
    have ll := len23
    by_cases c1 : (l.length : Int) > 40
    · have hr : lgT (.mk k b lg l s m kg ks) n = -1 := by simp only [lgT]; rw [if_pos (.inl c1)]
      rw [hr]
      simp only [simB, zbo, Nat.reduceBEq, own0, ↓reduceIte, Nat.reduceEqDiff, Nat.reduceAdd, simA, simL, simN, Nat.zero_add, zex, List.toList_toArray, len9, ix9, zey, zez, zfa, zfb, zfc, encT, cellsT, f0, faT_1, faT_2, faT_4, faN_1, ldT_2, ldT_4, ldT_l, ll, c1, Nat.reduceAdd]
      exact finish_i _ _ _ _ _ _ _ (by simp only [zfr, ↓reduceIte, Nat.reduceEqDiff]; try rfl) rfl
    by_cases c2 : (s.length : Int) > 500
    · have hr : lgT (.mk k b lg l s m kg ks) n = -1 := by simp only [lgT]; rw [if_pos (.inr c2)]
      rw [hr]
      simp only [simB, zbo, Nat.reduceBEq, own0, ↓reduceIte, Nat.reduceEqDiff, Nat.reduceAdd, simA, simL, simN, Nat.zero_add, zex, List.toList_toArray, len9, ix9, zey, zez, zfa, zfb, zfc, encT, cellsT, f0, faT_1, faT_2, faT_4, faN_1, ldT_2, ldT_4, ldT_l, ll, c1, c2, Nat.reduceAdd]
      exact finish_i _ _ _ _ _ _ _ (by simp only [zfr, ↓reduceIte, Nat.reduceEqDiff]; try rfl) rfl
    have hr : lgT (.mk k b lg l s m kg ks) n = lgK ks (n - 1) := by simp only [lgT]; rw [if_neg (by omega)]
    rw [hr]
    simp only [simB, zbo, Nat.reduceBEq, own0, ↓reduceIte, Nat.reduceEqDiff, Nat.reduceAdd, simA, simL, simN, Nat.zero_add, zex, List.toList_toArray, len9, ix9, zey, zez, zfa, zfb, zfc, encT, cellsT, f0, faT_1, faT_2, faT_4, faN_1, ldT_2, ldT_4, ldT_l, ll, c1, c2, Nat.reduceAdd, den_loop]
    refine loop_ends (X := Nat × Int) (fun x env s' => env 2 = .ptr 2 1 0 ∧ s' 2 = ⟨1, .buf (cellsT (.mk k b lg l s m kg ks))⟩ ∧ env 1 = .int .i64 x.2 ∧ env 5 = .int .i64 (x.1 : Int) ∧ x.1 ≤ ks.length ∧ -1 ≤ x.2 ∧ x.2 ≤ n - 1 ∧ lgK ks (n - 1) = lgK (ks.drop x.1) x.2) (fun x => (x.2 + 1).toNat) (fun _ => (.tree (.int .i64 (lgK ks (n - 1))), [[], []])) ?_ R (0, n - 1) _ _ (by simp only; omega) ⟨(by simp only [zfr, ↓reduceIte, Nat.reduceEqDiff]; try rfl), (by simp only [zfr, ↓reduceIte, Nat.reduceEqDiff]; try rfl), (by simp only [zfr, ↓reduceIte, Nat.reduceEqDiff]; try rfl), (by simp only [zfr, ↓reduceIte, Nat.reduceEqDiff]; try rfl), Nat.zero_le _, by simp only; omega, by simp only; omega, rfl⟩
    rintro rr ⟨i, v⟩ hrr ih2 env st ⟨e2, j2, e1, e5, hi, hv0, hv1, hk⟩
    simp only at e1 e5 hi hv0 hv1 hk hrr
    simp only [cellsT] at j2
    cases hdr : ks.drop i with
    | nil =>
      have hil : i = ks.length := by have := congrArg List.length hdr; simp only [List.length_drop, List.length_nil] at this; omega
      subst hil
      rw [hdr] at hk
      simp only [lgK] at hk
      rw [hk]
      have q1 : ¬ ((ks.length : Int) < (ks.length : Int)) := by omega
      simp only [simB, zbo, Nat.reduceBEq, own0, ↓reduceIte, Nat.reduceEqDiff, Nat.reduceAdd, simL, simN, Nat.zero_add, e2, j2, e1, e5, faT_4, ldT_4, lenTk, q1]
      exact finish_i _ _ _ _ _ _ _ (by simp only [zfr, ↓reduceIte, Nat.reduceEqDiff]; try rfl) rfl
    | cons kid r =>
      have hil : i < ks.length := by have := congrArg List.length hdr; simp only [List.length_drop, List.length_cons] at this; omega
      have q1 : (i : Int) < (ks.length : Int) := by omega
      rw [hdr] at hk
      simp only [lgK] at hk
      by_cases q2 : v ≥ 0
      · rw [if_pos q2] at hk
        have hbk := bigK_at R ks i kid r hdr hb.2.2
        have hfk := fewK_at R ks i kid r hdr hf.2.2
        have cc := fun D st => callA_trees (cfg := cfg0) (d := D) (s := st) (f := 60) (vs := [encT kid, .int .i64 v]) rfl (IH kid v q2 (by omega) (by omega) hbk hfk)
        simp only [encT] at cc
        have ia := fun st => ia_K st ks (gr kg) i hil
        rw [hdr] at ia
        have ld := fun st => ld_K st kid r
        simp only [encT] at ld
        have f5 := i_add Tryz.prog 3 (i : Int) 1 (by omega) (by omega)
        have hl := lgT_lt kid v q2
        simp only [simB, zbo, Nat.reduceBEq, own0, ↓reduceIte, Nat.reduceEqDiff, Nat.reduceAdd, simL, simN, Nat.zero_add, e2, j2, e1, e5, faT_4, ldT_4, lenTk, q1, q2, ia, ld, cc, f5]
        exact ih2 (i + 1, lgT kid v) _ _ (by simp only; omega) rfl ⟨(by simp only [zfr, ↓reduceIte, Nat.reduceEqDiff, e2]; try rfl), by simp only [cellsT]; exact (by simp only [zfr, ↓reduceIte, Nat.reduceEqDiff, j2]; try rfl), (by simp only [zfr, ↓reduceIte, Nat.reduceEqDiff]; try rfl), (by simp only [zfr, ↓reduceIte, Nat.reduceEqDiff]; try rfl), by simp only; omega, by simp only; omega, by simp only; omega, by simp only; rw [drop_next hdr]; exact hk⟩
      · rw [if_neg q2] at hk
        rw [hk]
        simp only [simB, zbo, Nat.reduceBEq, own0, ↓reduceIte, Nat.reduceEqDiff, Nat.reduceAdd, simL, simN, Nat.zero_add, e2, j2, e1, e5, faT_4, ldT_4, lenTk, q1, q2]
        exact finish_i _ _ _ _ _ _ _ (by simp only [zfr, ↓reduceIte, Nat.reduceEqDiff]; try rfl) rfl
theorem Light_eq (R : Nat) (hR : 2000 ≤ R) (hR2 : R ≤ 9223372036854775808) (d : Nat) (t : T) (n : Int) (h0 : 0 ≤ n) (h1 : n < 1000) (hd : n + 2 ≤ (d : Int)) (hb : bigT R t) (hf : fewT R t) :
    evalFn Tryz.prog cfg0 R (d+1) 31 [.tree (encT t), .tree (.int .i64 n)] = some (.tree (.bool (decide (lgT t n ≥ 0))), [[], []]) := by
  rw [evalFn_go _ Tryz.func31 (by unfold Tryz.f31; rfl) (by unfold Tryz.f31; decide) (Nat.le_of_ble_eq_true (by unfold Tryz.f31; rfl)) (by kernel_rfl)]
  have cc := fun D st => callA_trees (cfg := cfg0) (d := D) (s := st) (f := 60) (vs := [encT t, .int .i64 n]) rfl (light_eq R hR hR2 d t n h0 h1 hd hb hf)
  simp only [encT] at cc
  simp only [simB, zbo, Nat.reduceBEq, own0, ↓reduceIte, Nat.reduceEqDiff, Nat.reduceAdd, simA, simL, simN, Nat.zero_add, encT, ldT_u, cc]
  exact finish_b _ _ _ _ _ _ _ (by simp only [zfr, ↓reduceIte, Nat.reduceEqDiff]; try rfl) rfl

def itT : Nat → T → List T → Option (List T)
  | 0, _, _ => none
  | r + 1, t, acc => if kindT t = 3 then some acc else if kindT t = 4 then (match kidsT t with | [h, u] => itT r u (acc ++ [h]) | _ => none) else none
theorem itT_mk (r : Nat) (k : Int) (b : Bool) (lg : Gk) (l : List Nat) (s : List UInt8) (n : Int) (kg : Gk) (ks acc : List T) : itT (r + 1) (.mk k b lg l s n kg ks) acc = if k = 3 then some acc else if k = 4 then (match ks with | [h, u] => itT r u (acc ++ [h]) | _ => none) else none := rfl
def itemsT (t : T) : Option (List T) := itT 2001 t []
def itemsV : Option (List T) → AV
  | some l => .tup [.sl (cellsK l) l.length (gr (kgOf l)), .bool true]
  | none => .tup [.sl [] 0 .nil, .bool false]
theorem finish_Kb (k : Bool) (xs : List Arg) (t t' d : Nat) (x : AV) (us : List T) (env : Env) (s : St) (b : Bool) (os : List (List AV)) (hv : env t = x) (hA : Ap s d x us) (hb : env t' = .bool b) (ho : outsA s 0 xs = some os) :
    finishP Tryz.prog k xs #[.tmp t, .tmp t'] env s = some (.tree (.tup [.sl (cellsK us) us.length (gr (kgOf us)), .bool b]), os) := by
  rw [finishP_t2]
  rcases hA with ⟨rfl, rfl⟩ | ⟨hu, tt, rfl, _⟩
  · simp [finish, hv, hb, settleL, settle, ho, kgOf, gr, cellsK]
  · simp [finish, hv, hb, settleL, settle, ho, kgOf, hu, gr]
set_option maxHeartbeats 8000000 in
theorem items_eq (R : Nat) (hR : 2010 ≤ R) (d : Nat) (t0 : T) : evalFn Tryz.prog cfg0 R (d+1) 53 [.tree (encT t0)] = some (.tree (itemsV (itemsT t0)), [[]]) := by
  rw [evalFn_go _ Tryz.func53 (by unfold Tryz.f53; rfl) (by unfold Tryz.f53; decide) (Nat.le_of_ble_eq_true (by unfold Tryz.f53; rfl)) (by kernel_rfl)]
  simp only [simB, zbo, Nat.reduceBEq, own0, ↓reduceIte, Nat.reduceEqDiff, Nat.reduceAdd, simA, simN, Nat.zero_add, encT, den_loop]
  refine loop_ends (X := T × List T) (fun x env s => env 1 = .ptr 1 1 0 ∧ s 1 = ⟨1, .buf (cellsT x.1)⟩ ∧ Ap s 29 (env 4) x.2 ∧ x.2.length ≤ 2001 ∧ itT (2001 - x.2.length) x.1 x.2 = itemsT t0) (fun x => 2001 - x.2.length) (fun _ => (.tree (itemsV (itemsT t0)), [[]])) ?_ R (t0, []) _ _ (by simp only [List.length_nil]; omega) ⟨(by simp only [zfr, ↓reduceIte, Nat.reduceEqDiff]; try rfl), (by simp only [zfr, ↓reduceIte, Nat.reduceEqDiff]; try rfl), .inl ⟨rfl, (by simp only [zfr, ↓reduceIte, Nat.reduceEqDiff]; try rfl)⟩, by simp, rfl⟩
  rintro rd ⟨t, acc⟩ hrd ih env st ⟨e1, j1, ap, hl, hit⟩
  simp only at j1 ap hl hit hrd
  rw [← hit]
  generalize h4 : env 4 = x4 at ap
  have la : ∀ st, lenA Tryz.prog 22 st x4 = some (.int .i64 (acc.length : Int)) := fun st => by
    rcases ap with ⟨rfl, rfl⟩ | ⟨_, tt, rfl, _⟩
    · exact lenTk st [] 0 .nil
    · exact lenTk st _ _ _
  by_cases q1 : (acc.length : Int) ≤ 2000
  rotate_left
  · have h0 : 2001 - acc.length = 0 := by omega
    rw [h0, itT]
    simp only [simB, zbo, Nat.reduceBEq, own0, ↓reduceIte, Nat.reduceEqDiff, Nat.reduceAdd, simL, simN, Nat.zero_add, e1, h4, la, q1]
    exact finish_Kb _ _ _ _ 29 _ [] _ _ _ _ (by simp only [zfr, ↓reduceIte, Nat.reduceEqDiff]; try rfl) (.inl ⟨rfl, rfl⟩) (by simp only [zfr, ↓reduceIte, Nat.reduceEqDiff]; try rfl) rfl
  obtain ⟨r, hr⟩ : ∃ r, 2001 - acc.length = r + 1 := ⟨2000 - acc.length, by omega⟩
  rw [hr] at hit ⊢
  obtain ⟨k, b, lg, l, s, m, kg, ks⟩ := t
  simp only [cellsT] at j1
  rw [itT_mk] at hit ⊢
  by_cases k3 : k = 3
  · rw [if_pos k3]
    have q3 : (k == 3) = true := by rw [k3]; rfl
    simp only [simB, zbo, Nat.reduceBEq, own0, ↓reduceIte, Nat.reduceEqDiff, Nat.reduceAdd, simL, simN, Nat.zero_add, e1, j1, h4, la, q1, faT_0, ldT_0, i_eqlV, q3]
    exact finish_Kb _ _ _ _ 29 x4 acc _ _ _ _ (by simp only [zfr, ↓reduceIte, Nat.reduceEqDiff]; try rfl) ap (by simp only [zfr, ↓reduceIte, Nat.reduceEqDiff]; try rfl) rfl
  have q3 : (k == 3) = false := beq_eq_false_iff_ne.mpr k3
  rw [if_neg k3] at hit ⊢
  by_cases k4 : k = 4
  rotate_left
  · rw [if_neg k4]
    have q4 : (k != 4) = true := bne_iff_ne.mpr k4
    simp only [simB, zbo, Nat.reduceBEq, own0, ↓reduceIte, Nat.reduceEqDiff, Nat.reduceAdd, simL, simN, Nat.zero_add, e1, j1, h4, la, q1, faT_0, ldT_0, i_eqlV, i_neqV, q3, q4]
    exact finish_Kb _ _ _ _ 29 _ [] _ _ _ _ (by simp only [zfr, ↓reduceIte, Nat.reduceEqDiff]; try rfl) (.inl ⟨rfl, rfl⟩) (by simp only [zfr, ↓reduceIte, Nat.reduceEqDiff]; try rfl) rfl
  have q4 : (k != 4) = false := by rw [k4]; rfl
  rw [if_pos k4] at hit ⊢
  by_cases k2 : ks.length = 2
  rotate_left
  · have hn : (match ks with | [h, u] => itT r u (acc ++ [h]) | _ => none) = none := by
      match ks, k2 with
      | [], _ => rfl
      | [_], _ => rfl
      | [_, _], h => exact absurd rfl h
      | _ :: _ :: _ :: _, _ => rfl
    rw [hn]
    have q5 : ((ks.length : Int) != 2) = true := bne_iff_ne.mpr (by omega)
    simp only [simB, zbo, Nat.reduceBEq, own0, ↓reduceIte, Nat.reduceEqDiff, Nat.reduceAdd, simL, simN, Nat.zero_add, e1, j1, h4, la, q1, faT_0, ldT_0, faT_4, ldT_4, lenTk, i_eqlV, i_neqV, q3, q4, q5]
    exact finish_Kb _ _ _ _ 29 _ [] _ _ _ _ (by simp only [zfr, ↓reduceIte, Nat.reduceEqDiff]; try rfl) (.inl ⟨rfl, rfl⟩) (by simp only [zfr, ↓reduceIte, Nat.reduceEqDiff]; try rfl) rfl
  obtain ⟨h, u, rfl⟩ : ∃ h u, ks = [h, u] := by
    match ks, k2 with
    | [h, u], _ => exact ⟨h, u, rfl⟩
  simp only at hit ⊢
  have q5 : (((2 : Nat) : Int) != 2) = false := rfl
  obtain ⟨x', s', a1, a2, a3⟩ := ap.push (by omega) h
  have i0 : ∀ st, indexAddrA Tryz.prog 22 st (.sl (cellsK [h, u]) 2 (gr kg)) (.int .i64 0) = some (.rptr (cellsK [h, u])) := fun st => ia_K st [h, u] (gr kg) 0 (by simp)
  have i1 : ∀ st, indexAddrA Tryz.prog 22 st (.sl (cellsK [h, u]) 2 (gr kg)) (.int .i64 1) = some (.rptr (cellsK [u])) := fun st => ia_K st [h, u] (gr kg) 1 (by simp)
  have l0 := fun st => ld_K st h [u]
  have l1 := fun st => ld_K st u []
  simp only [encT] at l0 l1
  have bs := fun (q : Bool) (d' : Option Tmp) (ty : TypeId) (pos : String) (af : Array Edge) (g : Option (Nat × Bool)) (t : Nat) (env : Env) (s : St) (x : Operand) (hx : ev env x = .agg (cellsT h)) => opA_bs1 (evalFn Tryz.prog cfg0 R d) q d' ty pos af g t env s x _ hx
  have j1' : s' 1 = ⟨1, .buf [.int .i64 k, .bool b, encL lg l, .str s, .int .i64 m, .sl (cellsK [h, u]) 2 (gr kg)]⟩ := by rw [a3 1 (by decide)]; exact j1
  simp only [List.length_cons, List.length_nil, Nat.zero_add, Nat.reduceAdd] at j1
  simp only [simB, zbo, Nat.reduceBEq, own0, ↓reduceIte, Nat.reduceEqDiff, Nat.reduceAdd, simL, simN, Nat.zero_add, e1, j1, h4, la, q1, faT_0, ldT_0, faT_4, ldT_4, lenTk, i_eqlV, i_neqV, q3, q4, q5, i0, l0]
  rw [bs _ _ _ _ _ _ _ _ _ _ (by simp only [zfr, ↓reduceIte, Nat.reduceEqDiff, zfm]; try rfl)]
  simp only [simB, zbo, Nat.reduceBEq, own0, ↓reduceIte, Nat.reduceEqDiff, Nat.reduceAdd, simL, simN, Nat.zero_add, a1, e1, j1', h4, faT_4, ldT_4, i1, l1, st_Tt, stT_6]
  have ha := a2
  rw [hit]
  refine ih (u, acc ++ [h]) _ _ (by simp; omega) rfl ?_
  refine ⟨(by simp only [zfr, ↓reduceIte, Nat.reduceEqDiff, e1]; try rfl), (by simp only [zfr, ↓reduceIte, Nat.reduceEqDiff]; try rfl), ?_, by simp; omega, ?_⟩
  · rcases ha with ⟨g1, _⟩ | ⟨g1, tt, g2, g3⟩
    · exact absurd g1 (by simp)
    · exact .inr ⟨g1, tt, g2, by rw [upd_ne _ _ (by decide)]; exact g3⟩
  · simp only [List.length_append, List.length_cons, List.length_nil]
    rw [show 2001 - (acc.length + (0 + 1)) = r by omega]
    exact hit
end Go.Ab

/- How many words a term takes. Conditions: terms that are lean. -/
namespace Go.Ab
open Go.Proofs
set_option maxRecDepth 100000
set_option linter.unusedSimpArgs false

end Go.Ab

/- relictref03.Same, walked. Conditions: so many limbs, nodes at most. -/
namespace Go.Ab
open Go.Proofs
set_option maxRecDepth 100000
set_option linter.unusedSimpArgs false

theorem b_neqV (a b : Bool) : binA Tryz.prog .neq 4 (.bool a) (.bool b) = some (.bool (!(a == b))) := bool_neq 4 tk4 a b
theorem rsameNum_eq (n d : Nat) (b1 b2 : Bool) (b b' : Gk) (l m : List Nat) (hn : l.length < n) (hk : l.length ≤ 1000000) : evalFn Tryz.prog cfg0 n (d+1) 43 [.tree (encA b1 b l), .tree (encA b2 b' m)] = some (.tree (.bool (decide (b1 = b2) && decide (l = m))), [[], []]) := by
  rw [evalFn_go _ Tryz.func43 (by unfold Tryz.f43; rfl) (by unfold Tryz.f43; decide) (Nat.le_of_ble_eq_true (by unfold Tryz.f43; rfl)) (by kernel_rfl)]
  by_cases hb : b1 = b2
  rotate_left
  · have p0 : (b1 == b2) = false := beq_eq_false_iff_ne.mpr hb
    rw [decide_eq_false hb, Bool.false_and]
    simp only [simB, zbo, Nat.reduceBEq, own0, ↓reduceIte, Nat.reduceEqDiff, Nat.reduceAdd, simA, simL, simN, Nat.zero_add, encA, b_neqV, p0, Bool.not_false]
    exact finish_b _ _ _ _ _ _ _ (by simp only [zfr, ↓reduceIte, Nat.reduceEqDiff]; try rfl) rfl
  have p0 : (b1 == b2) = true := beq_iff_eq.mpr hb
  rw [decide_eq_true hb, Bool.true_and]
  by_cases hlm : l.length = m.length
  · have p1 : ((l.length : Int) != (m.length : Int)) = false := by rw [hlm]; exact bne_self_eq_false _
    simp only [simB, zbo, Nat.reduceBEq, own0, ↓reduceIte, Nat.reduceEqDiff, Nat.reduceAdd, simA, simL, simN, Nat.zero_add, encA, b_neqV, p0, Bool.not_true, p1, den_loop]
    refine loop_ends (X := Nat) (fun i env s => env 2 = .ptr 2 1 0 ∧ env 3 = .ptr 3 1 0 ∧ s 2 = ⟨1, .buf [.bool b1, encL b l]⟩ ∧ s 3 = ⟨1, .buf [.bool b2, encL b' m]⟩ ∧ env 5 = .int .i64 (i : Int) ∧ i ≤ l.length ∧ (l.drop i = m.drop i ↔ l = m)) (fun i => l.length - i) (fun _ => (.tree (.bool (decide (l = m))), [[], []])) ?_ n 0 _ _ (by omega) ⟨(by simp only [zfr, ↓reduceIte, Nat.reduceEqDiff]; try rfl), (by simp only [zfr, ↓reduceIte, Nat.reduceEqDiff]; try rfl), (by simp only [zfr, ↓reduceIte, Nat.reduceEqDiff]; try rfl), (by simp only [zfr, ↓reduceIte, Nat.reduceEqDiff]; try rfl), (by simp only [zfr, ↓reduceIte, Nat.reduceEqDiff]; try rfl), Nat.zero_le _, Iff.rfl⟩
    intro k i hx ih env s ⟨h0, h1, j0, j1, h5, hi, hd⟩
    by_cases hp : i = l.length
    · have e : l = m := by
        rw [← hd, hp, List.drop_length, hlm, List.drop_length]
      rw [decide_eq_true e]
      have q1 : ¬ ((i : Int) < (l.length : Int)) := by omega
      simp only [simB, zbo, Nat.reduceBEq, own0, ↓reduceIte, Nat.reduceEqDiff, Nat.reduceAdd, simL, simN, Nat.zero_add, h0, h1, j0, j1, h5, q1]
      exact finish_b _ _ _ _ _ _ _ (by simp only [zfr, ↓reduceIte, Nat.reduceEqDiff]; try rfl) rfl
    · have q1 : (i : Int) < (l.length : Int) := by omega
      have q2 : (0 : Int) ≤ (i : Int) := by omega
      have q3 : i < l.length := by omega
      have q4 : i < m.length := by omega
      have q5 : (i : Int) < (m.length : Int) := by omega
      have f4 := i_add Tryz.prog 3 (i : Int) 1 (by omega) (by omega)
      have dl : l.drop i = l.getD i 0 :: l.drop (i + 1) := by rw [List.getD_eq_getElem?_getD, List.getElem?_eq_getElem q3]; exact List.drop_eq_getElem_cons q3
      have dm : m.drop i = m.getD i 0 :: m.drop (i + 1) := by rw [List.getD_eq_getElem?_getD, List.getElem?_eq_getElem q4]; exact List.drop_eq_getElem_cons q4
      rw [dl, dm, List.cons.injEq] at hd
      by_cases g : l.getD i 0 = m.getD i 0
      · have p2 : ((l.getD i 0 : Int) != (m.getD i 0 : Int)) = false := by rw [g]; exact bne_self_eq_false _
        simp only [simB, zbo, Nat.reduceBEq, own0, ↓reduceIte, Nat.reduceEqDiff, Nat.reduceAdd, simL, simN, Nat.zero_add, h0, h1, j0, j1, h5, q1, q2, q3, q4, q5, Int.toNat_natCast, p2, f4]
        exact ih (i + 1) _ _ (by omega) rfl ⟨(by simp only [zfr, ↓reduceIte, Nat.reduceEqDiff, h0]; try rfl), (by simp only [zfr, ↓reduceIte, Nat.reduceEqDiff, h1]; try rfl), (by simp only [zfr, ↓reduceIte, Nat.reduceEqDiff, j0]; try rfl), (by simp only [zfr, ↓reduceIte, Nat.reduceEqDiff, j1]; try rfl), (by simp only [zfr, ↓reduceIte, Nat.reduceEqDiff]; try rfl), by omega, by rw [← hd]; simp only [g, true_and]⟩
      · have p2 : ((l.getD i 0 : Int) != (m.getD i 0 : Int)) = true := by rw [bne_iff_ne]; omega
        have hne : ¬ l = m := fun e => g (hd.mpr e).1
        rw [decide_eq_false hne]
        simp only [simB, zbo, Nat.reduceBEq, own0, ↓reduceIte, Nat.reduceEqDiff, Nat.reduceAdd, simL, simN, Nat.zero_add, h0, h1, j0, j1, h5, q1, q2, q3, q4, q5, Int.toNat_natCast, p2, f4]
        exact finish_b _ _ _ _ _ _ _ (by simp only [zfr, ↓reduceIte, Nat.reduceEqDiff]; try rfl) rfl
  · have p1 : ((l.length : Int) != (m.length : Int)) = true := by rw [bne_iff_ne]; omega
    rw [decide_eq_false (fun e => hlm (by rw [e]))]
    simp only [simB, zbo, Nat.reduceBEq, own0, ↓reduceIte, Nat.reduceEqDiff, Nat.reduceAdd, simA, simL, simN, Nat.zero_add, encA, b_neqV, p0, Bool.not_true, p1]
    exact finish_b _ _ _ _ _ _ _ (by simp only [zfr, ↓reduceIte, Nat.reduceEqDiff]; try rfl) rfl
noncomputable def codeRS : Code := (Tryz.f18.body).getD .skip
noncomputable def rs20 : Code := seqR (seqR (seqR (seqR codeRS)))
set_option maxHeartbeats 32000000 in
theorem rsameK_eq (n D : Nat) (a b : T) (ha : (kidsT a).length < n) (ha2 : (kidsT a).length ≤ 1000000)
    (h : ∀ i j x y q r, (kidsT a).drop i = x :: q → (kidsT b).drop j = y :: r → evalFn Tryz.prog cfg0 n D 18 [.tree (encT x), .tree (encT y)] = some (.tree (.bool (sameT x y)), [[], []])) (env : Env) (s : St) (e2 : env 2 = .ptr 2 1 0) (e3 : env 3 = .ptr 3 1 0) (j2 : s 2 = ⟨1, .buf (cellsT a)⟩) (j3 : s 3 = ⟨1, .buf (cellsT b)⟩) (e5 : env 5 = .bool true) :
    den Tryz.prog cfg0 (evalFn Tryz.prog cfg0 n D) n rs20 (finK Tryz.prog (cfg0.keep 18) [.tree (encT a), .tree (encT b)] Tryz.f18.results) env s = some (.tree (.bool (sameK (kidsT a) (kidsT b))), [[], []]) := by
  obtain ⟨k, n1, lg, l, s1, i1, kg, us⟩ := a
  obtain ⟨k', n2, lg', l', s', i2, kg', vs⟩ := b
  simp only [kidsT] at ha ha2 h ⊢
  simp only [cellsT] at j2 j3
  by_cases hl : us.length = vs.length
  case neg =>
    have p1 : ((us.length : Int) != (vs.length : Int)) = true := by rw [bne_iff_ne]; omega
    rw [sameK_len us vs hl]
    simp only [rs20, codeRS, seqR, Tryz.f18, Option.getD_some, simB, zbo, Nat.reduceBEq, own0, ↓reduceIte, Nat.reduceEqDiff, Nat.reduceAdd, simL, simN, Nat.zero_add, e2, e3, e5, j2, j3, faT_4, ldT_4, Nat.reduceAdd, unA_not', Bool.not_true, lenTk, i_neqV, p1]
    exact finish_b _ _ _ _ _ _ _ (by simp only [zfr, ↓reduceIte, Nat.reduceEqDiff]; try rfl) rfl
  have p1 : ((us.length : Int) != (vs.length : Int)) = false := by rw [hl]; exact bne_self_eq_false _
  simp only [rs20, codeRS, seqR, Tryz.f18, Option.getD_some, simB, zbo, Nat.reduceBEq, own0, ↓reduceIte, Nat.reduceEqDiff, Nat.reduceAdd, simL, simN, Nat.zero_add, e2, e3, e5, j2, j3, faT_4, ldT_4, Nat.reduceAdd, unA_not', Bool.not_true, lenTk, i_neqV, p1, den_loop]
  refine loop_ends (X := Nat) (fun i env s => env 2 = .ptr 2 1 0 ∧ env 3 = .ptr 3 1 0 ∧ s 2 = ⟨1, .buf (cellsT (.mk k n1 lg l s1 i1 kg us))⟩ ∧ s 3 = ⟨1, .buf (cellsT (.mk k' n2 lg' l' s' i2 kg' vs))⟩ ∧ env 6 = .int .i64 (i : Int) ∧ i ≤ us.length ∧ sameK (us.drop i) (vs.drop i) = sameK us vs) (fun i => us.length - i) (fun _ => (.tree (.bool (sameK us vs)), [[], []])) ?_ n 0 _ _ (by omega) ⟨(by simp only [zfr, ↓reduceIte, Nat.reduceEqDiff, e2]; try rfl), (by simp only [zfr, ↓reduceIte, Nat.reduceEqDiff, e3]; try rfl), by simp only [cellsT]; exact j2, by simp only [cellsT]; exact j3, (by simp only [zfr, ↓reduceIte, Nat.reduceEqDiff]; try rfl), Nat.zero_le _, rfl⟩
  clear e2 e3 j2 j3 e5
  intro rr i hx ih env st ⟨e2, e3, j2, j3, e6, hi, hc⟩
  simp only [cellsT] at j2 j3
  cases hda : us.drop i with
  | nil =>
    have hil : i = us.length := by have := congrArg List.length hda; simp only [List.length_drop, List.length_nil] at this; omega
    have q1 : ¬ ((i : Int) < (us.length : Int)) := by omega
    have hdb : vs.drop i = [] := List.drop_eq_nil_of_le (by omega)
    rw [hda, hdb] at hc
    simp only [sameK] at hc
    rw [← hc]
    simp only [simB, zbo, Nat.reduceBEq, own0, ↓reduceIte, Nat.reduceEqDiff, Nat.reduceAdd, simL, simN, Nat.zero_add, e2, e3, j2, j3, e6, faT_4, ldT_4, Nat.reduceAdd, lenTk, q1]
    exact finish_b _ _ _ _ _ _ _ (by simp only [zfr, ↓reduceIte, Nat.reduceEqDiff]; try rfl) rfl
  | cons x q =>
    have hil : i < us.length := by have := congrArg List.length hda; simp only [List.length_drop, List.length_cons] at this; omega
    have hjl : i < vs.length := by omega
    have q1 : (i : Int) < (us.length : Int) := by omega
    have ia := fun st => ia_K st us (gr kg) i hil
    rw [hda] at ia hc
    have ld := fun st => ld_K st x q
    simp only [encT] at ld
    cases hdb : vs.drop i with
    | nil => have := congrArg List.length hdb; simp only [List.length_drop, List.length_nil] at this; omega
    | cons y r =>
      have ib := fun st => ia_K st vs (gr kg') i hjl
      rw [hdb] at ib hc
      have ldb := fun st => ld_K st y r
      simp only [encT] at ldb
      simp only [sameK] at hc
      have cc := callQ_trees (f := 18) (vs := [encT x, encT y]) rfl (h i i x y q r hda hdb)
      simp only [encT] at cc
      have f5 := i_add Tryz.prog 3 (i : Int) 1 (by omega) (by omega)
      cases g : sameT x y with
      | true =>
        rw [g, Bool.true_and] at hc
        rw [g] at cc
        simp only [simB, zbo, Nat.reduceBEq, own0, ↓reduceIte, Nat.reduceEqDiff, Nat.reduceAdd, simL, simN, Nat.zero_add, e2, e3, j2, j3, e6, faT_4, ldT_4, Nat.reduceAdd, q1, lenTk, ia, ib, ld, ldb, cc, unA_not', Bool.not_true, f5]
        exact ih (i + 1) _ _ (by omega) rfl ⟨(by simp only [zfr, ↓reduceIte, Nat.reduceEqDiff, e2]; try rfl), (by simp only [zfr, ↓reduceIte, Nat.reduceEqDiff, e3]; try rfl), by simp only [cellsT]; exact j2, by simp only [cellsT]; exact j3, (by simp only [zfr, ↓reduceIte, Nat.reduceEqDiff]; try rfl), by omega, by rw [drop_next hda, drop_next hdb]; exact hc⟩
      | false =>
        rw [g, Bool.false_and] at hc
        rw [g] at cc
        rw [← hc]
        simp only [simB, zbo, Nat.reduceBEq, own0, ↓reduceIte, Nat.reduceEqDiff, Nat.reduceAdd, simL, simN, Nat.zero_add, e2, e3, j2, j3, e6, faT_4, ldT_4, Nat.reduceAdd, q1, lenTk, ia, ib, ld, ldb, cc, unA_not', Bool.not_false, f5]
        exact finish_b _ _ _ _ _ _ _ (by simp only [zfr, ↓reduceIte, Nat.reduceEqDiff]; try rfl) rfl
end Go.Ab

/- relictref03.Same of any terms. Conditions: so many limbs, nodes at most. -/
namespace Go.Ab
open Go.Proofs
set_option maxRecDepth 100000
set_option linter.unusedSimpArgs false
set_option maxHeartbeats 32000000 in
theorem rsame_eq (n : Nat) (hn : n ≤ 1000001) : ∀ (d D : Nat) (a0 b0 : T), htT a0 ≤ d → d + 1 ≤ D → fewT n a0 →
    evalFn Tryz.prog cfg0 n D 18 [.tree (encT a0), .tree (encT b0)] = some (.tree (.bool (sameT a0 b0)), [[], []])
  | 0, _, a0, b0, hd, _, hf => by obtain ⟨k, b, lg, l, s, m, kg, ks⟩ := a0; simp only [htT] at hd; omega
  | d + 1, D, a0, b0, hd, hD, hf => by
    obtain ⟨m, rfl⟩ : ∃ m, D = m + 2 := ⟨D - 2, by omega⟩
    have IH := fun a b h1 h2 => rsame_eq n hn d (m + 1) a b h1 (by omega) h2
    rw [evalFn_go _ Tryz.func18 (by unfold Tryz.f18; rfl) (by unfold Tryz.f18; decide) (Nat.le_of_ble_eq_true (by unfold Tryz.f18; rfl)) (by kernel_rfl)]
    have K := rsameK_eq n (m + 1) a0 b0
    obtain ⟨k, n1, lg, l, s, i1, kg, ks⟩ := a0
    obtain ⟨k', n2, lg', l', s', i2, kg', ks'⟩ := b0
    have hf' : l.length < n ∧ ks.length < n ∧ fewK n ks := by simp only [fewT] at hf; exact hf
    have hhk : htK ks ≤ d := by simp only [htT] at hd; omega
    have c1 := fun D st => callA_trees (cfg := cfg0) (d := D) (s := st) (f := 43) (vs := [encA n1 lg l, encA n2 lg' l']) (by cases lg <;> cases lg' <;> rfl) (rsameNum_eq n m n1 n2 lg lg' l l' hf'.1 (by omega))
    simp only [encA] at c1
    simp only [kidsT] at K
    have K := fun env s => K hf'.2.1 (by omega) (fun i j x y q r h1 h2 => IH x y (by have := kids_ht ks i x q h1; omega) (fewK_at _ ks i x q h1 hf'.2.2)) env s
    simp only [encT] at K
    have iq : (i1 == i2) = decide (i1 = i2) := intEq _ _
    by_cases hk : k = k'
    case neg =>
      have p1 : (k != k') = true := by rw [bne_iff_ne]; exact hk
      have hr : sameT (.mk k n1 lg l s i1 kg ks) (.mk k' n2 lg' l' s' i2 kg' ks') = false := by first | (simp [sameT, kindT, sgnT, limT, strT, nT, kidsT, hk]; done) | (simp [sameT, kindT, sgnT, limT, strT, nT, kidsT, hk]; rfl)
      rw [hr]
      simp only [simB, zbo, Nat.reduceBEq, own0, ↓reduceIte, Nat.reduceEqDiff, Nat.reduceAdd, simA, simL, simN, Nat.zero_add, encT, cellsT, faT_0, ldT_0, i_neqV, p1]
      exact finish_b _ _ _ _ _ _ _ (by simp only [zfr, ↓reduceIte, Nat.reduceEqDiff]; try rfl) rfl
    subst hk
    have p1 : (k != k) = false := bne_self_eq_false _
    by_cases h1 : k = 1
    · subst h1
      have hr : sameT (.mk 1 n1 lg l s i1 kg ks) (.mk 1 n2 lg' l' s' i2 kg' ks') = (decide (n1 = n2) && decide (l = l')) := by first | (simp [sameT, kindT, sgnT, limT, strT, nT, kidsT]; done) | (simp [sameT, kindT, sgnT, limT, strT, nT, kidsT]; rfl)
      rw [hr]
      simp only [simB, zbo, Nat.reduceBEq, own0, ↓reduceIte, Nat.reduceEqDiff, Nat.reduceAdd, simA, simL, simN, Nat.zero_add, encT, cellsT, faT_0, faT_1, faT_2, faT_3, faT_4, ldT_0, ldT_1, ldT_2, ldT_3, ldT_4, Nat.reduceAdd, i_neqV, p1, i_eqlV, Int.reduceBEq, s_eqlS, c1]
      exact finish_b _ _ _ _ _ _ _ (by simp only [zfr, ↓reduceIte, Nat.reduceEqDiff]; try rfl) rfl
    have b1 : (k == 1) = false := beq_eq_false_iff_ne.mpr h1
    by_cases h2 : k = 2
    · subst h2
      have hr : sameT (.mk 2 n1 lg l s i1 kg ks) (.mk 2 n2 lg' l' s' i2 kg' ks') = (decide (s = s')) := by first | (simp [sameT, kindT, sgnT, limT, strT, nT, kidsT]; done) | (simp [sameT, kindT, sgnT, limT, strT, nT, kidsT]; rfl)
      rw [hr]
      simp only [simB, zbo, Nat.reduceBEq, own0, ↓reduceIte, Nat.reduceEqDiff, Nat.reduceAdd, simA, simL, simN, Nat.zero_add, encT, cellsT, faT_0, faT_1, faT_2, faT_3, faT_4, ldT_0, ldT_1, ldT_2, ldT_3, ldT_4, Nat.reduceAdd, i_neqV, p1, i_eqlV, Int.reduceBEq, s_eqlS, strEq]
      exact finish_b _ _ _ _ _ _ _ (by simp only [zfr, ↓reduceIte, Nat.reduceEqDiff]; try rfl) rfl
    have b2 : (k == 2) = false := beq_eq_false_iff_ne.mpr h2
    by_cases h6 : k = 6
    · subst h6
      have hr : sameT (.mk 6 n1 lg l s i1 kg ks) (.mk 6 n2 lg' l' s' i2 kg' ks') = (decide (s = s')) := by first | (simp [sameT, kindT, sgnT, limT, strT, nT, kidsT]; done) | (simp [sameT, kindT, sgnT, limT, strT, nT, kidsT]; rfl)
      rw [hr]
      simp only [simB, zbo, Nat.reduceBEq, own0, ↓reduceIte, Nat.reduceEqDiff, Nat.reduceAdd, simA, simL, simN, Nat.zero_add, encT, cellsT, faT_0, faT_1, faT_2, faT_3, faT_4, ldT_0, ldT_1, ldT_2, ldT_3, ldT_4, Nat.reduceAdd, i_neqV, p1, i_eqlV, Int.reduceBEq, s_eqlS, strEq]
      exact finish_b _ _ _ _ _ _ _ (by simp only [zfr, ↓reduceIte, Nat.reduceEqDiff]; try rfl) rfl
    have b6 : (k == 6) = false := beq_eq_false_iff_ne.mpr h6
    by_cases h8 : k = 8
    · subst h8
      have hr : sameT (.mk 8 n1 lg l s i1 kg ks) (.mk 8 n2 lg' l' s' i2 kg' ks') = (decide (s = s') && decide (i1 = i2)) := by first | (simp [sameT, kindT, sgnT, limT, strT, nT, kidsT]; done) | (simp [sameT, kindT, sgnT, limT, strT, nT, kidsT]; rfl)
      rw [hr]
      by_cases g : s = s'
      · have g' : (s == s') = true := beq_iff_eq.mpr g
        rw [decide_eq_true g, Bool.true_and]
        simp only [simB, zbo, Nat.reduceBEq, own0, ↓reduceIte, Nat.reduceEqDiff, Nat.reduceAdd, simA, simL, simN, Nat.zero_add, encT, cellsT, faT_0, faT_1, faT_2, faT_3, faT_4, ldT_0, ldT_1, ldT_2, ldT_3, ldT_4, Nat.reduceAdd, i_neqV, p1, i_eqlV, Int.reduceBEq, s_eqlS, g', iq]
        exact finish_b _ _ _ _ _ _ _ (by simp only [zfr, ↓reduceIte, Nat.reduceEqDiff]; try rfl) rfl
      · have g' : (s == s') = false := beq_eq_false_iff_ne.mpr g
        rw [decide_eq_false g, Bool.false_and]
        simp only [simB, zbo, Nat.reduceBEq, own0, ↓reduceIte, Nat.reduceEqDiff, Nat.reduceAdd, simA, simL, simN, Nat.zero_add, encT, cellsT, faT_0, faT_1, faT_2, faT_3, faT_4, ldT_0, ldT_1, ldT_2, ldT_3, ldT_4, Nat.reduceAdd, i_neqV, p1, i_eqlV, Int.reduceBEq, s_eqlS, g', iq]
        exact finish_b _ _ _ _ _ _ _ (by simp only [zfr, ↓reduceIte, Nat.reduceEqDiff]; try rfl) rfl
    have b8 : (k == 8) = false := beq_eq_false_iff_ne.mpr h8
    by_cases h9 : k = 9
    · subst h9
      have hr : sameT (.mk 9 n1 lg l s i1 kg ks) (.mk 9 n2 lg' l' s' i2 kg' ks') = (decide (i1 = i2)) := by first | (simp [sameT, kindT, sgnT, limT, strT, nT, kidsT]; done) | (simp [sameT, kindT, sgnT, limT, strT, nT, kidsT]; rfl)
      rw [hr]
      simp only [simB, zbo, Nat.reduceBEq, own0, ↓reduceIte, Nat.reduceEqDiff, Nat.reduceAdd, simA, simL, simN, Nat.zero_add, encT, cellsT, faT_0, faT_1, faT_2, faT_3, faT_4, ldT_0, ldT_1, ldT_2, ldT_3, ldT_4, Nat.reduceAdd, i_neqV, p1, i_eqlV, Int.reduceBEq, s_eqlS, iq]
      exact finish_b _ _ _ _ _ _ _ (by simp only [zfr, ↓reduceIte, Nat.reduceEqDiff]; try rfl) rfl
    have b9 : (k == 9) = false := beq_eq_false_iff_ne.mpr h9
    by_cases h7 : k = 7
    · subst h7
      have hr : sameT (.mk 7 n1 lg l s i1 kg ks) (.mk 7 n2 lg' l' s' i2 kg' ks') = (decide (i1 = i2) && sameK ks ks') := by first | (simp [sameT, kindT, sgnT, limT, strT, nT, kidsT]; done) | (simp [sameT, kindT, sgnT, limT, strT, nT, kidsT]; rfl)
      rw [hr]
      by_cases g : i1 = i2
      · have g' : (i1 == i2) = true := beq_iff_eq.mpr g
        rw [decide_eq_true g, Bool.true_and]
        simp only [simD, zbo, Nat.reduceBEq, own0, ↓reduceIte, Nat.reduceEqDiff, Nat.reduceAdd, simA, simL, simN, Nat.zero_add, encT, cellsT, faT_0, faT_1, faT_2, faT_3, faT_4, ldT_0, ldT_1, ldT_2, ldT_3, ldT_4, Nat.reduceAdd, i_neqV, p1, i_eqlV, Int.reduceBEq, s_eqlS, zci, g', den_loop]
        rw [zcl, zci]
        exact K _ _ (by simp only [zfr, ↓reduceIte, Nat.reduceEqDiff]; try rfl) (by simp only [zfr, ↓reduceIte, Nat.reduceEqDiff]; try rfl) (by simp only [zfr, ↓reduceIte, Nat.reduceEqDiff]; try rfl) (by simp only [zfr, ↓reduceIte, Nat.reduceEqDiff]; try rfl) (by simp only [zfr, ↓reduceIte, Nat.reduceEqDiff]; try rfl)
      · have g' : (i1 == i2) = false := beq_eq_false_iff_ne.mpr g
        rw [decide_eq_false g, Bool.false_and]
        simp only [simB, zbo, Nat.reduceBEq, own0, ↓reduceIte, Nat.reduceEqDiff, Nat.reduceAdd, simA, simL, simN, Nat.zero_add, encT, cellsT, faT_0, faT_1, faT_2, faT_3, faT_4, ldT_0, ldT_1, ldT_2, ldT_3, ldT_4, Nat.reduceAdd, i_neqV, p1, i_eqlV, Int.reduceBEq, s_eqlS, g', unA_not', Bool.not_false]
        exact finish_b _ _ _ _ _ _ _ (by simp only [zfr, ↓reduceIte, Nat.reduceEqDiff]; try rfl) rfl
    have b7 : (k == 7) = false := beq_eq_false_iff_ne.mpr h7
    by_cases h4 : k = 4
    · subst h4
      have hr : sameT (.mk 4 n1 lg l s i1 kg ks) (.mk 4 n2 lg' l' s' i2 kg' ks') = (sameK ks ks') := by first | (simp [sameT, kindT, sgnT, limT, strT, nT, kidsT]; done) | (simp [sameT, kindT, sgnT, limT, strT, nT, kidsT]; rfl)
      rw [hr]
      simp only [simD, zbo, Nat.reduceBEq, own0, ↓reduceIte, Nat.reduceEqDiff, Nat.reduceAdd, simA, simL, simN, Nat.zero_add, encT, cellsT, faT_0, faT_1, faT_2, faT_3, faT_4, ldT_0, ldT_1, ldT_2, ldT_3, ldT_4, Nat.reduceAdd, i_neqV, p1, i_eqlV, Int.reduceBEq, s_eqlS, zci, den_loop]
      rw [zcl, zci]
      exact K _ _ (by simp only [zfr, ↓reduceIte, Nat.reduceEqDiff]; try rfl) (by simp only [zfr, ↓reduceIte, Nat.reduceEqDiff]; try rfl) (by simp only [zfr, ↓reduceIte, Nat.reduceEqDiff]; try rfl) (by simp only [zfr, ↓reduceIte, Nat.reduceEqDiff]; try rfl) (by simp only [zfr, ↓reduceIte, Nat.reduceEqDiff]; try rfl)
    have b4 : (k == 4) = false := beq_eq_false_iff_ne.mpr h4
    by_cases h5 : k = 5
    · subst h5
      have hr : sameT (.mk 5 n1 lg l s i1 kg ks) (.mk 5 n2 lg' l' s' i2 kg' ks') = (sameK ks ks') := by first | (simp [sameT, kindT, sgnT, limT, strT, nT, kidsT]; done) | (simp [sameT, kindT, sgnT, limT, strT, nT, kidsT]; rfl)
      rw [hr]
      simp only [simD, zbo, Nat.reduceBEq, own0, ↓reduceIte, Nat.reduceEqDiff, Nat.reduceAdd, simA, simL, simN, Nat.zero_add, encT, cellsT, faT_0, faT_1, faT_2, faT_3, faT_4, ldT_0, ldT_1, ldT_2, ldT_3, ldT_4, Nat.reduceAdd, i_neqV, p1, i_eqlV, Int.reduceBEq, s_eqlS, zci, den_loop]
      rw [zcl, zci]
      exact K _ _ (by simp only [zfr, ↓reduceIte, Nat.reduceEqDiff]; try rfl) (by simp only [zfr, ↓reduceIte, Nat.reduceEqDiff]; try rfl) (by simp only [zfr, ↓reduceIte, Nat.reduceEqDiff]; try rfl) (by simp only [zfr, ↓reduceIte, Nat.reduceEqDiff]; try rfl) (by simp only [zfr, ↓reduceIte, Nat.reduceEqDiff]; try rfl)
    have b5 : (k == 5) = false := beq_eq_false_iff_ne.mpr h5
    have hr : sameT (.mk k n1 lg l s i1 kg ks) (.mk k n2 lg' l' s' i2 kg' ks') = true := by first | (simp [sameT, kindT, sgnT, limT, strT, nT, kidsT, h1, h2, h4, h5, h6, h7, h8, h9]; done) | (simp [sameT, kindT, sgnT, limT, strT, nT, kidsT, h1, h2, h4, h5, h6, h7, h8, h9]; rfl)
    rw [hr]
    simp only [simB, zbo, Nat.reduceBEq, own0, ↓reduceIte, Nat.reduceEqDiff, Nat.reduceAdd, simA, simL, simN, Nat.zero_add, encT, cellsT, faT_0, ldT_0, i_neqV, p1, i_eqlV, b1, b2, b4, b5, b6, b7, b8, b9]
    exact finish_b _ _ _ _ _ _ _ (by simp only [zfr, ↓reduceIte, Nat.reduceEqDiff]; try rfl) rfl
end Go.Ab

/- bif.number, bif.empty, bif.text; relictref03.List, relictlaw00.Proper. Conditions: lengths in range. -/
namespace Go.Ab
open Go.Proofs
set_option maxRecDepth 100000
set_option linter.unusedSimpArgs false

def numG (v : Int) : Gk := if v.natAbs = 0 then .n else .l
def smallT (v : Int) : T := .mk 1 (decide (v < 0)) (numG v) (digs v.natAbs) [] 0 .n []
theorem encZ_G (v : Int) : encZ v = .agg [.bool (decide (v < 0)), encL (numG v) (digs v.natAbs)] := rfl
theorem number_eq (n d : Nat) (hn : 100000 ≤ n) (v : Int) (h : I64 v) : evalFn Tryz.prog cfg0 n (d+4) 52 [.tree (.int .i64 v)] = some (.tree (encT (smallT v)), [[]]) := by
  rw [evalFn_go _ Tryz.func52 (by unfold Tryz.f52; rfl) (by unfold Tryz.f52; decide) (Nat.le_of_ble_eq_true (by unfold Tryz.f52; rfl)) (by kernel_rfl)]
  have c1 := fun D st => cOf64 n d hn v h.1 h.2 D st
  have b1 := bdT_1 1 (decide (v < 0)) (numG v) (digs v.natAbs)
  have st1 := fun st p k => st_Tt st p k (smallT v)
  simp only [smallT, cellsT, encC, List.map_nil, cellsK, List.length_nil, gr] at st1
  simp only [simB, zbo, Nat.reduceBEq, own0, ↓reduceIte, Nat.reduceEqDiff, Nat.reduceAdd, simA, simL, simN, Nat.zero_add, zeroT, c1, encZ_G, b1, st1]
  have st6 := fun t k p st => stT_6 t k p st (.int .i64 0) (.bool false) (.sl [] 0 .nil) (.str []) (.int .i64 0) (.sl [] 0 .nil) (smallT v)
  simp only [smallT, cellsT, encC, List.map_nil, cellsK, List.length_nil, gr] at st6
  first
    | exact finish_cT _ _ _ _ _ (smallT v) _ _ _ (by simp only [zfr, ↓reduceIte, Nat.reduceEqDiff]; try rfl) (by simp only [smallT, cellsT, encC, List.map_nil, cellsK, List.length_nil, gr]; exact (by simp only [zfr, ↓reduceIte, Nat.reduceEqDiff]; try rfl)) rfl
    | simp only [simB, zbo, Nat.reduceBEq, own0, ↓reduceIte, Nat.reduceEqDiff, Nat.reduceAdd, simA, simL, simN, Nat.zero_add, st6]
  exact finish_cT _ _ _ _ _ (smallT v) _ _ _ (by simp only [zfr, ↓reduceIte, Nat.reduceEqDiff]; try rfl) (by simp only [smallT, cellsT, encC, List.map_nil, cellsK, List.length_nil, gr]; exact (by simp only [zfr, ↓reduceIte, Nat.reduceEqDiff]; try rfl)) rfl
theorem bdN3 : buildA Tryz.prog 29 [(0, .int .i64 3)] = some (.agg (cellsT nilT')) := bdT_0 3
theorem empty_eq (n d : Nat) : evalFn Tryz.prog cfg0 n (d+1) 92 [] = some (.tree (encT nilT'), []) := by
  rw [evalFn_go _ Tryz.func92 (by unfold Tryz.f92; rfl) (by unfold Tryz.f92; decide) (Nat.le_of_ble_eq_true (by unfold Tryz.f92; rfl)) (by kernel_rfl)]
  simp only [simB, zbo, Nat.reduceBEq, own0, ↓reduceIte, Nat.reduceEqDiff, Nat.reduceAdd, simA, simL, simN, Nat.zero_add, zeroT, bdN3, st_Tt, stT_6]
  exact finish_cT _ _ _ _ _ nilT' _ _ _ (by simp only [zfr, ↓reduceIte, Nat.reduceEqDiff]; try rfl) (by simp only [zfr, ↓reduceIte, Nat.reduceEqDiff]; try rfl) rfl
theorem argsA_loose (f : FuncId) (s : St) : ∀ (vs : List AV) (j : Nat), vs.all isLent = true → argsA cfg0 f s j vs = some (vs.map fun v => .tree (loosen v))
  | [], _, _ => rfl
  | v :: r, j, h => by
    rw [List.all_cons, Bool.and_eq_true] at h
    have e : argA cfg0 f s j v = some (.tree (loosen v)) := by
      cases v with
      | sl a b g => cases g <;> rfl
      | own => exact nomatch h.1
      | ptr => exact nomatch h.1
      | tupo => exact nomatch h.1
      | _ => rfl
    simp only [argsA, e, Option.bind_some, argsA_loose f s r (j + 1) h.2, Option.map_some, List.map_cons]
theorem gives_loose : ∀ vs : List AV, givesL vs (vs.map fun v => Arg.tree (loosen v)) = []
  | [] => rfl
  | v :: r => by
    have e : givesOf v (Arg.tree (loosen v)) = none := by
      cases v with
      | sl a b g => cases g <;> rfl
      | _ => rfl
    simp only [List.map_cons, givesL, e, gives_loose r]
theorem lends_loose : ∀ vs : List AV, vs.all isLent = true → lendsL vs (vs.map fun v => Arg.tree (loosen v)) = []
  | [], _ => rfl
  | v :: r, h => by
    rw [List.all_cons, Bool.and_eq_true] at h
    have e : lendsOf v (Arg.tree (loosen v)) = none := by
      cases v with
      | sl a b g => cases g <;> rfl
      | own => exact nomatch h.1
      | _ => rfl
    simp only [List.map_cons, lendsL, e, lends_loose r h.2]
theorem back_loose (s : St) : ∀ vs : List AV, backA s vs (vs.map fun v => Arg.tree (loosen v)) (vs.map fun _ => []) = some s
  | [] => rfl
  | v :: r => by
    have e : givesOf v (Arg.tree (loosen v)) = none := by
      cases v with
      | sl a b g => cases g <;> rfl
      | _ => rfl
    simp only [List.map_cons, backA, e, back_loose s r]
theorem callA_loose {call : FuncId → List Arg → Option Out} {d : Nat} {s : St} {f : FuncId} {vs vs' : List AV} {v : AV} (ht : vs.all isLent = true) (e : vs.map loosen = vs') (hc : call f (vs'.map Arg.tree) = some (.tree v, vs.map fun _ => [])) : callA cfg0 call d s f vs = some (v, s) := by
  have e2 : (vs.map fun v => Arg.tree (loosen v)) = vs'.map .tree := by rw [← e]; simp
  have h1 := argsA_loose f s vs 0 ht
  have h2 := gives_loose vs
  have h3 := lends_loose vs ht
  have h4 := back_loose s vs
  rw [e2] at h1 h2 h3 h4
  simp only [callA, h1, Option.bind_some, h2, h3, List.nodup_nil, List.not_mem_nil, false_implies, implies_true, and_self, if_true, hc, List.foldl_nil, ite_self, h4, resA]
theorem Ap.lent {s : St} {d : Nat} {x : AV} {us : List T} (h : Ap s d x us) : isLent x = true ∧ loosen x = .sl (cellsK us) us.length (gr (kgOf us)) := by
  rcases h with ⟨rfl, rfl⟩ | ⟨hu, t, rfl, _⟩
  · exact ⟨rfl, rfl⟩
  · exact ⟨rfl, by simp only [loosen, kgOf, if_neg hu, gr]⟩
theorem lent_T (t : T) : isLent (.agg (cellsT t)) = true := rfl
def one26 (x : AV) : Option AV := (fillA (fun i => some (i * 6, 6)) (rep 1 zeroT6) [(0, x)]).map (.sl · 1 .tight)
theorem one26_T (e : T) : one26 (.agg (cellsT e)) = some (.sl (cellsT e) 1 .tight) := bs1T e
theorem one26_K (e : T) : one26 (.agg (cellsT e)) = some (.sl (cellsK [e]) [e].length .tight) := by
  rw [one26_T]; simp [cellsK]
theorem opA_one26 (call : FuncId → List Arg → Option Out) (q : Bool) (d : Option Tmp) (ty : TypeId) (pos : String) (af : Array Edge) (g : Option (Nat × Bool)) (t : Nat) (env : Env) (s : St) (x : Operand) :
    opA Tryz.prog cfg0 call q ⟨d, .buildSlice 22 1 #[(0, x)], ty, pos, af, g⟩ t env s = (one26 (ev env x)).map (·, s) := by
  rw [opA_bs]
  simp only [tkTk, eszT, zeroT, Option.bind_some, List.map_cons, List.map_nil]
  rfl
def txtT (s : List UInt8) : List T := s.map fun c => smallT (c.toNat : Int)
theorem txt_len (s : List UInt8) : (txtT s).length = s.length := List.length_map _
theorem u8_64 (c : UInt8) : I64 (c.toNat : Int) := by
  have := c.toNat_lt
  exact ⟨by omega, by omega⟩
set_option maxHeartbeats 4000000 in
theorem btext_eq (n d : Nat) (hn : 100000 ≤ n) (s : List UInt8) (hs : s.length ≤ 10000) : evalFn Tryz.prog cfg0 n (d+5) 93 [.tree (.str s)] = some (.tree (encT (listT (txtT s) nilT')), [[]]) := by
  rw [evalFn_go _ Tryz.func93 (by unfold Tryz.f93; rfl) (by unfold Tryz.f93; decide) (Nat.le_of_ble_eq_true (by unfold Tryz.f93; rfl)) (by kernel_rfl)]
  have ce := fun D st => callA_trees (cfg := cfg0) (d := D) (s := st) (f := 92) (vs := []) rfl (empty_eq n (d+3))
  simp only [encT] at ce
  simp only [simB, zbo, Nat.reduceBEq, own0, ↓reduceIte, Nat.reduceEqDiff, Nat.reduceAdd, simA, simL, simN, Nat.zero_add, zeroT, len9, den_loop]
  refine loop_ends (X := Nat) (fun i env st => env 0 = .str s ∧ env 2 = .ptr 2 1 0 ∧ env 6 = .int .i64 (s.length : Int) ∧ env 7 = .int .i64 (i : Int) ∧ Ap st 17 (env 3) (txtT (s.take i)) ∧ st 2 = ⟨1, .buf [.int .i64 0, .bool false, .sl [] 0 .nil, .str [], .int .i64 0, .sl [] 0 .nil]⟩ ∧ i ≤ s.length) (fun i => s.length - i) (fun _ => (.tree (encT (listT (txtT s) nilT')), [[]])) ?_ n 0 _ _ (by omega) ⟨(by simp only [zfr, ↓reduceIte, Nat.reduceEqDiff, env0, List.getElem?_cons_zero]; try rfl), (by simp only [zfr, ↓reduceIte, Nat.reduceEqDiff]; try rfl), (by simp only [zfr, ↓reduceIte, Nat.reduceEqDiff]; try rfl), (by simp only [zfr, ↓reduceIte, Nat.reduceEqDiff]; try rfl), .inl ⟨rfl, (by simp only [zfr, ↓reduceIte, Nat.reduceEqDiff]; try rfl)⟩, (by simp only [zfr, ↓reduceIte, Nat.reduceEqDiff]; try rfl), Nat.zero_le _⟩
  intro rr i hr ih env st ⟨e0, e2, e6, e7, ap, j2, hi⟩
  by_cases hlt : i < s.length
  · have q1 : (i : Int) < (s.length : Int) := by omega
    have q2 : (0 : Int) ≤ (i : Int) := by omega
    have c8 := (s.getD i 0).toNat_lt
    have cv := fun st => conv5_3 st (s.getD i 0).toNat (by omega)
    have c1 := fun D st => callA_trees (cfg := cfg0) (d := D) (s := st) (f := 52) (vs := [.int .i64 ((s.getD i 0).toNat : Int)]) rfl (number_eq n d hn _ (u8_64 (s.getD i 0)))
    simp only [encT] at c1
    obtain ⟨x', s', a1, a2, a3⟩ := ap.push (by rw [txt_len, List.length_take]; omega) (smallT ((s.getD i 0).toNat : Int))
    have f5 := i_add Tryz.prog 3 (i : Int) 1 (by omega) (by omega)
    have hm : txtT (s.take (i + 1)) = txtT (s.take i) ++ [smallT ((s.getD i 0).toNat : Int)] := by
      rw [List.take_succ_eq_append_getElem hlt, txtT, List.map_append, List.getD_eq_getElem?_getD, List.getElem?_eq_getElem hlt]; rfl
    simp only [simB, zbo, Nat.reduceBEq, own0, ↓reduceIte, Nat.reduceEqDiff, Nat.reduceAdd, simL, simN, Nat.zero_add, zex, List.toList_toArray, len9, ix9, zey, zez, zfa, zfb, zfc, e0, e2, e6, e7, q1, q2, and_self, Int.toNat_natCast, cv, c1, opA_one26, one26_T, a1, f5]
    exact ih (i + 1) _ _ (by omega) rfl ⟨(by simp only [zfr, ↓reduceIte, Nat.reduceEqDiff, e0]; try rfl), (by simp only [zfr, ↓reduceIte, Nat.reduceEqDiff, e2]; try rfl), (by simp only [zfr, ↓reduceIte, Nat.reduceEqDiff, e6]; try rfl), (by simp only [zfr, ↓reduceIte, Nat.reduceEqDiff]; try rfl), by rw [hm]; exact a2, by rw [a3 2 (by decide)]; exact j2, by omega⟩
  have hie : i = s.length := by omega
  subst hie
  have q1 : ¬ (s.length : Int) < (s.length : Int) := by omega
  rw [List.take_length] at ap
  obtain ⟨hl1, hl2⟩ := ap.lent
  have cl := fun D st => callA_loose (call := evalFn Tryz.prog cfg0 n (d+4)) (d := D) (s := st) (f := 91) (vs := [env 3, encT nilT']) (vs' := [.sl (cellsK (txtT s)) (txtT s).length (gr (kgOf (txtT s))), encT nilT']) (by simp only [List.all_cons, hl1, encT, lent_T, List.all_nil, Bool.and_self]) (by simp only [List.map_cons, hl2]; rfl) (tList_eq n (d+3) (txtT s) _ nilT' (by rw [txt_len]; omega))
  simp only [encT] at cl
  simp only [simB, zbo, Nat.reduceBEq, own0, ↓reduceIte, Nat.reduceEqDiff, Nat.reduceAdd, simL, simN, Nat.zero_add, e0, e2, e6, e7, j2, q1, ce, cl, st_Tt, stT_6]
  exact finish_cT _ _ _ _ _ (listT (txtT s) nilT') _ _ _ (by simp only [zfr, ↓reduceIte, Nat.reduceEqDiff, e2]; try rfl) (by simp only [zfr, ↓reduceIte, Nat.reduceEqDiff]; try rfl) rfl
end Go.Ab

/- The reference's Int, Neg, Bits; copies of numbers. Conditions: limbs in range. -/
namespace Go.Ab
open Go.Proofs
set_option maxRecDepth 100000
set_option linter.unusedSimpArgs false

theorem bd_2T (b : Bool) (l : List Nat) (p t : Nat) : buildA Tryz.prog 27 [(0, .bool b), (1, .sl (encC l) l.length (.tok p t))] = some (encA b .l l) := by
  simp only [buildA, zew, tk24, pl24, Option.bind_some]
  rfl
set_option maxHeartbeats 2000000 in
theorem copyN_eq (n d : Nat) (b : Bool) (g : Gk) (l : List Nat) (hl : l.length ≤ 1000000) : evalFn Tryz.prog cfg0 n (d+2) 50 [.tree (encA b g l)] = some (.tree (encA b .l l), [[]]) := by
  rw [evalFn_go _ Tryz.func50 (by unfold Tryz.f50; rfl) (by unfold Tryz.f50; decide) (Nat.le_of_ble_eq_true (by unfold Tryz.f50; rfl)) (by kernel_rfl)]
  have c1 := fun D s => cLimbsT n d (sh_L g l) hl D s
  have kp : cfg0.keep 79 = true := by kernel_rfl
  have it : [encL g l].all isTree = true := by cases g <;> rfl
  simp only [simB, zbo, Nat.reduceBEq, own0, ↓reduceIte, Nat.reduceEqDiff, Nat.reduceAdd, simA, simL, simN, Nat.zero_add, st0_1, kp, it, c1, bd_2T]
  exact finish_c _ _ 2 2 1 _ _ _ _ _ (by simp only [zfr, ↓reduceIte, Nat.reduceEqDiff]) (by simp only [zfr, ↓reduceIte, Nat.reduceEqDiff]) rfl
set_option maxHeartbeats 4000000 in
theorem rint_eq (n d : Nat) (hn : 100000 ≤ n) {w : AV} {z : Int} (hw : IsN w z) : evalFn Tryz.prog cfg0 n (d+3) 59 [.tree w] = some (.tree (intZ z), [[]]) := by
  obtain ⟨g, c1⟩ := cRis n d hw
  have hlt := hw.lt
  obtain ⟨neg0, g0, l0, rfl, _, _⟩ := hw
  rw [evalFn_go _ Tryz.func59 (by unfold Tryz.f59; rfl) (by unfold Tryz.f59; decide) (Nat.le_of_ble_eq_true (by unfold Tryz.f59; rfl)) (by kernel_rfl)]
  have hl := limbs_digs z.natAbs
  have hv := val_digs z.natAbs
  have hdl : ∀ k, (digs z.natAbs).length ≤ k ↔ z.natAbs < B ^ k := digs_len_le z.natAbs
  obtain ⟨l, hle⟩ : ∃ l, digs z.natAbs = l := ⟨_, rfl⟩
  rw [hle] at hl hv hdl
  by_cases h2 : (l.length : Int) > 2
  · have hb : ¬ z.natAbs < B ^ 2 := fun h => by have := (hdl 2).mpr h; omega
    have e : B ^ 2 = 18446744073709551616 := by decide
    rw [e] at hb
    have hi : isI64 z = false := by
      unfold isI64
      by_cases hz : z < 0
      · rw [decide_eq_false (show ¬ -9223372036854775808 ≤ z by omega)]; rfl
      · rw [decide_eq_false (show ¬ z < 9223372036854775808 by omega), Bool.and_false]
    rw [intZ, if_neg (by rw [hi]; decide)]
    simp only [simB, zbo, Nat.reduceBEq, own0, ↓reduceIte, Nat.reduceEqDiff, Nat.reduceAdd, simA, simL, simN, Nat.zero_add, st0_1, c1, hle, h2]
    exact finish_ib _ _ _ _ _ _ _ _ _ (by simp only [zfr, ↓reduceIte, Nat.reduceEqDiff]) (by simp only [zfr, ↓reduceIte, Nat.reduceEqDiff]) rfl
  have hx64 : z.natAbs < 18446744073709551616 := by rw [← hv]; exact len2_val l hl (by omega)
  have b0 := i_sub Tryz.prog 3 (l.length : Int) 1 (by omega) (by omega)
  simp only [simB, zbo, Nat.reduceBEq, own0, ↓reduceIte, Nat.reduceEqDiff, Nat.reduceAdd, simA, simL, simN, Nat.zero_add, st0_1, c1, hle, h2, b0, den_loop]
  refine loop_ends (X := Nat) (fun j env s => env 4 = .ptr 4 1 0 ∧ s 4 = ⟨1, .buf [.bool (decide (z < 0)), encL g l]⟩ ∧ env 6 = .int .i64 ((j : Int) - 1) ∧ env 5 = .int .u64 (val (l.drop j) : Int) ∧ j ≤ l.length ∧ outsA s 0 [.tree (encA neg0 g0 l0)] = some [[]]) (fun j => j) (fun _ => (.tree (intZ z), [[]])) ?_ n l.length _ _ (by omega) ⟨by simp only [zfr, ↓reduceIte, Nat.reduceEqDiff], by simp only [zfr, ↓reduceIte, Nat.reduceEqDiff], by simp only [zfr, ↓reduceIte, Nat.reduceEqDiff], by rw [List.drop_length]; simp only [zfr, ↓reduceIte, Nat.reduceEqDiff]; rfl, Nat.le_refl _, rfl⟩
  intro k j hx ih env s ⟨e4, hs, e6, e5, hj, ho⟩
  by_cases hp : j = 0
  · subst hp
    have q1 : ¬ ((0 : Nat) : Int) - 1 ≥ 0 := by omega
    rw [List.drop_zero, hv] at e5
    by_cases hz : z < 0
    · by_cases hr : z.natAbs ≤ 9223372036854775808
      · have hr' : (z.natAbs : Int) ≤ 9223372036854775808 := by omega
        have u := un_neg64 z.natAbs (by omega)
        rw [Nat.mod_eq_of_lt (by omega)] at u
        have c2 := fun s => conv55_3 s (18446744073709551616 - z.natAbs) (by omega)
        simp only [if_neg (show ¬ 18446744073709551616 - z.natAbs < 9223372036854775808 by omega), show ((18446744073709551616 - z.natAbs : Nat) : Int) - 18446744073709551616 = z by omega] at c2
        have hi : isI64 z = true := by
          unfold isI64
          rw [decide_eq_true (show -9223372036854775808 ≤ z by omega), decide_eq_true (show z < 9223372036854775808 by omega)]; rfl
        rw [intZ, if_pos hi]
        simp only [simB, zbo, Nat.reduceBEq, own0, ↓reduceIte, Nat.reduceEqDiff, Nat.reduceAdd, simL, simN, Nat.zero_add, e4, hs, e6, e5, q1, hz, hr', u, c2]
        exact finish_ib _ _ _ _ _ _ _ _ _ (by simp only [zfr, ↓reduceIte, Nat.reduceEqDiff]) (by simp only [zfr, ↓reduceIte, Nat.reduceEqDiff]) ho
      · have hr' : ¬ (z.natAbs : Int) ≤ 9223372036854775808 := by omega
        have hi : isI64 z = false := by
          unfold isI64
          rw [decide_eq_false (show ¬ -9223372036854775808 ≤ z by omega)]; rfl
        rw [intZ, if_neg (by rw [hi]; decide)]
        simp only [simB, zbo, Nat.reduceBEq, own0, ↓reduceIte, Nat.reduceEqDiff, Nat.reduceAdd, simL, simN, Nat.zero_add, e4, hs, e6, e5, q1, hz, hr', unA_not', Bool.not_true, Bool.not_false]
        exact finish_ib _ _ _ _ _ _ _ _ _ (by simp only [zfr, ↓reduceIte, Nat.reduceEqDiff]) (by simp only [zfr, ↓reduceIte, Nat.reduceEqDiff]) ho
    · by_cases hr : z.natAbs < 9223372036854775808
      · have hr' : (z.natAbs : Int) < 9223372036854775808 := by omega
        have c2 := fun s => conv55_3 s z.natAbs (by omega)
        simp only [if_pos hr, show ((z.natAbs : Nat) : Int) = z by omega] at c2
        have hi : isI64 z = true := by
          unfold isI64
          rw [decide_eq_true (show -9223372036854775808 ≤ z by omega), decide_eq_true (show z < 9223372036854775808 by omega)]; rfl
        rw [intZ, if_pos hi]
        rw [show ((z.natAbs : Nat) : Int) = z by omega] at e5 hr'
        simp only [simB, zbo, Nat.reduceBEq, own0, ↓reduceIte, Nat.reduceEqDiff, Nat.reduceAdd, simL, simN, Nat.zero_add, e4, hs, e6, e5, q1, hz, hr', c2, unA_not', Bool.not_true, Bool.not_false]
        exact finish_ib _ _ _ _ _ _ _ _ _ (by simp only [zfr, ↓reduceIte, Nat.reduceEqDiff]) (by simp only [zfr, ↓reduceIte, Nat.reduceEqDiff]) ho
      · have hr' : ¬ (z.natAbs : Int) < 9223372036854775808 := by omega
        have hi : isI64 z = false := by
          unfold isI64
          rw [decide_eq_false (show ¬ z < 9223372036854775808 by omega), Bool.and_false]
        rw [intZ, if_neg (by rw [hi]; decide)]
        simp only [simB, zbo, Nat.reduceBEq, own0, ↓reduceIte, Nat.reduceEqDiff, Nat.reduceAdd, simL, simN, Nat.zero_add, e4, hs, e6, e5, q1, hz, hr', unA_not', Bool.not_true, Bool.not_false]
        exact finish_ib _ _ _ _ _ _ _ _ _ (by simp only [zfr, ↓reduceIte, Nat.reduceEqDiff]) (by simp only [zfr, ↓reduceIte, Nat.reduceEqDiff]) ho
  · obtain ⟨i, rfl⟩ : ∃ i, j = i + 1 := ⟨j - 1, by omega⟩
    have ei : ((i + 1 : Nat) : Int) - 1 = (i : Int) := by omega
    rw [ei] at e6
    have q1 : (i : Int) ≥ 0 := by omega
    have q2 : (0 : Int) ≤ (i : Int) := by omega
    have q3 : i < l.length := by omega
    have q4 : (i : Int) < (l.length : Int) := by omega
    have hxi := getD_lt l hl i
    have hd : l.drop i = l.getD i 0 :: l.drop (i + 1) := by
      rw [List.drop_eq_getElem_cons q3, List.getD_eq_getElem?_getD, List.getElem?_eq_getElem q3]; rfl
    have hvd : val (l.drop i) = l.getD i 0 + B * val (l.drop (i + 1)) := by rw [hd]; rfl
    have hB : B = 4294967296 := rfl
    have h64 : val (l.drop i) < 18446744073709551616 := len2_val _ (fun x hx => hl x (List.mem_of_mem_drop hx)) (by rw [List.length_drop]; omega)
    have m2 := u_shl Tryz.prog 96 (val (l.drop (i + 1))) .u64 32 (by decide) (by decide)
    rw [show (2 : Nat) ^ (32 : Int).toNat = 4294967296 from rfl, Nat.mod_eq_of_lt (by rw [hvd, hB] at h64; omega)] at m2
    have m3 := u_add Tryz.prog 96 (val (l.drop (i + 1)) * 4294967296) (l.getD i 0)
    rw [show val (l.drop (i + 1)) * 4294967296 + l.getD i 0 = val (l.drop i) by rw [hvd, hB]; omega, Nat.mod_eq_of_lt h64] at m3
    have f4 := i_sub Tryz.prog 3 (i : Int) 1 (by omega) (by omega)
    simp only [simB, zbo, Nat.reduceBEq, own0, ↓reduceIte, Nat.reduceEqDiff, Nat.reduceAdd, simL, simN, Nat.zero_add, e4, hs, e6, e5, q1, q2, q3, q4, Int.toNat_natCast, hxi, m2, m3, f4]
    refine ih i _ _ (by omega) rfl ⟨?_, hs, ?_, ?_, by omega, ho⟩
    · simp only [zfr, ↓reduceIte, Nat.reduceEqDiff, e4]
    · simp only [zfr, ↓reduceIte, Nat.reduceEqDiff]
    · simp only [zfr, ↓reduceIte, Nat.reduceEqDiff]
theorem cRint (n d : Nat) (hn : 100000 ≤ n) {w : AV} {z : Int} (hw : IsN w z) (D : Nat) (s : St) : callA cfg0 (evalFn Tryz.prog cfg0 n (d+3)) D s 59 [w] = some (intZ z, s) :=
  callA_trees (by simp [hw.tree]) (rint_eq n d hn hw)
end Go.Ab

/- The reference's Div. Conditions: limbs in range, not too many. -/
namespace Go.Ab
open Go.Proofs
set_option maxRecDepth 100000
set_option linter.unusedSimpArgs false

def encQ (bits r : Nat) : AV := if bits = 0 then .sl [] 0 .nil else encF r
theorem encQ_num (bits r k : Nat) (hk : k ≤ 1000) (h : r < B ^ k) (h0 : bits = 0 → r = 0) : Num (encQ bits r) r := by
  unfold encQ
  split
  · rename_i hb
    rw [h0 hb]; exact num_nil
  · exact num_F r k hk h
theorem settle_Q (s : St) (bits r : Nat) : settle s (encQ bits r) = some (encQ bits r, s) := by
  unfold encQ; split <;> rfl
theorem finish_FQ (k : Bool) (xs : List Arg) (t t' : Nat) (env : Env) (s : St) (v bits v' : Nat) (os : List (List AV)) (hv : env t = encF v) (hv' : env t' = encQ bits v') (ho : outsA s 0 xs = some os) :
    finishP Tryz.prog k xs #[.tmp t, .tmp t'] env s = some (.tree (.tup [encF v, encQ bits v']), os) := by
  have e : settle s (encF v) = some (encF v, s) := settle_L s _ _
  simp only [finishP_t1, finishP_t2, finish, List.mapM_cons, List.mapM_nil, hv, hv', Option.pure_def, Option.bind_eq_bind, Option.bind_some, settleL, e, settle_Q, Option.map_some, ho]
theorem encQ_pos (bits r : Nat) (h : bits ≠ 0) : encQ bits r = encF r := if_neg h
theorem finish_nil2 (k : Bool) (xs : List Arg) (t t' : Nat) (env : Env) (s : St) (os : List (List AV)) (hv : env t = .sl [] 0 .nil) (hv' : env t' = .sl [] 0 .nil) (ho : outsA s 0 xs = some os) :
    finishP Tryz.prog k xs #[.tmp t, .tmp t'] env s = some (.tree (.tup [.sl [] 0 .nil, .sl [] 0 .nil]), os) := by
  simp only [finishP_t1, finishP_t2, finish, List.mapM_cons, List.mapM_nil, hv, hv', Option.pure_def, Option.bind_eq_bind, Option.bind_some, settleL, settle, Option.map_some, ho]
def divR (x y : Nat) : AV := if y = 0 then .tup [.sl [] 0 .nil, .sl [] 0 .nil] else .tup [encF (x / y), encQ (blen x) (x % y)]
theorem rdiv_eq (n d : Nat) (b b' : Gk) (l m : List Nat) (hl : Limbs l) (hm : Limbs m) (hn : 100000 ≤ n) (hll : l.length ≤ 900) (hml : m.length ≤ 900) :
    evalFn Tryz.prog cfg0 n (d+4) 84 [.tree (encL b l), .tree (encL b' m)] = some (.tree (divR (val l) (val m)), [[], []]) := by
  rw [evalFn_go _ Tryz.func84 (by unfold Tryz.f84; rfl) (by unfold Tryz.f84; decide) (Nat.le_of_ble_eq_true (by unfold Tryz.f84; rfl)) (by kernel_rfl)]
  have c1 := rnorm_call n (d + 2) b' m hm (by omega) (by omega)
  by_cases hz : val m = 0
  · have p1 : (((digs (val m)).length : Int) == 0) = true := by rw [hz, digs_0]; rfl
    simp only [simB, zbo, Nat.reduceBEq, own0, ↓reduceIte, Nat.reduceEqDiff, Nat.reduceAdd, simA, simL, c1, lenF, p1]
    rw [divR, if_pos hz]
    exact finish_nil2 _ _ _ _ _ _ _ (by simp only [zfr, ↓reduceIte, Nat.reduceEqDiff]) (by simp only [zfr, ↓reduceIte, Nat.reduceEqDiff]) rfl
  have p1 : (((digs (val m)).length : Int) == 0) = false := by
    rw [beq_eq_false_iff_ne]
    intro h
    exact hz ((digs_len0 _).mp (by omega))
  rw [divR, if_neg hz]
  have e2 := make22 15 dead (l.length : Int) (by omega) (by omega)
  rw [Int.toNat_natCast] at e2
  have e3 : (dead 15).t + 1 = 1 := rfl
  have c2 := fun D s => rcLen n (d + 1) hn D s (num_L b l hl (by omega))
  have hbl : blen (val l) ≤ 32 * l.length := blen_le _ _ (by rw [← B_pow]; exact val_lt l hl)
  have e4 := i_sub Tryz.prog 3 (blen (val l) : Int) 1 (by omega) (by omega)
  have hmB : val m < B ^ m.length := val_lt m hm
  have nm := num_L b' m hm (by omega)
  simp only [simB, zbo, Nat.reduceBEq, own0, ↓reduceIte, Nat.reduceEqDiff, Nat.reduceAdd, simA, simL, st0_2, c1, c2, lenF, p1, e2, e3, e4, den_loop]
  obtain ⟨bl, hbq⟩ : ∃ bl, bl = blen (val l) := ⟨_, rfl⟩
  rw [← hbq] at hbl ⊢
  refine loop_ends (X := Nat × Nat × List Nat × Nat) (fun x env s => env 0 = encL b l ∧ env 1 = encL b' m ∧ env 8 = .int .i64 ((x.1 : Int) - 1) ∧ env 7 = encQ (bl - x.1) x.2.1 ∧ env 6 = .own 15 1 0 l.length 1 ∧ s 15 = ⟨1, .buf (encC x.2.2.1)⟩ ∧ x.1 ≤ bl ∧ x.2.1 < val m ∧ (x.1 = bl → x.2.1 = 0) ∧ x.2.2.1.length = l.length ∧ Limbs x.2.2.1 ∧ val x.2.2.1 = x.2.2.2 * 2 ^ x.1 ∧ val l / 2 ^ x.1 = x.2.2.2 * val m + x.2.1) (fun x => x.1) (fun _ => (.tree (.tup [encF (val l / val m), encQ bl (val l % val m)]), [[], []])) ?_ n (bl, 0, List.replicate l.length 0, 0) _ _ (by simp only; omega) ⟨rfl, rfl, rfl, by simp only [Nat.sub_self]; rfl, rfl, rfl, Nat.le_refl _, by simp only; omega, fun _ => rfl, by simp, ?_, by simp [val_rep], ?_⟩
  rotate_left
  · intro x hx; rw [List.eq_of_mem_replicate hx]; decide
  · simp only [Nat.zero_mul, Nat.zero_add]; rw [hbq]; exact Nat.div_eq_of_lt (lt_blen _)
  intro k' ⟨x, r, o, Q⟩ hx ih env s ⟨h0, h1, h7, h5, h6, hs, hi, hr, hr0, hol, hoL, hQ, hA⟩
  simp only at h0 h1 h7 h5 h6 hs hi hr hr0 hol hoL hQ hA hx
  by_cases hp : x = 0
  · subst hp
    have q1 : ¬ (((0 : Nat) : Int) - 1 ≥ 0) := by omega
    obtain ⟨s9, e9⟩ := rnorm_hold n (d + 2) s (.own 15 1 0 l.length 1) o (.inr (.inr ⟨15, 1, by rw [hol], hs⟩)) hoL (by omega) (by omega) 61
    rw [Nat.sub_zero] at h5
    simp only [simB, zbo, Nat.reduceBEq, own0, ↓reduceIte, Nat.reduceEqDiff, Nat.reduceAdd, simL, h0, h1, h7, h5, h6, q1, e9]
    have hq : val l / val m = val o ∧ val l % val m = r := by
      rw [Nat.pow_zero, Nat.div_one] at hA
      rw [Nat.pow_zero, Nat.mul_one] at hQ
      rw [hA, hQ, Nat.mul_comm]
      constructor
      · rw [Nat.mul_add_div (by omega), Nat.div_eq_of_lt hr, Nat.add_zero]
      · rw [Nat.mul_add_mod, Nat.mod_eq_of_lt hr]
    rw [hq.1, hq.2]
    exact finish_FQ _ _ _ _ _ _ _ _ _ _ (by simp only [zfr, ↓reduceIte, Nat.reduceEqDiff]) (by simp only [zfr, ↓reduceIte]) rfl
  · obtain ⟨y, rfl⟩ : ∃ y, x = y + 1 := ⟨x - 1, by omega⟩
    have p2 : ((y + 1 : Nat) : Int) - 1 = (y : Int) := by omega
    rw [p2] at h7
    have p6 : (y : Int) ≥ 0 := by omega
    have p3 : ((y / 32 : Nat) : Int) < l.length := by omega
    have p4 : y / 32 < l.length := by omega
    have p7 : (0 : Int) ≤ ((y / 32 : Nat) : Int) := by omega
    have g0 := i_sub Tryz.prog 3 (y : Int) 1 (by omega) (by omega)
    have g1 := i_quo Tryz.prog 3 y 32 (by decide) (by omega)
    have g2 := i_rem Tryz.prog 3 y 32 (by decide)
    rw [show ((32 : Nat) : Int) = 32 from rfl] at g1 g2
    have h900 : B ^ m.length * 4 ≤ B ^ (m.length + 1) := by
      rw [Nat.pow_succ]
      exact Nat.mul_le_mul_left _ (by decide)
    have hk1 : m.length + 1 ≤ 1000 := by omega
    have hrB : r < B ^ (m.length + 1) := by generalize B ^ (m.length + 1) = b1 at *; generalize B ^ m.length = b2 at *; omega
    have hr2 : r * 2 ^ 1 < B ^ (m.length + 1) := by generalize B ^ (m.length + 1) = b1 at *; generalize B ^ m.length = b2 at *; omega
    have hr3 : r * 2 ^ 1 + 1 < B ^ (m.length + 1) := by generalize B ^ (m.length + 1) = b1 at *; generalize B ^ m.length = b2 at *; omega
    have nq : Num (encQ (bl - (y + 1)) r) r := encQ_num _ r _ hk1 hrB (fun h => hr0 (by omega))
    have c3 := fun D s => rcShl n (d + 1) hn D s nq 1
    rw [shn_1] at c3
    have e10 : ∀ s, convA Tryz.prog 3 97 s (.int .i64 ((y % 32 : Nat) : Int)) = some (.int .u64 ((y % 32 : Nat) : Int)) := fun s => conv3_42 s _ (by omega)
    have hlw := getD_lt l hl (y / 32)
    have g3 := s_shr Tryz.prog 57 (l.getD (y / 32) 0) .u64 ((y % 32 : Nat) : Int) (by omega) (by omega)
    rw [Int.toNat_natCast] at g3
    have g4 := s_and1 Tryz.prog 57 (l.getD (y / 32) 0 / 2 ^ (y % 32)) (Nat.lt_of_le_of_lt (Nat.div_le_self _ _) hlw)
    rw [bit_limb l hl] at g4
    have hbit := div_pow1 (val l) y
    have hb01 : val l / 2 ^ y % 2 < 2 := Nat.mod_lt _ (by decide)
    generalize val l / 2 ^ y % 2 = bit at *
    rw [hA] at hbit
    -- the remainder with the next bit
    have one1 : Num (.sl [.int .u32 1] 1 .tight) 1 := ⟨[1], ⟨_, rfl⟩, limbs_one (by decide), by decide, rfl⟩
    have c4 := fun D s => rcAdd n (d + 1) hn D s (num_F (r * 2 ^ 1) _ hk1 hr2) one1
    have hnew : val l / 2 ^ y = 2 * Q * val m + (r * 2 ^ 1 + bit) := by
      rw [hbit, Nat.mul_add, Nat.mul_assoc]; omega
    have hr4 : r * 2 ^ 1 + bit < B ^ (m.length + 1) := by generalize B ^ (m.length + 1) = b1 at *; omega
    have c5 := fun D s => rcCmp n (d + 1) hn D s (num_F (r * 2 ^ 1 + bit) _ hk1 hr4) nm
    have c6 := fun D s => rcSub n d hn D s (num_F (r * 2 ^ 1 + bit) _ hk1 hr4) nm
    have t1 := ia_own s 15 1 _ l.length .i64 ((y / 32 : Nat) : Int) hs p7 p3
    rw [Int.toNat_natCast] at t1
    have t2 := ld_own s 15 1 o (y / 32) hs (by omega)
    have t3 := s_shl1 Tryz.prog 57 .u64 (y % 32) (Nat.mod_lt _ (by decide))
    have hob := or_bit o hoL y Q hQ
    have t4 := s_or Tryz.prog 57 (o.getD (y / 32) 0) (2 ^ (y % 32)) (getD_lt o hoL _) (show 2 ^ (y % 32) < 2 ^ 32 from Nat.pow_lt_pow_right (by decide) (Nat.mod_lt _ (by decide)))
    have t5 := st31 s 15 1 _ (y / 32) (o.getD (y / 32) 0 ||| 2 ^ (y % 32)) hs (by omega)
    have hset := div_set o hoL y Q (by omega) hQ
    have hQ2 : val o = 2 * Q * 2 ^ y := by rw [hQ, pow1, Nat.mul_comm 2 Q, Nat.mul_assoc]
    have hbp : bl - y ≠ 0 := by omega
    by_cases hbz : bit = 0
    · have p5 : ((bit : Int) == 1) = false := by rw [hbz]; rfl
      have hb0 : r * 2 ^ 1 + bit = r * 2 ^ 1 := by omega
      rw [hb0] at c5 c6 hnew
      by_cases hlt : r * 2 ^ 1 < val m
      · have z1 : ¬ cmpZ (r * 2 ^ 1) (val m) ≥ 0 := by have := (cmpZ_lt (r * 2 ^ 1) (val m)).mpr hlt; omega
        simp only [simB, zbo, Nat.reduceBEq, own0, ↓reduceIte, Nat.reduceEqDiff, Nat.reduceAdd, simL, h0, h1, h7, h5, h6, p6, c3, g1, g2, e10, p7, p3, p4, Int.toNat_natCast, g3, bit_limb l hl, g4, p5, c5, z1, g0]
        refine ih (y, r * 2 ^ 1, o, 2 * Q) _ _ (by simp only; omega) rfl ⟨?_, ?_, ?_, ?_, ?_, hs, ?_, hlt, ?_, hol, hoL, hQ2, hnew⟩
        · simp only [zfr, ↓reduceIte, Nat.reduceEqDiff, h0]
        · simp only [zfr, ↓reduceIte, Nat.reduceEqDiff, h1]
        · simp only [zfr, ↓reduceIte, Nat.reduceEqDiff]
        · simp only [zfr, ↓reduceIte, Nat.reduceEqDiff, encQ_pos _ _ hbp]
        · simp only [zfr, ↓reduceIte, Nat.reduceEqDiff, h6]
        · simp only; omega
        · simp only; omega
      · have z1 : cmpZ (r * 2 ^ 1) (val m) ≥ 0 := Int.not_lt.mp fun h => hlt ((cmpZ_lt _ _).mp h)
        rw [encS, if_neg hlt] at c6
        simp only [simB, zbo, Nat.reduceBEq, own0, ↓reduceIte, Nat.reduceEqDiff, Nat.reduceAdd, simL, h0, h1, h7, h5, h6, p6, c3, g1, g2, e10, p7, p3, p4, Int.toNat_natCast, g3, bit_limb l hl, g4, p5, c5, z1, g0, c6, t1, t2, t3, t4, t5]
        refine ih (y, r * 2 ^ 1 - val m, o.set (y / 32) (o.getD (y / 32) 0 ||| 2 ^ (y % 32)), 2 * Q + 1) _ _ (by simp only; omega) rfl ⟨?_, ?_, ?_, ?_, ?_, ?_, ?_, ?_, ?_, ?_, ?_, hset, ?_⟩
        · simp only [zfr, ↓reduceIte, Nat.reduceEqDiff, h0]
        · simp only [zfr, ↓reduceIte, Nat.reduceEqDiff, h1]
        · simp only [zfr, ↓reduceIte, Nat.reduceEqDiff]
        · simp only [zfr, ↓reduceIte, Nat.reduceEqDiff, encQ_pos _ _ hbp]
        · simp only [zfr, ↓reduceIte, Nat.reduceEqDiff, h6]
        · rw [upd_self]
        · simp only; omega
        · simp only; omega
        · simp only; omega
        · simp only [List.length_set]; exact hol
        · exact limbs_set _ hoL _ _ hob.2
        · simp only; rw [hnew, Nat.add_mul, Nat.one_mul]; omega
    · have hb1 : bit = 1 := by omega
      have p5 : ((bit : Int) == 1) = true := by rw [hb1]; rfl
      rw [hb1] at c5 c6 hnew
      by_cases hlt : r * 2 ^ 1 + 1 < val m
      · have z1 : ¬ cmpZ (r * 2 ^ 1 + 1) (val m) ≥ 0 := by have := (cmpZ_lt (r * 2 ^ 1 + 1) (val m)).mpr hlt; omega
        simp only [simB, zbo, Nat.reduceBEq, own0, ↓reduceIte, Nat.reduceEqDiff, Nat.reduceAdd, simL, h0, h1, h7, h5, h6, p6, c3, g1, g2, e10, p7, p3, p4, Int.toNat_natCast, g3, bit_limb l hl, g4, p5, opA_one, one22_int, c4, c5, z1, g0]
        refine ih (y, r * 2 ^ 1 + 1, o, 2 * Q) _ _ (by simp only; omega) rfl ⟨?_, ?_, ?_, ?_, ?_, hs, ?_, hlt, ?_, hol, hoL, hQ2, hnew⟩
        · simp only [zfr, ↓reduceIte, Nat.reduceEqDiff, h0]
        · simp only [zfr, ↓reduceIte, Nat.reduceEqDiff, h1]
        · simp only [zfr, ↓reduceIte, Nat.reduceEqDiff]
        · simp only [zfr, ↓reduceIte, Nat.reduceEqDiff, encQ_pos _ _ hbp]
        · simp only [zfr, ↓reduceIte, Nat.reduceEqDiff, h6]
        · simp only; omega
        · simp only; omega
      · have z1 : cmpZ (r * 2 ^ 1 + 1) (val m) ≥ 0 := Int.not_lt.mp fun h => hlt ((cmpZ_lt _ _).mp h)
        rw [encS, if_neg hlt] at c6
        simp only [simB, zbo, Nat.reduceBEq, own0, ↓reduceIte, Nat.reduceEqDiff, Nat.reduceAdd, simL, h0, h1, h7, h5, h6, p6, c3, g1, g2, e10, p7, p3, p4, Int.toNat_natCast, g3, bit_limb l hl, g4, p5, opA_one, one22_int, c4, c5, z1, g0, c6, t1, t2, t3, t4, t5]
        refine ih (y, r * 2 ^ 1 + 1 - val m, o.set (y / 32) (o.getD (y / 32) 0 ||| 2 ^ (y % 32)), 2 * Q + 1) _ _ (by simp only; omega) rfl ⟨?_, ?_, ?_, ?_, ?_, ?_, ?_, ?_, ?_, ?_, ?_, hset, ?_⟩
        · simp only [zfr, ↓reduceIte, Nat.reduceEqDiff, h0]
        · simp only [zfr, ↓reduceIte, Nat.reduceEqDiff, h1]
        · simp only [zfr, ↓reduceIte, Nat.reduceEqDiff]
        · simp only [zfr, ↓reduceIte, Nat.reduceEqDiff, encQ_pos _ _ hbp]
        · simp only [zfr, ↓reduceIte, Nat.reduceEqDiff, h6]
        · rw [upd_self]
        · simp only; omega
        · simp only; omega
        · simp only; omega
        · simp only [List.length_set]; exact hol
        · exact limbs_set _ hoL _ _ hob.2
        · simp only; rw [hnew, Nat.add_mul, Nat.one_mul]; omega
end Go.Ab

/- The reference's sums, products, quotients of numbers. Conditions: limbs in range. -/
namespace Go.Ab
open Go.Proofs
set_option maxRecDepth 100000
set_option linter.unusedSimpArgs false

section
variable (n d : Nat) (hn : 100000 ≤ n)
include hn
end
section
variable (n d : Nat) (hn : 100000 ≤ n) {w w' : AV} {z z' : Int} (hw : IsN w z) (hw' : IsN w' z')
include hn hw hw'
set_option maxHeartbeats 8000000
end
end Go.Ab

/- Bits of numbers with signs, as so many limbs: plain arithmetic. -/
namespace Go.Ab
end Go.Ab

/- Bits with all ones, with nought, with themselves: plain arithmetic. -/
namespace Go.Ab
section
variable (n x : Nat) (h : x < 2 ^ n)
include h
end
section
variable (z : Int) (h : z.natAbs < B ^ 12)
include h
end
end Go.Ab

/- And, or, exclusive or together, of numbers with room: plain arithmetic. -/
namespace Go.Ab
end Go.Ab

/- Bits of numbers below 0, in so many bits as have room. Pure mathematics. -/
namespace Go.Ab
end Go.Ab

/- The reference's bits of numbers. Pure mathematics. -/
namespace Go.Ab
def f3 (op : Nat) (p q : Bool) : Bool := if op = 6 then p && q else if op = 7 then p || q else !(p == q)
section
variable {N op : Nat} {a b : Int} (ha : a.natAbs < 2 ^ N) (hb : b.natAbs < 2 ^ N)
include ha hb
end
end Go.Ab

/- The reference's bits: and, or, exclusive or, bit by bit. Conditions: limbs in range. -/
namespace Go.Ab
open Go.Proofs
set_option maxRecDepth 100000
set_option linter.unusedSimpArgs false

end Go.Ab

/- The reference's bits: the walk. Conditions: limbs in range. -/
namespace Go.Ab
open Go.Proofs
set_option maxRecDepth 100000
set_option linter.unusedSimpArgs false

end Go.Ab

/- The reference's shifts, and how far. Conditions: limbs in range. -/
namespace Go.Ab
open Go.Proofs
set_option maxRecDepth 100000
set_option linter.unusedSimpArgs false

-- Down.
-- Up.
end Go.Ab

/- And, or, exclusive or of limbs; a number's bits. Conditions: numbers that are shown. -/
namespace Go.Ab
open Go.Proofs
set_option maxRecDepth 100000
set_option linter.unusedSimpArgs false

end Go.Ab

/- A number's bits. Conditions: numbers that are shown. -/
namespace Go.Ab
open Go.Proofs
set_option maxRecDepth 100000
set_option linter.unusedSimpArgs false

end Go.Ab

/- Logic of numbers. Conditions: numbers that are shown. -/
namespace Go.Ab
open Go.Proofs
set_option maxRecDepth 100000
set_option linter.unusedSimpArgs false

end Go.Ab

/- Op: logic; the statements' own way to call it. Conditions: numbers that are shown. -/
namespace Go.Ab
open Go.Proofs
set_option maxRecDepth 100000
set_option linter.unusedSimpArgs false
section
variable (n d : Nat) (hn : 100000 ≤ n) {w w' : AV} {z z' : Int} (hw : IsN w z) (hw' : IsN w' z')
include hn hw hw'
set_option maxHeartbeats 8000000
end
end Go.Ab

/- Op: shifts. Conditions: numbers that are shown. -/
namespace Go.Ab
open Go.Proofs
set_option maxRecDepth 100000
set_option linter.unusedSimpArgs false
section
variable (n d : Nat) (hn : 100000 ≤ n) {w w' : AV} {z z' : Int} (hw : IsN w z) (hw' : IsN w' z')
include hn hw hw'
set_option maxHeartbeats 8000000
end
end Go.Ab

/- The reference's Op, any op; the program's, of an op that is none. Conditions: limbs in range. -/
namespace Go.Ab
open Go.Proofs
set_option maxRecDepth 100000
set_option linter.unusedSimpArgs false

section
variable (n d : Nat) (hn : 100000 ≤ n) {w w' : AV} {z z' : Int} (hw : IsN w z) (hw' : IsN w' z')
include hn hw hw'
set_option maxHeartbeats 8000000
end
end Go.Ab

/- The statement NumRooms, abstractly. Conditions: an int. -/
namespace Go.Ab
open Go.Proofs
set_option maxRecDepth 100000
set_option linter.unusedSimpArgs false

end Go.Ab

/- Op, any op: the program's and the reference's give the same number. Conditions: numbers that are shown. -/
namespace Go.Ab
open Go.Proofs
set_option maxRecDepth 100000
set_option linter.unusedSimpArgs false

section
variable (n d : Nat) (hn : 100000 ≤ n) {w w' : AV} {z z' : Int} (hw : IsN w z) (hw' : IsN w' z')
include hn hw hw'
set_option maxHeartbeats 8000000
end
end Go.Ab

/- The number statements' own example, by the kernel's own reckoning. No conditions. -/
namespace Go.Ab
open Go.Proofs
end Go.Ab

/- The statement NumOrders, abstractly. Conditions: limbs in range. -/
namespace Go.Ab
open Go.Proofs
set_option maxRecDepth 100000
set_option linter.unusedSimpArgs false

end Go.Ab

/- The statement NumAll, abstractly. Conditions: limbs in range, an int in range. -/
namespace Go.Ab
open Go.Proofs
set_option maxRecDepth 100000
set_option linter.unusedSimpArgs false

end Go.Ab

/- Numbers as texts. Pure mathematics. -/
namespace Go.Ab
def dg (n : Nat) : UInt8 := UInt8.ofNat (48 + n % 10)
theorem dg_nat (n : Nat) : (dg n).toNat = 48 + n % 10 := by
  unfold dg
  rw [UInt8.toNat_ofNat']
  have := Nat.mod_lt n (show 0 < 10 by decide)
  exact Nat.mod_eq_of_lt (by omega)
def decN (v : Nat) : List UInt8 := if _h : v = 0 then [] else decN (v / 10) ++ [dg v]
termination_by v
decreasing_by exact Nat.div_lt_self (by omega) (by decide)
theorem decN_0 : decN 0 = [] := by rw [decN]; rfl
theorem decN_pos (v : Nat) (h : v ≠ 0) : decN v = decN (v / 10) ++ [dg v] := by rw [decN, dif_neg h]
theorem decN_nil (v : Nat) : decN v = [] ↔ v = 0 := by
  constructor
  · intro h
    apply Classical.byContradiction
    intro h0
    rw [decN_pos v h0] at h
    simp at h
  · rintro rfl; exact decN_0
def textZ (z : Int) : List UInt8 := if z = 0 then [48] else if z < 0 then 45 :: decN z.natAbs else decN z.natAbs
def padN : Nat → Nat → List UInt8
  | 0, _ => []
  | k + 1, v => padN k (v / 10) ++ [dg v]
theorem padN_len : ∀ k v, (padN k v).length = k
  | 0, _ => rfl
  | k + 1, v => by simp [padN, padN_len k]
theorem padN_add (a : Nat) : ∀ b v, padN (a + b) v = padN a (v / 10 ^ b) ++ padN b v
  | 0, v => by simp [padN]
  | b + 1, v => by
    show padN (a + b) (v / 10) ++ [dg v] = _
    rw [padN_add a b (v / 10), Nat.div_div_eq_div_mul, show 10 * 10 ^ b = 10 ^ (b + 1) by rw [Nat.pow_succ, Nat.mul_comm], List.append_assoc]
    rfl
theorem padN_mod : ∀ k v, padN k (v % 10 ^ k) = padN k v
  | 0, v => rfl
  | k + 1, v => by
    show padN k (v % 10 ^ (k + 1) / 10) ++ [dg (v % 10 ^ (k + 1))] = padN k (v / 10) ++ [dg v]
    have h1 : v % 10 ^ (k + 1) / 10 = v / 10 % 10 ^ k := by rw [Nat.pow_succ, Nat.mul_comm]; exact Nat.mod_mul_right_div_self v 10 (10 ^ k)
    have h2 : v % 10 ^ (k + 1) % 10 = v % 10 := Nat.mod_mod_of_dvd v ⟨10 ^ k, by rw [Nat.pow_succ, Nat.mul_comm]⟩
    rw [h1, padN_mod k]
    unfold dg
    rw [h2]
theorem padN_drop : ∀ k v, v < 10 ^ k → (padN k v).dropWhile (· == 48) = decN v
  | 0, v, h => by
    have : v = 0 := by simpa using h
    subst this
    rw [decN_0]; rfl
  | k + 1, v, h => by
    have h1 : v / 10 < 10 ^ k := Nat.div_lt_of_lt_mul (by rw [Nat.pow_succ] at h; omega)
    show (padN k (v / 10) ++ [dg v]).dropWhile (· == 48) = decN v
    rw [List.dropWhile_append, padN_drop k _ h1]
    by_cases hv : v / 10 = 0
    · rw [hv, decN_0]
      simp only [List.isEmpty_nil, if_true]
      by_cases h0 : v = 0
      · subst h0
        rw [decN_0]; rfl
      · rw [decN_pos v h0, hv, decN_0]
        have : (dg v == 48) = false := by
          rw [beq_eq_false_iff_ne]
          intro hc
          have := congrArg UInt8.toNat hc
          rw [dg_nat] at this
          simp at this
          omega
        simp [List.dropWhile, this]
    · have hne : decN (v / 10) ≠ [] := fun hc => hv ((decN_nil _).mp hc)
      have : (decN (v / 10)).isEmpty = false := by cases hq : decN (v / 10) with | nil => exact absurd hq hne | cons _ _ => rfl
      rw [this]
      simp only [Bool.false_eq_true, if_false]
      rw [decN_pos v (by omega)]
theorem dec_len : ∀ k v, v < 10 ^ k → (decN v).length ≤ k
  | 0, v, h => by
    have : v = 0 := by simpa using h
    subst this
    rw [decN_0]; exact Nat.le_refl _
  | k + 1, v, h => by
    by_cases h0 : v = 0
    · subst h0; rw [decN_0]; exact Nat.zero_le _
    · rw [decN_pos v h0, List.length_append]
      have := dec_len k (v / 10) (Nat.div_lt_of_lt_mul (by rw [Nat.pow_succ] at h; omega))
      simp; omega
theorem B12_ten : B ^ 12 < 10 ^ 116 := by decide
end Go.Ab

/- Strings: what the library's functions upon them give. Conditions: lengths in range. -/
namespace Go.Ab
open Go.Proofs
set_option maxRecDepth 100000
set_option linter.unusedSimpArgs false

set_option maxHeartbeats 4000000 in
theorem trimLB_eq (n d : Nat) (l : List UInt8) (c : UInt8) (hn : l.length < n) : evalFn Tryz.prog cfg0 n (d+1) 133 [.tree (.str l), .tree (.int .u8 (c.toNat : Int))] = some (.tree (.str (l.dropWhile (· == c))), [[], []]) := by
  rw [evalFn_go _ Tryz.func133 (by unfold Tryz.f133; rfl) (by unfold Tryz.f133; decide) (Nat.le_of_ble_eq_true (by unfold Tryz.f133; rfl)) (by kernel_rfl)]
  simp only [simB, zbo, Nat.reduceBEq, own0, ↓reduceIte, Nat.reduceEqDiff, Nat.reduceAdd, simA, simL, zex, List.toList_toArray, len9, ix9, zey, zez, zfa, zfb, zfc, den_loop]
  refine loop_ends (X := List UInt8) (fun x env s => env 0 = .str x ∧ env 1 = .int .u8 (c.toNat : Int) ∧ x.dropWhile (· == c) = l.dropWhile (· == c)) (fun x => x.length) (fun _ => (.tree (.str (l.dropWhile (· == c))), [[], []])) ?_ n l _ _ (by omega) ⟨rfl, rfl, rfl⟩
  intro k x hx ih env s ⟨e0, e1, hd⟩
  cases x with
  | nil =>
    have q0 : ¬ (((([] : List UInt8)).length : Nat) : Int) > 0 := by decide
    simp only [simB, zbo, Nat.reduceBEq, own0, ↓reduceIte, Nat.reduceEqDiff, Nat.reduceAdd, simL, zex, List.toList_toArray, len9, ix9, zey, zez, zfa, zfb, zfc, e0, e1, q0]
    rw [← hd]
    exact finish_s _ _ _ _ _ _ _ (by simp only [zfr, ↓reduceIte, Nat.reduceEqDiff]; rfl) rfl
  | cons a r =>
    have q0 : (((a :: r).length : Nat) : Int) > 0 := by simp only [List.length_cons]; omega
    have q1 : (0 : Int) ≤ 0 ∧ (0 : Int) < (((a :: r).length : Nat) : Int) := ⟨Int.le_refl _, q0⟩
    have q2 : (a :: r).getD (0 : Int).toNat 0 = a := rfl
    have q3 : ((a.toNat : Int) == (c.toNat : Int)) = (a == c) := by
      rw [Bool.eq_iff_iff, beq_iff_eq, beq_iff_eq]
      exact ⟨fun h => UInt8.toNat_inj.mp (by omega), fun h => by rw [h]⟩
    by_cases hc : (a == c) = true
    · have q4 : (0 : Int) ≤ 1 ∧ (1 : Int) ≤ (((a :: r).length : Nat) : Int) := by omega
      have q5 : (a :: r).drop (1 : Int).toNat = r := rfl
      simp only [simB, zbo, Nat.reduceBEq, own0, ↓reduceIte, Nat.reduceEqDiff, Nat.reduceAdd, simL, zex, List.toList_toArray, len9, ix9, zey, zez, zfa, zfb, zfc, e0, e1, q0, q1, and_self, q2, q3, hc, q4, q5]
      refine ih r _ _ (by simp only [List.length_cons]; omega) rfl ⟨?_, ?_, ?_⟩
      · simp only [zfr, ↓reduceIte, Nat.reduceEqDiff]
      · simp only [zfr, ↓reduceIte, Nat.reduceEqDiff, e1]
      · rw [← hd, List.dropWhile_cons, if_pos hc]
    · rw [Bool.not_eq_true] at hc
      simp only [simB, zbo, Nat.reduceBEq, own0, ↓reduceIte, Nat.reduceEqDiff, Nat.reduceAdd, simL, zex, List.toList_toArray, len9, ix9, zey, zez, zfa, zfb, zfc, e0, e1, q0, q1, and_self, q2, q3, hc]
      rw [← hd, List.dropWhile_cons, hc]
      exact finish_s _ _ _ _ _ _ _ (by simp only [zfr, ↓reduceIte, Nat.reduceEqDiff]; rfl) rfl
set_option maxHeartbeats 4000000 in
theorem trimL0_eq (n d : Nat) (l : List UInt8) (hn : l.length < n) : evalFn Tryz.prog cfg0 n (d+2) 119 [.tree (.str l), .tree (.str [48])] = some (.tree (.str (l.dropWhile (· == 48))), [[], []]) := by
  rw [evalFn_go _ Tryz.func119 (by unfold Tryz.f119; rfl) (by unfold Tryz.f119; decide) (Nat.le_of_ble_eq_true (by unfold Tryz.f119; rfl)) (by kernel_rfl)]
  have c1 := fun D s => callA_trees (cfg := cfg0) (d := D) (s := s) (f := 133) (vs := [.str l, .int .u8 (((48 : UInt8).toNat : Nat) : Int)]) rfl (trimLB_eq n d l 48 hn)
  have q1 : (([48] : List UInt8) == []) = false := rfl
  have q2 : ((([48] : List UInt8).length : Int) == 1) = true := rfl
  have q3 : (0 : Int) ≤ 0 ∧ (0 : Int) < ((([48] : List UInt8).length : Nat) : Int) := by decide
  have q4 : ([48] : List UInt8).getD (0 : Int).toNat 0 = 48 := rfl
  have q5 : (((48 : UInt8).toNat : Nat) : Int) < 128 := by decide
  cases l with
  | nil =>
    have q0 : (([] : List UInt8) == []) = true := rfl
    simp only [simB, zbo, Nat.reduceBEq, own0, ↓reduceIte, Nat.reduceEqDiff, Nat.reduceAdd, simA, simL, zex, List.toList_toArray, len9, ix9, zey, zez, zfa, zfb, zfc, q0]
    exact finish_s _ _ _ _ _ _ _ (by simp only [zfr, ↓reduceIte, Nat.reduceEqDiff]; rfl) rfl
  | cons a r =>
    have q0 : ((a :: r : List UInt8) == []) = false := rfl
    simp only [simB, zbo, Nat.reduceBEq, own0, ↓reduceIte, Nat.reduceEqDiff, Nat.reduceAdd, simA, simL, zex, List.toList_toArray, len9, ix9, zey, zez, zfa, zfb, zfc, q0, q1, q2, q3, and_self, q4, q5, c1]
    exact finish_s _ _ _ _ _ _ _ (by simp only [zfr, ↓reduceIte, Nat.reduceEqDiff]) rfl
end Go.Ab

/- strings.Trim by the digits. Conditions: lengths in range. -/
namespace Go.Ab
open Go.Proofs
set_option maxRecDepth 100000
set_option linter.unusedSimpArgs false

def dgs : List UInt8 := [48, 49, 50, 51, 52, 53, 54, 55, 56, 57]
end Go.Ab

/- The statement NumInts, abstractly. Conditions: two ints. -/
namespace Go.Ab
open Go.Proofs
set_option maxRecDepth 100000
set_option linter.unusedSimpArgs false

def stB (e : Ent) (p k off : Nat) (s : St) (v : AV) : Option St := match e with | ⟨t', .buf xs⟩ => if t' = k then (if off < xs.length then some (upd s p ⟨t', .buf (xs.set off v)⟩) else none) else none | _ => none
theorem stB_buf (t k p off : Nat) (s : St) (v : AV) (xs : List AV) : stB ⟨t, .buf xs⟩ p k off s v = if t = k then (if off < xs.length then some (upd s p ⟨t, .buf (xs.set off v)⟩) else none) else none := rfl
section
variable (a b : Int)
variable (ha : a.natAbs ≤ 2147483648) (hb : b.natAbs ≤ 2147483648)
include ha hb
end
end Go.Ab

/- A number's text. Conditions: a number that is shown. -/
namespace Go.Ab
open Go.Proofs
set_option maxRecDepth 100000
set_option linter.unusedSimpArgs false

theorem tk64 : tkOf Tryz.prog 59 = .sl 9 := by kernel_rfl
theorem esz9 : esz Tryz.prog 9 = some 1 := by kernel_rfl
theorem zero9 : zeroOf Tryz.prog 9 = some [.str []] := by kernel_rfl
theorem by9 : byOf Tryz.prog 9 = 16 := by kernel_rfl
theorem tk65 : tkOf Tryz.prog 112 = .arr 9 5 := by kernel_rfl
theorem tk66 : tkOf Tryz.prog 78 = .sl 5 := by kernel_rfl
theorem esz5 : esz Tryz.prog 5 = some 1 := by kernel_rfl
theorem zero65 : zeroOf Tryz.prog 112 = some (List.replicate 9 (.int .u8 0)) := by kernel_rfl
theorem conv3_5 (s : St) (x : Nat) (h : x < 256) : convA Tryz.prog 3 5 s (.int .i64 (x : Int)) = some (.int .u8 (x : Int)) := by
  have e : IntKind.u8.wrap (x : Int) = (x : Int) := by
    simp [IntKind.wrap, IntKind.bits, IntKind.signed]; omega
  have t3 : tkOf Tryz.prog 3 = .int .i64 := by kernel_rfl
  simp only [convA, t3, tk5, e]
def ia65 (e : Ent) (p k : Nat) (i : Int) : Option AV := if (cellsE e k).isSome = true ∧ 0 ≤ i ∧ i < 9 then some (.ptr p k i.toNat) else none
theorem ia_65 (s : St) (p k : Nat) (i : Int) : indexAddrA Tryz.prog 112 s (.ptr p k 0) (.int .i64 i) = ia65 (s p) p k i := by
  simp only [indexAddrA, tk65, esz5, Option.bind_some, live, cellsAt_E, ia65, Nat.zero_add, Nat.mul_one]; rfl
theorem ia65_buf (t p k : Nat) (i : Int) (xs : List AV) : ia65 ⟨t, .buf xs⟩ p k i = if t = k then (if 0 ≤ i ∧ i < 9 then some (.ptr p k i.toNat) else none) else none := by
  rw [ia65, cellsE_buf]
  by_cases e : t = k <;> simp [e]
theorem st_5 (s : St) (p k off : Nat) (z : Int) : storeA Tryz.prog 5 s (.ptr p k off) (.int .u8 z) = stB (s p) p k off s (.int .u8 z) := by
  simp only [storeA, settle, Option.bind_some, stB]
  cases h : s p with
  | mk t c => cases c <;> simp [esz5, cellOk]
def sl65 (e : Ent) (p k : Nat) : Option AV := (cellsE e k).bind fun xs => if 9 ≤ xs.length then some (.own p k 0 9 1) else none
theorem sl_65 (s : St) (p k : Nat) : sliceA Tryz.prog 112 s (.ptr p k 0) none none none = sl65 (s p) p k := by
  simp only [sliceA, tk65, esz5, boundA, Option.bind_some, cellsAt_E, sl65, Option.isSome_none, Bool.false_eq_true, if_false]
  cases cellsE (s p) k <;> simp
def cvB (e : Ent) (k : Nat) : Option AV := (cellsE e k).bind fun xs => if 0 + 9 ≤ xs.length then (bytesOf ((xs.drop 0).take 9)).map .str else none
theorem conv66_9 (s : St) (p k : Nat) : convA Tryz.prog 78 9 s (.own p k 0 9 1) = cvB (s p) k := by
  simp only [convA, tk66, tk9, tk5, cellsAt_E, cvB]
def dcell (b : UInt8) : AV := .int .u8 (b.toNat : Int)
theorem bytes_d : ∀ l : List UInt8, bytesOf (l.map dcell) = some l
  | [] => rfl
  | a :: r => by
    have : UInt8.ofNat (a.toNat : Int).toNat = a := by rw [Int.toNat_natCast]; exact UInt8.ofNat_toNat
    simp only [List.map_cons, dcell, bytesOf]
    rw [bytes_d r, Option.map_some, this]
theorem sl65_d (t p k : Nat) (l : List UInt8) (h : l.length = 9) : sl65 ⟨t, .buf (l.map dcell)⟩ p k = if t = k then some (.own p k 0 9 1) else none := by
  rw [sl65, cellsE_buf]
  by_cases e : t = k <;> simp [e, h]
theorem cvB_d (t k : Nat) (l : List UInt8) (h : l.length = 9) : cvB ⟨t, .buf (l.map dcell)⟩ k = if t = k then some (.str l) else none := by
  rw [cvB, cellsE_buf]
  by_cases e : t = k
  · rw [if_pos e, if_pos e, Option.bind_some, if_pos (by simp [h]), List.drop_zero, List.take_of_length_le (by simp [h]), bytes_d]; rfl
  · rw [if_neg e, if_neg e]; rfl
def one64 (x : AV) : Option AV := (fillA (fun i => some (i * 1, 1)) (rep 1 [.str []]) [(0, x)]).map (.sl · 1 .tight)
theorem one64_str (l : List UInt8) : one64 (.str l) = some (.sl [.str l] 1 .tight) := rfl
theorem opA_one64 (call : FuncId → List Arg → Option Out) (q : Bool) (d : Option Tmp) (ty : TypeId) (pos : String) (af : Array Edge) (g : Option (Nat × Bool)) (t : Nat) (env : Env) (s : St) (x : Operand) :
    opA Tryz.prog cfg0 call q ⟨d, .buildSlice 59 1 #[(0, x)], ty, pos, af, g⟩ t env s = (one64 (ev env x)).map (·, s) := by
  rw [opA_bs]
  simp only [tk64, esz9, zero9, Option.bind_some, List.map_cons, List.map_nil]
  rfl
theorem append64 (d : Nat) (s : St) (a : List UInt8) (ss : List (List UInt8)) (g : Grip) (h : ss.length ≤ 1000) : appendA Tryz.prog #[59, 59] d s (.sl [.str a] 1 .tight) (.sl (ss.map .str) ss.length g) = some (.sl ((a :: ss).map .str) (a :: ss).length (.tok d ((s d).t + 1)), upd s d ⟨(s d).t + 1, .tok 1⟩) := by
  have e1 : (#[59, 59] : Array TypeId)[0]? = some 59 := rfl
  have e2 : (#[59, 59] : Array TypeId)[1]? = some 59 := rfl
  simp only [appendA, e1, e2, Option.map_some, tk64, esz9, Option.bind_some, moreA, baseA, by9, zero9, List.length_map, Nat.mul_one, if_true, List.length_cons, List.length_nil, Nat.zero_add]
  rw [if_pos ⟨by omega, by omega, trivial⟩]
  simp [Nat.add_comm]

theorem inter_nil : ∀ ss : List (List UInt8), List.intercalate [] ss = ss.flatten
  | [] => rfl
  | [a] => by simp [List.intercalate]
  | a :: b :: r => by
    have := inter_nil (b :: r)
    simp only [List.intercalate, List.intersperse, List.flatten_cons, List.nil_append] at this ⊢
    rw [this]
theorem strs_map : ∀ ss : List (List UInt8), strsOf (ss.map .str) = some ss
  | [] => rfl
  | a :: r => by simp only [List.map_cons, strsOf, strs_map r, Option.map_some]
theorem evalJoin (n d : Nat) (ss : List (List UInt8)) (g : Grip) (h : ss.flatten.length ≤ 1000000) (hl : ss.length ≤ 1000000) : evalFn Tryz.prog cfg0 n (d+1) 120 [.tree (.sl (ss.map .str) ss.length g), .tree (.str [])] = some (.tree (.str ss.flatten), [[], []]) := by
  have hp : cfg0.prim 120 [.tree (.sl (ss.map .str) ss.length g), .tree (.str [])] = some (.tree (.str ss.flatten), [[], []]) := by
    rw [show cfg0.prim = prim0 from rfl, prim0, if_pos (beq_self_eq_true _)]
    simp only [joinP, strs_map, Option.bind_some, inter_nil]
    rw [if_pos ⟨trivial, by omega, by omega⟩]
  rw [evalFn, hp]
theorem cJoin (n d : Nat) (ss : List (List UInt8)) (g : Grip) (h : ss.flatten.length ≤ 1000000) (hl : ss.length ≤ 1000000) (D : Nat) (s : St) : callA cfg0 (evalFn Tryz.prog cfg0 n (d+1)) D s 120 [.sl (ss.map .str) ss.length g, .str []] = some (.str ss.flatten, s) := by
  have e := fun g => evalJoin n d ss g h hl
  have hf : flatR (.tree (.str ss.flatten)) = true := rfl
  cases g with
  | tok p t => simp [callA, argsA, argA, givesL, givesOf, lendsL, lendsOf, e, backA, resA, hf, lin0]
  | _ => simp [callA, argsA, argA, givesL, givesOf, lendsL, lendsOf, e, backA, resA, hf]
end Go.Ab

/- A number's text: the walk. Conditions: a number that is shown. -/
namespace Go.Ab
open Go.Proofs
set_option maxRecDepth 100000
set_option linter.unusedSimpArgs false

theorem rep_set {α : Type} (a b : α) (l : List α) : ∀ k, (List.replicate (k + 1) a ++ l).set k b = List.replicate k a ++ b :: l
  | 0 => rfl
  | k + 1 => by
    rw [List.replicate_succ, List.cons_append, List.set_cons_succ, rep_set a b l k, List.replicate_succ, List.cons_append]
theorem padN_succ (i v : Nat) : padN (i + 1) v = dg (v / 10 ^ i) :: padN i v := by
  rw [Nat.add_comm, padN_add 1 i v]; rfl
def cellsI (i v : Nat) : List AV := List.replicate (9 - i) (.int .u8 0) ++ (padN i v).map dcell
theorem cellsI_len (i v : Nat) (h : i ≤ 9) : (cellsI i v).length = 9 := by simp [cellsI, padN_len]; omega
theorem cellsI_set (i v : Nat) (h : i < 9) : (cellsI i v).set (8 - i) (.int .u8 ((48 + v / 10 ^ i % 10 : Nat) : Int)) = cellsI (i + 1) v := by
  unfold cellsI
  rw [show 9 - i = (8 - i) + 1 by omega, rep_set, show 9 - (i + 1) = 8 - i by omega, padN_succ, List.map_cons]
  congr 2
  rw [dcell, dg_nat]
theorem cellsI_9 (v : Nat) : cellsI 9 v = (padN 9 v).map dcell := rfl
theorem bd_1R (v : Nat) : buildA Tryz.prog 27 [(1, encR v)] = some (.agg [.bool false, encR v]) := by
  simp only [buildA, zew, tk24, pl24, Option.bind_some]
  unfold encR encL
  split <;> rfl
theorem ten9 : (10 : Nat) ^ 9 = 1000000000 := by decide
theorem cDiv9 (n d : Nat) (hn : 100000 ≤ n) (D : Nat) (s : St) (g : Gk) (v : Nat) (hv : v < B ^ 12) : callA cfg0 (evalFn Tryz.prog cfg0 n (d+5)) D s 76 [encL g (digs v), .sl [.int .u32 1000000000] 1 .tight] = some (.tup [encR (v / 10 ^ 9), encR (v % 10 ^ 9)], s) := by
  have hv1 : val [1000000000] = 1000000000 := by decide
  have := cDivS n d hn D s (w := encL g (digs v)) (w' := .sl [.int .u32 1000000000] 1 .tight) (l := digs v) (m := [1000000000]) (sh_L g _) ⟨.tight, rfl⟩ (limbs_digs _) (limbs_one (by decide)) (by have := digs_len _ 12 hv; omega) (by decide)
  rw [val_digs, hv1, if_neg (by decide), if_neg (by decide), ← ten9] at this
  exact this
theorem cInt9 (n d : Nat) (hn : 100000 ≤ n) (D : Nat) (s : St) (v : Nat) (hv : v < 1000000000) : callA cfg0 (evalFn Tryz.prog cfg0 n (d+3)) D s 58 [.agg [.bool false, encR v]] = some (.tup [.int .i64 (v : Int), .bool true], s) := by
  have big := B12_big
  have e : (.agg [.bool false, encR v] : AV) = encZ (v : Int) := by
    rw [encZ, Int.natAbs_natCast, decide_eq_false (by omega)]
  rw [e]
  have := cInt n d hn (isN_Z (v : Int) (by omega)) D s
  have hi : isI64 (v : Int) = true := by unfold isI64; rw [decide_eq_true (by omega), decide_eq_true (by omega)]; rfl
  rw [intZ, if_pos hi] at this
  exact this
theorem flat9 : ∀ (ss : List (List UInt8)), (∀ x ∈ ss, x.length = 9) → ss.flatten.length = 9 * ss.length
  | [], _ => rfl
  | a :: r, h => by
    rw [List.flatten_cons, List.length_append, h a List.mem_cons_self, flat9 r fun x hx => h x (List.mem_cons_of_mem _ hx), List.length_cons]
    omega
theorem textZ_of (z : Int) : textZ z = if decN z.natAbs = [] then [48] else if z < 0 then 45 :: decN z.natAbs else decN z.natAbs := by
  unfold textZ
  by_cases h : z = 0
  · subst h; rw [if_pos rfl, if_pos (by simp [decN_0])]
  · have h2 : ¬ decN z.natAbs = [] := fun hc => h (by have := (decN_nil _).mp hc; omega)
    rw [if_neg h, if_neg h2]
set_option maxHeartbeats 16000000 in
theorem text_eq (n d : Nat) (hn : 100000 ≤ n) {w : AV} {z : Int} (hw : IsN w z) : evalFn Tryz.prog cfg0 n (d+6) 94 [.tree w] = some (.tree (.str (textZ z)), [[]]) := by
  obtain ⟨g, c1⟩ := cOf n (d + 3) hw
  have hlt := hw.lt
  obtain ⟨neg, g0, l0, rfl, hl, hz⟩ := hw
  rw [evalFn_go _ Tryz.func94 (by unfold Tryz.f94; rfl) (by unfold Tryz.f94; decide) (Nat.le_of_ble_eq_true (by unfold Tryz.f94; rfl)) (by kernel_rfl)]
  simp only [simB, zbo, Nat.reduceBEq, own0, ↓reduceIte, Nat.reduceEqDiff, Nat.reduceAdd, simA, simL, simN, Nat.zero_add, zex, List.toList_toArray, len9, ix9, zey, zez, zfa, zfb, zfc, st0_1, c1, den_loop]
  have h117 : z.natAbs < 10 ^ 117 := Nat.lt_trans hlt (Nat.lt_trans B12_ten (Nat.pow_lt_pow_right (by decide) (by decide)))
  generalize hv : z.natAbs = v at *
  refine loop_ends (X := Nat × Gk × Grip × List (List UInt8)) (fun x env s => env 1 = .ptr 1 1 0 ∧ env 3 = .sl (x.2.2.2.map .str) x.2.2.2.length x.2.2.1 ∧ env 4 = encL x.2.1 (digs (v / 10 ^ (9 * x.1))) ∧ s 1 = ⟨1, .buf [.bool (decide (z < 0)), encL g (digs v)]⟩ ∧ x.2.2.2.length = x.1 ∧ (∀ y ∈ x.2.2.2, y.length = 9) ∧ x.2.2.2.flatten = padN (9 * x.1) v ∧ (x.1 = 0 ∨ v / 10 ^ (9 * x.1) ≠ 0)) (fun x => 13 - x.1) (fun _ => (.tree (.str (textZ z)), [[]])) ?_ n (0, g, .nil, []) _ _ (by simp only; omega) ⟨by first | (simp only [zfr, ↓reduceIte, Nat.reduceEqDiff]; done) | (simp only [zfr, ↓reduceIte, Nat.reduceEqDiff]; rfl), by first | (simp only [zfr, ↓reduceIte, Nat.reduceEqDiff]; done) | (simp only [zfr, ↓reduceIte, Nat.reduceEqDiff]; rfl), by rw [Nat.mul_zero, Nat.pow_zero, Nat.div_one]; simp only [zfr, ↓reduceIte, Nat.reduceEqDiff], by simp only [zfr, ↓reduceIte, Nat.reduceEqDiff], rfl, by simp, rfl, .inl rfl⟩
  intro k ⟨m, gg, gr, ss⟩ hxk ih env s ⟨e1, e3, e4, j1, hm, h9, hfl, hnz⟩
  simp only at e3 e4 hm h9 hfl hnz hxk
  have hm12 : m ≤ 12 := by
    rcases hnz with h | h
    · omega
    · apply Classical.byContradiction
      intro hc
      apply h
      exact Nat.div_eq_of_lt (Nat.lt_of_lt_of_le h117 (Nat.pow_le_pow_right (by decide) (by omega)))
  have hx : v / 10 ^ (9 * m) < B ^ 12 := Nat.lt_of_le_of_lt (Nat.div_le_self _ _) hlt
  have c2 := fun D s => cDiv9 n d hn D s gg _ hx
  rw [Nat.div_div_eq_div_mul, ← Nat.pow_add, show 9 * m + 9 = 9 * (m + 1) by omega] at c2
  have hr : v / 10 ^ (9 * m) % 10 ^ 9 < 1000000000 := by have := Nat.mod_lt (v / 10 ^ (9 * m)) (show 0 < 10 ^ 9 by decide); rwa [ten9] at this ⊢
  obtain ⟨r, hrr⟩ : ∃ r, v / 10 ^ (9 * m) % 10 ^ 9 = r := ⟨_, rfl⟩
  rw [hrr] at c2 hr
  have c3 := fun D s => cInt9 n (d + 2) hn D s r hr
  simp only [simB, zbo, Nat.reduceBEq, own0, ↓reduceIte, Nat.reduceEqDiff, Nat.reduceAdd, simA, simL, simN, Nat.zero_add, zex, List.toList_toArray, len9, ix9, zey, zez, zfa, zfb, zfc, e1, e3, e4, j1, opA_one, one22_int, c2, c3, bd_1R, zero65, den_loop]
  have hr' : padN 9 (v / 10 ^ (9 * m)) = padN 9 r := by rw [← hrr, padN_mod]
  have hfl2 : (padN 9 r :: ss).flatten = padN (9 * (m + 1)) v := by
    rw [List.flatten_cons, hfl, show 9 * (m + 1) = 9 + 9 * m by omega, padN_add 9 (9 * m) v, hr']
  clear c1 c2 c3
  obtain ⟨T, hT⟩ : ∃ T, (s 9).t + 1 = T := ⟨_, rfl⟩
  rw [hT]
  refine loop_ends (X := Nat) (fun i env s => env 1 = .ptr 1 1 0 ∧ env 3 = .sl (ss.map .str) ss.length gr ∧ env 5 = encR (v / 10 ^ (9 * (m + 1))) ∧ env 28 = .int .i64 (i : Int) ∧ env 7 = .int .i64 ((r / 10 ^ i : Nat) : Int) ∧ env 9 = .ptr 9 T 0 ∧ s 1 = ⟨1, .buf [.bool (decide (z < 0)), encL g (digs v)]⟩ ∧ s 9 = ⟨T, .buf (cellsI i r)⟩ ∧ i ≤ 9) (fun i => 9 - i) (fun _ => (.tree (.str (textZ z)), [[]])) ?_ n 0 _ _ (by omega) ⟨by simp only [zfr, ↓reduceIte, Nat.reduceEqDiff, e1], by simp only [zfr, ↓reduceIte, Nat.reduceEqDiff, e3], by simp only [zfr, ↓reduceIte, Nat.reduceEqDiff], by first | (simp only [zfr, ↓reduceIte, Nat.reduceEqDiff]; done) | (simp only [zfr, ↓reduceIte, Nat.reduceEqDiff]; rfl), by rw [Nat.pow_zero, Nat.div_one]; simp only [zfr, ↓reduceIte, Nat.reduceEqDiff], by simp only [zfr, ↓reduceIte, Nat.reduceEqDiff], by simp only [zfr, ↓reduceIte, Nat.reduceEqDiff, j1], by first | (simp only [zfr, ↓reduceIte, Nat.reduceEqDiff]; done) | (simp only [zfr, ↓reduceIte, Nat.reduceEqDiff]; rfl), by decide⟩
  clear e1 e3 e4 j1
  intro k' i hik ihi env s ⟨e1, e3, e5, e28, e7, e9, j1, j9, hi⟩
  by_cases hi9 : i = 9
  · subst hi9
    clear ihi
    have q1 : ¬ ((9 : Nat) : Int) < 9 := by decide
    rw [cellsI_9] at j9
    have s1 := fun t p k => sl65_d t p k (padN 9 r) (padN_len 9 r)
    have s2 := fun t k => cvB_d t k (padN 9 r) (padN_len 9 r)
    have ap := fun d s => append64 d s (padN 9 r) ss gr (by omega)
    have hlen9 : ∀ y ∈ padN 9 r :: ss, y.length = 9 := fun y hy => by
      rcases List.mem_cons.mp hy with rfl | hy
      · exact padN_len _ _
      · exact h9 y hy
    by_cases h0 : v / 10 ^ (9 * (m + 1)) = 0
    · have q2 : (((digs (v / 10 ^ (9 * (m + 1)))).length : Int) == 0) = true := by rw [h0]; simp [digs_0]
      have hlt2 : v < 10 ^ (9 * (m + 1)) := (Nat.div_eq_zero_iff.mp h0).resolve_left (by have := Nat.pow_pos (n := 9 * (m + 1)) (show 0 < 10 by decide); omega)
      have hfl9 := flat9 _ hlen9
      have c4 := fun gr D s => cJoin n (d + 4) (padN 9 r :: ss) gr (by rw [hfl9, List.length_cons]; omega) (by rw [List.length_cons]; omega) D s
      rw [hfl2] at c4
      simp only [List.map_cons] at c4
      have c5 := fun D s => callA_trees (cfg := cfg0) (d := D) (s := s) (f := 119) (vs := [.str (padN (9 * (m + 1)) v), .str [48]]) rfl (trimL0_eq n (d + 3) (padN (9 * (m + 1)) v) (by rw [padN_len]; omega))
      rw [padN_drop _ _ hlt2] at c5
      rw [textZ_of, hv]
      by_cases hd : decN v = []
      · have q3 : (decN v == []) = true := by rw [hd]; rfl
        rw [if_pos hd]
        simp only [simB, zbo, Nat.reduceBEq, own0, ↓reduceIte, Nat.reduceEqDiff, Nat.reduceAdd, simA, simL, simN, Nat.zero_add, zex, List.toList_toArray, len9, ix9, zey, zez, zfa, zfb, zfc, e1, e3, e5, e28, e7, e9, j1, j9, q1, sl_65, s1, conv66_9, s2, opA_one64, one64_str, ap, lenR, q2, c4, c5, q3]
        exact finish_s _ _ _ _ _ _ _ (by simp only [zfr, ↓reduceIte, Nat.reduceEqDiff]) rfl
      · have q3 : (decN v == []) = false := by rw [beq_eq_false_iff_ne]; exact hd
        rw [if_neg hd]
        have hdl := dec_len 117 v h117
        have ad := s_addS Tryz.prog 9 [45] (decN v) (by simp only [List.length_cons, List.length_nil]; omega)
        by_cases hz0 : z < 0
        · rw [if_pos hz0]
          simp only [simB, zbo, Nat.reduceBEq, own0, ↓reduceIte, Nat.reduceEqDiff, Nat.reduceAdd, simA, simL, simN, Nat.zero_add, zex, List.toList_toArray, len9, ix9, zey, zez, zfa, zfb, zfc, e1, e3, e5, e28, e7, e9, j1, j9, q1, sl_65, s1, conv66_9, s2, opA_one64, one64_str, ap, lenR, q2, c4, c5, q3, hz0, ad]
          exact finish_s _ _ _ _ _ _ _ (by simp only [zfr, ↓reduceIte, Nat.reduceEqDiff]) rfl
        · rw [if_neg hz0]
          simp only [simB, zbo, Nat.reduceBEq, own0, ↓reduceIte, Nat.reduceEqDiff, Nat.reduceAdd, simA, simL, simN, Nat.zero_add, zex, List.toList_toArray, len9, ix9, zey, zez, zfa, zfb, zfc, e1, e3, e5, e28, e7, e9, j1, j9, q1, sl_65, s1, conv66_9, s2, opA_one64, one64_str, ap, lenR, q2, c4, c5, q3, hz0]
          exact finish_s _ _ _ _ _ _ _ (by simp only [zfr, ↓reduceIte, Nat.reduceEqDiff]) rfl
    · have q2 : (((digs (v / 10 ^ (9 * (m + 1)))).length : Int) == 0) = false := by
        rw [beq_eq_false_iff_ne]
        intro h
        exact h0 ((digs_len0 _).mp (by omega))
      simp only [simB, zbo, Nat.reduceBEq, own0, ↓reduceIte, Nat.reduceEqDiff, Nat.reduceAdd, simA, simL, simN, Nat.zero_add, zex, List.toList_toArray, len9, ix9, zey, zez, zfa, zfb, zfc, e1, e3, e5, e28, e7, e9, j1, j9, q1, sl_65, s1, conv66_9, s2, opA_one64, one64_str, ap, lenR, q2]
      refine ih (m + 1, (if v / 10 ^ (9 * (m + 1)) = 0 then .n else .l), .tok 45 ((s 45).t + 1), padN 9 r :: ss) _ _ (by simp only; omega) rfl ⟨?_, ?_, ?_, ?_, ?_, hlen9, hfl2, .inr h0⟩
      · simp only [zfr, ↓reduceIte, Nat.reduceEqDiff, e1]
      · simp only [zfr, ↓reduceIte, Nat.reduceEqDiff]; rfl
      · simp only [zfr, ↓reduceIte, Nat.reduceEqDiff]; rfl
      · simp only [zfr, ↓reduceIte, Nat.reduceEqDiff, j1]
      · simp only [List.length_cons]; omega
  · have q1 : (i : Int) < 9 := by omega
    have hri : r / 10 ^ i ≤ r := Nat.div_le_self _ _
    have a1 := i_sub Tryz.prog 3 8 (i : Int) (by omega) (by omega)
    have a2 := i_rem Tryz.prog 3 (r / 10 ^ i) 10 (by decide)
    rw [show ((10 : Nat) : Int) = 10 from rfl] at a2
    have a3 := i_add Tryz.prog 3 48 ((r / 10 ^ i % 10 : Nat) : Int) (by omega) (by omega)
    rw [show (48 : Int) + ((r / 10 ^ i % 10 : Nat) : Int) = ((48 + r / 10 ^ i % 10 : Nat) : Int) by omega] at a3
    have a4 := fun s => conv3_5 s (48 + r / 10 ^ i % 10) (by omega)
    have a5 := i_quo Tryz.prog 3 (r / 10 ^ i) 10 (by decide) (by omega)
    rw [show ((10 : Nat) : Int) = 10 from rfl, Nat.div_div_eq_div_mul, ← Nat.pow_succ] at a5
    have a6 := i_add Tryz.prog 3 (i : Int) 1 (by omega) (by omega)
    have q2 : (0 : Int) ≤ 8 - (i : Int) ∧ 8 - (i : Int) < 9 := by omega
    have q3 : (8 - (i : Int)).toNat = 8 - i := by omega
    have q4 : 8 - i < (cellsI i r).length := by rw [cellsI_len i r hi]; omega
    have q5 := cellsI_set i r (by omega)
    simp only [simB, zbo, Nat.reduceBEq, own0, ↓reduceIte, Nat.reduceEqDiff, Nat.reduceAdd, simA, simL, simN, Nat.zero_add, zex, List.toList_toArray, len9, ix9, zey, zez, zfa, zfb, zfc, e1, e3, e5, e28, e7, e9, j1, j9, q1, a1, a2, a3, a4, a5, a6, ia_65, ia65_buf, q2, and_self, q3, st_5, stB_buf, q4, q5]
    refine ihi (i + 1) _ _ (by omega) rfl ⟨?_, ?_, ?_, ?_, ?_, ?_, ?_, ?_, by omega⟩
    · simp only [zfr, ↓reduceIte, Nat.reduceEqDiff, e1]
    · simp only [zfr, ↓reduceIte, Nat.reduceEqDiff, e3]
    · simp only [zfr, ↓reduceIte, Nat.reduceEqDiff, e5]
    · simp only [zfr, ↓reduceIte, Nat.reduceEqDiff]; rfl
    · simp only [zfr, ↓reduceIte, Nat.reduceEqDiff]
    · simp only [zfr, ↓reduceIte, Nat.reduceEqDiff, e9]
    · simp only [zfr, ↓reduceIte, Nat.reduceEqDiff, j1]
    · simp only [zfr, ↓reduceIte, Nat.reduceEqDiff]
end Go.Ab

/- relictref03.List, relictlaw00.Proper; rows of ints that grow. Conditions: lengths in range. -/
namespace Go.Ab
open Go.Proofs
set_option maxRecDepth 100000
set_option linter.unusedSimpArgs false

def duo26 (x y : AV) : Option AV := (fillA (fun i => some (i * 6, 6)) (rep 2 [.int .i64 0, .bool false, .sl [] 0 .nil, .str [], .int .i64 0, .sl [] 0 .nil]) [(0, x), (1, y)]).map (.sl · 2 .tight)
theorem duo26_agg (a b c d e f a' b' c' d' e' f' : AV) : duo26 (.agg [a, b, c, d, e, f]) (.agg [a', b', c', d', e', f']) = some (.sl [a, b, c, d, e, f, a', b', c', d', e', f'] 2 .tight) := rfl
theorem opA_duo26 (call : FuncId → List Arg → Option Out) (q : Bool) (d : Option Tmp) (ty : TypeId) (pos : String) (af : Array Edge) (g : Option (Nat × Bool)) (t : Nat) (env : Env) (s : St) (x y : Operand) :
    opA Tryz.prog cfg0 call q ⟨d, .buildSlice 22 2 #[(0, x), (1, y)], ty, pos, af, g⟩ t env s = (duo26 (ev env x) (ev env y)).map (·, s) := by
  rw [opA_bs]
  simp only [tkTk, eszT, zeroT, Option.bind_some, List.map_cons, List.map_nil]
  rfl
theorem duo26_T (a b : T) : duo26 (.agg (cellsT a)) (.agg (cellsT b)) = some (.sl (cellsK [a, b]) 2 .tight) := by
  obtain ⟨k, b1, lg, l, s, m, kg, ks⟩ := a
  obtain ⟨k', b2, lg', l', s', m', kg', ks'⟩ := b
  simp only [cellsT, cellsK, List.append_nil, List.cons_append, List.nil_append]
  exact duo26_agg _ _ _ _ _ _ _ _ _ _ _ _
theorem bdT_cons (a b : T) : buildA Tryz.prog 29 [(0, .int .i64 4), (4, .sl (cellsK [a, b]) 2 .tight)] = some (.agg (cellsT (consT a b))) := bdT_4 4 _ _ .t
set_option maxHeartbeats 4000000 in
theorem rList_eq (n d : Nat) (ks : List T) (g : Grip) (t : T) (hn : ks.length < n) (hl : ks.length ≤ 1000000) : evalFn Tryz.prog cfg0 n (d+1) 16 [.tree (.sl (cellsK ks) ks.length g), .tree (encT t)] = some (.tree (encT (listT ks t)), [[], []]) := by
  rw [evalFn_go _ Tryz.func16 (by unfold Tryz.f16; rfl) (by unfold Tryz.f16; decide) (Nat.le_of_ble_eq_true (by unfold Tryz.f16; rfl)) (by kernel_rfl)]
  have f0 := i_sub Tryz.prog 3 (ks.length : Int) 1 (by omega) (by omega)
  simp only [simB, zbo, Nat.reduceBEq, own0, ↓reduceIte, Nat.reduceEqDiff, Nat.reduceAdd, simA, simL, simN, Nat.zero_add, zeroT, encT, ldT_u, st_Tt, stT_6, lenTk, f0, den_loop]
  refine loop_ends (X := Nat) (fun j env s => env 0 = .sl (cellsK ks) ks.length g ∧ env 4 = .ptr 4 1 0 ∧ env 5 = .ptr 5 1 0 ∧ env 6 = .int .i64 ((j : Int) - 1) ∧ s 4 = ⟨1, .buf [.int .i64 0, .bool false, .sl [] 0 .nil, .str [], .int .i64 0, .sl [] 0 .nil]⟩ ∧ s 5 = ⟨1, .buf (cellsT (listT (ks.drop j) t))⟩ ∧ j ≤ ks.length) (fun j => j) (fun _ => (.tree (encT (listT ks t)), [[], []])) ?_ n ks.length _ _ (by omega) ⟨(by simp only [zfr, ↓reduceIte, Nat.reduceEqDiff, env0, List.getElem?_cons_zero]; try rfl), (by simp only [zfr, ↓reduceIte, Nat.reduceEqDiff]; try rfl), (by simp only [zfr, ↓reduceIte, Nat.reduceEqDiff]; try rfl), (by simp only [zfr, ↓reduceIte, Nat.reduceEqDiff]; try rfl), (by simp only [zfr, ↓reduceIte, Nat.reduceEqDiff]; try rfl), by rw [List.drop_length]; exact (by simp only [zfr, ↓reduceIte, Nat.reduceEqDiff]; try rfl), Nat.le_refl _⟩
  intro rr j hr ih env st ⟨e0, e4, e5, e6, j4, j5, hj⟩
  cases j with
  | zero =>
    have q1 : ¬ (((0 : Nat) : Int) - 1 ≥ 0) := by omega
    rw [List.drop_zero] at j5
    simp only [simB, zbo, Nat.reduceBEq, own0, ↓reduceIte, Nat.reduceEqDiff, Nat.reduceAdd, simL, simN, Nat.zero_add, e0, e4, e5, e6, j4, j5, q1, ldT_u, st_Tt, stT_6]
    exact finish_cT _ _ _ _ _ (listT ks t) _ _ _ (by simp only [zfr, ↓reduceIte, Nat.reduceEqDiff, e4]; try rfl) (by simp only [zfr, ↓reduceIte, Nat.reduceEqDiff]; try rfl) rfl
  | succ i =>
    have e6 : env 6 = .int .i64 (i : Int) := by rw [e6]; congr 1; omega
    have q1 : (i : Int) ≥ 0 := by omega
    have hil : i < ks.length := by omega
    have f5 := i_sub Tryz.prog 3 (i : Int) 1 (by omega) (by omega)
    have hd : ks.drop i = ks[i] :: ks.drop (i + 1) := List.drop_eq_getElem_cons hil
    have ia := fun st => ia_K st ks g i hil
    rw [hd] at ia
    have ld := fun st => ld_K st ks[i] (ks.drop (i + 1))
    simp only [encT] at ld
    simp only [simB, zbo, Nat.reduceBEq, own0, ↓reduceIte, Nat.reduceEqDiff, Nat.reduceAdd, simL, simN, Nat.zero_add, e0, e4, e5, e6, j4, j5, q1, ia, ld, ldT_u, opA_duo26, duo26_T, bdT_cons, st_Tt, stT_u, f5]
    exact ih i _ _ (by omega) rfl ⟨(by simp only [zfr, ↓reduceIte, Nat.reduceEqDiff, e0]; try rfl), (by simp only [zfr, ↓reduceIte, Nat.reduceEqDiff, e4]; try rfl), (by simp only [zfr, ↓reduceIte, Nat.reduceEqDiff, e5]; try rfl), (by simp only [zfr, ↓reduceIte, Nat.reduceEqDiff]; try rfl), (by simp only [zfr, ↓reduceIte, Nat.reduceEqDiff, j4]; try rfl), by rw [hd]; exact (by simp only [zfr, ↓reduceIte, Nat.reduceEqDiff]; try rfl), by omega⟩
theorem tkI : tkOf Tryz.prog 56 = .sl 3 := by kernel_rfl
theorem lenInts (s : St) (xs : List AV) (m : Nat) (g : Grip) : lenA Tryz.prog 56 s (.sl xs m g) = some (.int .i64 (m : Int)) := by simp only [lenA, tkI]
theorem iaInts (s : St) (xs : List AV) (m : Nat) (g : Grip) (i : Nat) (h : i < m) : indexAddrA Tryz.prog 56 s (.sl xs m g) (.int .i64 (i : Int)) = some (.rptr (xs.drop i)) := by
  simp only [indexAddrA, tkI, eszTi, Option.bind_some, Int.toNat_natCast, Nat.mul_one]
  rw [if_pos ⟨by omega, by omega⟩]
def ApI (s : St) (d : Nat) (x : AV) (us : List Int) : Prop := (us = [] ∧ x = .sl [] 0 .nil) ∨ (us ≠ [] ∧ ∃ t, x = .sl (intsA us) us.length (.tok d t) ∧ s d = ⟨t, .tok 1⟩)
theorem byI : decide (byOf Tryz.prog 3 ≤ 200) = true := by kernel_rfl
theorem zlI : (zeroOf Tryz.prog 3).map List.length = some 1 := by kernel_rfl
theorem intsA_len (us : List Int) : (intsA us).length = us.length := List.length_map _
theorem ApI.push {s : St} {d : Nat} {x : AV} {us : List Int} (h : ApI s d x us) (hl : us.length ≤ 1000000) (v : Int) :
    ∃ x' s', appendA Tryz.prog #[56, 56] d s x (.sl [.int .i64 v] 1 .tight) = some (x', s') ∧ ApI s' d x' (us ++ [v]) ∧ ∀ q, q ≠ d → s' q = s q := by
  have hb := of_decide_eq_true byI
  have hk : intsA (us ++ [v]) = intsA us ++ [.int .i64 v] := by simp [intsA]
  have hm : ∀ s, moreA Tryz.prog 3 1 (some 56) s (.sl [.int .i64 v] 1 .tight) = some ([.int .i64 v], 1) := fun s => by
    simp only [moreA, Option.map_some, tkI, List.length_cons, List.length_nil, Nat.one_mul, ↓reduceIte]
  have hc : (us.length + 1) * byOf Tryz.prog 3 ≤ 140737488355328 ∧ us.length + 1 ≤ 9223372036854775807 := by
    have : (us.length + 1) * byOf Tryz.prog 3 ≤ 1000001 * 200 := Nat.mul_le_mul (by omega) hb
    omega
  rcases h with ⟨rfl, rfl⟩ | ⟨_, t, rfl, hs⟩
  · refine ⟨_, upd s d ⟨(s d).t + 1, .tok 1⟩, ?_, .inr ⟨by simp, (s d).t + 1, rfl, upd_same _ _ _⟩, fun q hq => upd_ne _ _ hq⟩
    simp only [appendA, List.getElem?_toArray, List.getElem?_cons_zero, List.getElem?_cons_succ, Option.map_some, tkI, eszTi, Option.bind_some, hm, baseA, List.length_nil, Nat.zero_mul, ↓reduceIte, zlI, and_true]
    rw [if_pos (by simpa using hc)]
    simp [intsA]
  · refine ⟨_, upd (upd s d ⟨t, .dead⟩) d ⟨t + 1, .tok 1⟩, ?_, .inr ⟨by simp, t + 1, rfl, upd_same _ _ _⟩, fun q hq => (upd_ne _ _ hq).trans (upd_ne _ _ hq)⟩
    simp only [appendA, List.getElem?_toArray, List.getElem?_cons_zero, List.getElem?_cons_succ, Option.map_some, tkI, eszTi, Option.bind_some, hm, baseA, hs, intsA_len, Nat.mul_one, and_self, ↓reduceIte, zlI, and_true]
    rw [if_pos hc]
    simp only [upd_same, List.length_append, List.length_cons, List.length_nil, Nat.zero_add, hk]
def giOf (us : List Int) : Gk := if us = [] then .n else .l
theorem ApI.lent {s : St} {d : Nat} {x : AV} {us : List Int} (h : ApI s d x us) : isLent x = true ∧ loosen x = .sl (intsA us) us.length (gr (giOf us)) ∧ (isTree x = true → x = .sl (intsA us) us.length (gr (giOf us))) := by
  rcases h with ⟨rfl, rfl⟩ | ⟨hu, t, rfl, _⟩
  · exact ⟨rfl, rfl, fun _ => rfl⟩
  · exact ⟨rfl, by simp only [loosen, giOf, if_neg hu, gr], fun h => nomatch h⟩
theorem ApI.len {s : St} {d : Nat} {x : AV} {us : List Int} (h : ApI s d x us) (st : St) : lenA Tryz.prog 56 st x = some (.int .i64 (us.length : Int)) := by
  rcases h with ⟨rfl, rfl⟩ | ⟨hu, t, rfl, _⟩ <;> simp only [lenA, tkI] <;> rfl
set_option maxHeartbeats 4000000 in
theorem proper_eq (n d : Nat) (hn : 100000 ≤ n) (xs : List Int) (g : Grip) (hx : ∀ x ∈ xs, I64 x) : evalFn Tryz.prog cfg0 n (d+5) 32 [.tree (.sl (intsA xs) xs.length g)] = some (.tree (encT (listT ((xs.take 60).map intT) nilT')), [[]]) := by
  rw [evalFn_go _ Tryz.func32 (by unfold Tryz.f32; rfl) (by unfold Tryz.f32; decide) (Nat.le_of_ble_eq_true (by unfold Tryz.f32; rfl)) (by kernel_rfl)]
  have lx := fun st => lenInts st (intsA xs) xs.length g
  have ix := fun st i h => iaInts st (intsA xs) xs.length g i h
  simp only [simB, zbo, Nat.reduceBEq, own0, ↓reduceIte, Nat.reduceEqDiff, Nat.reduceAdd, simA, simL, simN, Nat.zero_add, zeroT, den_loop]
  refine loop_ends (X := Nat) (fun i env st => env 0 = .sl (intsA xs) xs.length g ∧ env 2 = .ptr 2 1 0 ∧ env 4 = .int .i64 (i : Int) ∧ Ap st 22 (env 3) ((xs.take i).map intT) ∧ st 2 = ⟨1, .buf [.int .i64 0, .bool false, .sl [] 0 .nil, .str [], .int .i64 0, .sl [] 0 .nil]⟩ ∧ i ≤ 60 ∧ i ≤ xs.length) (fun i => 60 - i) (fun _ => (.tree (encT (listT ((xs.take 60).map intT) nilT')), [[]])) ?_ n 0 _ _ (by omega) ⟨(by simp only [zfr, ↓reduceIte, Nat.reduceEqDiff, env0, List.getElem?_cons_zero]; try rfl), (by simp only [zfr, ↓reduceIte, Nat.reduceEqDiff]; try rfl), (by simp only [zfr, ↓reduceIte, Nat.reduceEqDiff]; try rfl), .inl ⟨rfl, (by simp only [zfr, ↓reduceIte, Nat.reduceEqDiff]; try rfl)⟩, (by simp only [zfr, ↓reduceIte, Nat.reduceEqDiff]; try rfl), by omega, Nat.zero_le _⟩
  intro rr i hr ih env st ⟨e0, e2, e4, ap, j2, hi, hi2⟩
  by_cases hlt : i < xs.length ∧ i < 60
  · obtain ⟨hlt, h60⟩ := hlt
    have q1 : (i : Int) < (xs.length : Int) := by omega
    have q2 : (i : Int) < 60 := by omega
    have c1 := fun D st => callA_trees (cfg := cfg0) (d := D) (s := st) (f := 54) (vs := [.int .i64 xs[i]]) rfl (rInt_eq n d hn xs[i] (hx _ (List.getElem_mem hlt)))
    simp only [encT] at c1
    obtain ⟨x', s', a1, a2, a3⟩ := ap.push (by simp; omega) (intT xs[i])
    have f5 := i_add Tryz.prog 3 (i : Int) 1 (by omega) (by omega)
    have ld := fun st => ldInts xs i hlt st
    have hm : (xs.take (i + 1)).map intT = (xs.take i).map intT ++ [intT xs[i]] := by rw [List.take_succ_eq_append_getElem hlt, List.map_append]; rfl
    simp only [simB, zbo, Nat.reduceBEq, own0, ↓reduceIte, Nat.reduceEqDiff, Nat.reduceAdd, simL, simN, Nat.zero_add, e0, e2, e4, lx, q1, q2, ix _ i hlt, ld, c1, opA_one26, one26_T, a1, f5]
    exact ih (i + 1) _ _ (by omega) rfl ⟨(by simp only [zfr, ↓reduceIte, Nat.reduceEqDiff, e0]; try rfl), (by simp only [zfr, ↓reduceIte, Nat.reduceEqDiff, e2]; try rfl), (by simp only [zfr, ↓reduceIte, Nat.reduceEqDiff]; try rfl), by rw [hm]; exact a2, by rw [a3 2 (by decide)]; exact j2, by omega, by omega⟩
  have hie : xs.take i = xs.take 60 := by
    by_cases h60 : i = 60
    · rw [h60]
    · rw [List.take_of_length_le (by omega), List.take_of_length_le (by omega)]
  rw [hie] at ap
  obtain ⟨hl1, hl2⟩ := ap.lent
  have hlen : ((xs.take 60).map intT).length ≤ 60 := by simp; omega
  have cl := fun D st => callA_loose (call := evalFn Tryz.prog cfg0 n (d+4)) (d := D) (s := st) (f := 16) (vs := [env 3, encT nilT']) (vs' := [.sl (cellsK ((xs.take 60).map intT)) ((xs.take 60).map intT).length (gr (kgOf ((xs.take 60).map intT))), encT nilT']) (by simp only [List.all_cons, hl1, encT, lent_T, List.all_nil, Bool.and_self]) (by simp only [List.map_cons, hl2]; rfl) (rList_eq n (d+3) ((xs.take 60).map intT) _ nilT' (by omega) (by omega))
  simp only [encT] at cl
  by_cases hlt1 : i < xs.length
  · have q1 : (i : Int) < (xs.length : Int) := by omega
    have q2 : ¬ (i : Int) < 60 := by omega
    simp only [simB, zbo, Nat.reduceBEq, own0, ↓reduceIte, Nat.reduceEqDiff, Nat.reduceAdd, simL, simN, Nat.zero_add, e0, e2, e4, lx, j2, q1, q2, bdN3, cl, st_Tt, stT_6]
    exact finish_cT _ _ _ _ _ (listT ((xs.take 60).map intT) nilT') _ _ _ (by simp only [zfr, ↓reduceIte, Nat.reduceEqDiff, e2]; try rfl) (by simp only [zfr, ↓reduceIte, Nat.reduceEqDiff]; try rfl) rfl
  · have q1 : ¬ (i : Int) < (xs.length : Int) := by omega
    simp only [simB, zbo, Nat.reduceBEq, own0, ↓reduceIte, Nat.reduceEqDiff, Nat.reduceAdd, simL, simN, Nat.zero_add, e0, e2, e4, lx, j2, q1, bdN3, cl, st_Tt, stT_6]
    exact finish_cT _ _ _ _ _ (listT ((xs.take 60).map intT) nilT') _ _ _ (by simp only [zfr, ↓reduceIte, Nat.reduceEqDiff, e2]; try rfl) (by simp only [zfr, ↓reduceIte, Nat.reduceEqDiff]; try rfl) rfl
end Go.Ab

/- bif.Call by these names: integer_to_list, atom_to_list, length. Conditions: so many nodes at most. -/
namespace Go.Ab
open Go.Proofs
set_option maxRecDepth 100000
set_option linter.unusedSimpArgs false

def five : List AV := [.str [104, 100], .str [116, 108], .str [116, 117, 112, 108, 101, 95, 115, 105, 122, 101], .str [98, 121, 116, 101, 95, 115, 105, 122, 101], .str [108, 101, 110, 103, 116, 104]]
def throws : List AV := [.str [101, 114, 114, 111, 114], .str [101, 120, 105, 116], .str [116, 104, 114, 111, 119]]
def five64 (a b c d e : AV) : Option AV := (fillA (fun i => some (i * 1, 1)) (rep 5 [.str []]) [(0, a), (1, b), (2, c), (3, d), (4, e)]).map (.sl · 5 .tight)
theorem five64_str (a b c d e : List UInt8) : five64 (.str a) (.str b) (.str c) (.str d) (.str e) = some (.sl [.str a, .str b, .str c, .str d, .str e] 5 .tight) := rfl
theorem opA_five64 (call : FuncId → List Arg → Option Out) (q : Bool) (d : Option Tmp) (ty : TypeId) (pos : String) (af : Array Edge) (g : Option (Nat × Bool)) (t : Nat) (env : Env) (s : St) (x1 x2 x3 x4 x5 : Operand) :
    opA Tryz.prog cfg0 call q ⟨d, .buildSlice 59 5 #[(0, x1), (1, x2), (2, x3), (3, x4), (4, x5)], ty, pos, af, g⟩ t env s = (five64 (ev env x1) (ev env x2) (ev env x3) (ev env x4) (ev env x5)).map (·, s) := by
  rw [opA_bs]
  simp only [tk64, esz9, zero9, Option.bind_some, List.map_cons, List.map_nil]
  rfl
def three64 (a b c : AV) : Option AV := (fillA (fun i => some (i * 1, 1)) (rep 3 [.str []]) [(0, a), (1, b), (2, c)]).map (.sl · 3 .tight)
theorem three64_str (a b c : List UInt8) : three64 (.str a) (.str b) (.str c) = some (.sl [.str a, .str b, .str c] 3 .tight) := rfl
def zErr : List AV := [.str [], .int .i64 0, .bool false, .sl [] 0 .nil, .str [], .int .i64 0, .sl [] 0 .nil]
theorem tkE : tkOf Tryz.prog 31 = .st := by kernel_rfl
theorem eszE : esz Tryz.prog 31 = some 7 := by kernel_rfl
theorem shE : shOf Tryz.prog 31 = some (true, 7) := by kernel_rfl
theorem zeroE : zeroOf Tryz.prog 31 = some zErr := by kernel_rfl
theorem plE : placesA Tryz.prog 31 = some [(0, 1), (1, 6)] := by kernel_rfl
theorem bdE_ : buildA Tryz.prog 31 [] = some (.agg zErr) := by
  simp only [buildA, zeroE, tkE, plE, Option.bind_some, fillA]; rfl
theorem st_E (s : St) (p k : Nat) : storeA Tryz.prog 31 s (.ptr p k 0) (.agg zErr) = stT (s p) p k s zErr := by
  simp only [storeA, settle, Option.bind_some, stT]
  cases h : s p with
  | mk t c => cases c <;> simp [eszE, zErr]
theorem stE_z (t k p : Nat) (s : St) : stT ⟨t, .buf zErr⟩ p k s zErr = if t = k then some (upd s p ⟨t, .buf zErr⟩) else none := by
  simp [stT, splice, zErr]
theorem ldE_z (t k : Nat) : ldE Tryz.prog 31 ⟨t, .buf zErr⟩ k 0 = if t = k then some (.agg zErr) else none := by
  rw [ldE_buf, cellsE_buf]
  by_cases h : t = k
  · simp [h, partA, shE, zErr]
  · simp [h]
theorem finish_T2 (k : Bool) (xs : List Arg) (a p e : Nat) (u : T) (t : Nat) (v : Bool) (env : Env) (s : St) (os : List (List AV)) (ha : env a = .ptr p e 0) (hs : s p = ⟨e, .buf (cellsT u)⟩) (hv : env t = .bool v) (ho : outsA s 0 xs = some os) :
    finishP Tryz.prog k xs #[.cell a 29, .tmp t] env s = some (.tree (.tup [encT u, .bool v]), os) := by
  have hl : loadA Tryz.prog 29 s (env a) = some (.agg (cellsT u)) := by rw [ha, zeo, hs, ldT_u, if_pos rfl]
  simp [finishP, isTmpR, rvA, hl, hv, settleL, settle, ho, encT]
theorem finish_T3 (k : Bool) (xs : List Arg) (a p e : Nat) (u : T) (b q e' : Nat) (t : Nat) (v : Bool) (env : Env) (s : St) (os : List (List AV)) (ha : env a = .ptr p e 0) (hs : s p = ⟨e, .buf (cellsT u)⟩) (hb : env b = .ptr q e' 0) (hq : s q = ⟨e', .buf zErr⟩) (hv : env t = .bool v) (ho : outsA s 0 xs = some os) :
    finishP Tryz.prog k xs #[.cell a 29, .cell b 31, .tmp t] env s = some (.tree (.tup [encT u, .agg zErr, .bool v]), os) := by
  have hl : loadA Tryz.prog 29 s (env a) = some (.agg (cellsT u)) := by rw [ha, zeo, hs, ldT_u, if_pos rfl]
  have hl2 : loadA Tryz.prog 31 s (env b) = some (.agg zErr) := by rw [hb, zeo, hq, ldE_z, if_pos rfl]
  simp [finishP, isTmpR, rvA, hl, hl2, hv, settleL, settle, ho, encT]
theorem one26_K1 (e : T) : one26 (.agg (cellsT e)) = some (.sl (cellsK [e]) 1 .tight) := one26_K e
end Go.Ab

/- The statement TermLists. Conditions: limbs in range; texts in range. -/
namespace Go.Ab
open Go.Proofs
set_option maxRecDepth 100000
set_option linter.unusedSimpArgs false

section
variable (R : Nat) (hR : 1000000 ≤ R) (hR2 : R ≤ 9223372036854775808) (ks : List T) (hl : ks.length ≤ 60) (n : Int)
include hR hl
end
end Go.Ab

/- What BifTexts compares: lists of a text's bytes. Conditions: lengths in range. -/
namespace Go.Ab
open Go.Proofs
set_option maxRecDepth 100000
set_option linter.unusedSimpArgs false

theorem nodK_txt : ∀ s : List UInt8, nodK (txtT s) = s.length
  | [] => rfl
  | c :: s => by
    have h := nodK_txt s
    have e : nodT (smallT (c.toNat : Int)) = 1 := rfl
    simp only [txtT, List.map_cons, nodK, List.length_cons] at h ⊢
    omega
theorem nod_txt (s : List UInt8) : nodT (listT (txtT s) nilT') = 2 * s.length + 1 := by
  rw [nod_list, nodK_txt, txt_len]
  have e : nodT nilT' = 1 := rfl
  omega
theorem few_small {m : Nat} (hm : 12 ≤ m) (v : Int) (h : I64 v) : fewT m (smallT v) := by
  have h1 : (digs v.natAbs).length ≤ 2 := by
    obtain ⟨h1, h2⟩ := h
    have hb : v.natAbs < B ^ 2 := by
      have : B ^ 2 = 18446744073709551616 := by decide
      omega
    exact digs_len _ 2 hb
  simp only [smallT, fewT, fewK, and_true, List.length_nil]
  exact ⟨by omega, by omega⟩
theorem few_txt {m : Nat} (hm : 12 ≤ m) : ∀ s : List UInt8, fewK m (txtT s)
  | [] => by simp [txtT, fewK]
  | c :: s => by
    have h := few_txt hm s
    simp only [txtT, List.map_cons, fewK] at h ⊢
    exact ⟨few_small hm _ (u8_64 c), h⟩
theorem ApI.proper {s : St} {d : Nat} {x : AV} {us : List Int} (h : ApI s d x us) (n D : Nat) (hn : 100000 ≤ n) (hx : ∀ x ∈ us, I64 x) : callQ (evalFn Tryz.prog cfg0 n (D+5)) 32 [x] = some (encT (listT ((us.take 60).map intT) nilT')) := by
  rcases h with ⟨rfl, rfl⟩ | ⟨_, t, rfl, _⟩
  · exact callQ_trees (vs := [.sl [] 0 .nil]) rfl (proper_eq n D hn [] .nil (by simp))
  · exact callQ_loose (vs := [.sl (intsA us) us.length (.tok d t)]) rfl rfl rfl (proper_eq n D hn us .loose hx)
def isOkB : Option Out → Bool
  | some (.tree (.bool true), []) => true
  | _ => false
theorem isOkB_eq {o : Option Out} (h : isOkB o = true) : o = some (.tree (.bool true), []) := by
  unfold isOkB at h
  split at h
  · rfl
  · cases h
theorem awakeB_eq : evalFn Tryz.prog cfg0 100000 60 7 [] = some (.tree (.bool true), []) := isOkB_eq (by kernel_rfl)
end Go.Ab

/- relictref03.Items of a list, relictref03.Many. Conditions: so many nodes at most. -/
namespace Go.Ab
open Go.Proofs
set_option maxRecDepth 100000
set_option linter.unusedSimpArgs false

set_option maxHeartbeats 8000000 in
theorem rMany_eq (n : Nat) (hn2 : n ≤ 1000000) : ∀ (d : Nat) (t : T) (m : Nat), htT t ≤ d → nodT t < n → m + nodT t ≤ 2000 →
    evalFn Tryz.prog cfg0 n d 38 [.tree (encT t), .tree (.int .i64 (m : Int))] = some (.tree (.int .i64 ((m + nodT t : Nat) : Int)), [[], []])
  | 0, t, m, hd, hnd, _ => by obtain ⟨k, b, lg, l, s, m, kg, ks⟩ := t; simp only [htT] at hd; omega
  | d + 1, t, m0, hd, hnd, hm => by
    have IH := rMany_eq n hn2 d
    rw [evalFn_go _ Tryz.func38 (by unfold Tryz.f38; rfl) (by unfold Tryz.f38; decide) (Nat.le_of_ble_eq_true (by unfold Tryz.f38; rfl)) (by kernel_rfl)]
    obtain ⟨k, b, lg, l, s, m, kg, ks⟩ := t
    simp only [htT] at hd
    simp only [nodT] at hnd hm ⊢
    have f0 := i_add Tryz.prog 3 (m0 : Int) 1 (by omega) (by omega)
    simp only [simB, zbo, Nat.reduceBEq, own0, ↓reduceIte, Nat.reduceEqDiff, Nat.reduceAdd, simA, simL, simN, Nat.zero_add, encT, cellsT, f0, den_loop]
    refine loop_ends (X := Nat) (fun i env s' => env 2 = .ptr 2 1 0 ∧ s' 2 = ⟨1, .buf (cellsT (.mk k b lg l s m kg ks))⟩ ∧ env 5 = .int .i64 (i : Int) ∧ env 1 = .int .i64 ((m0 : Int) + 1 + nodK (ks.take i)) ∧ i ≤ ks.length) (fun i => ks.length - i) (fun _ => (.tree (.int .i64 ((m0 + (nodK ks + 1) : Nat) : Int)), [[], []])) ?_ n 0 _ _ (by have := nodK_len ks; omega) ⟨(by simp only [zfr, ↓reduceIte, Nat.reduceEqDiff]; try rfl), by simp only [cellsT]; exact (by simp only [zfr, ↓reduceIte, Nat.reduceEqDiff]; try rfl), (by simp only [zfr, ↓reduceIte, Nat.reduceEqDiff]; try rfl), by simp only [List.take_zero, nodK]; exact (by simp only [zfr, ↓reduceIte, Nat.reduceEqDiff]; try rfl), Nat.zero_le _⟩
    rintro rr i hrr ih2 env st ⟨e2, j2, e5, e1, hi⟩
    simp only [cellsT] at j2
    cases hdr : ks.drop i with
    | nil =>
      have hil : i = ks.length := by have := congrArg List.length hdr; simp only [List.length_drop, List.length_nil] at this; omega
      subst hil
      rw [List.take_length] at e1
      have q1 : ¬ ((ks.length : Int) < (ks.length : Int)) := by omega
      have e1 : env 1 = .int .i64 ((m0 + (nodK ks + 1) : Nat) : Int) := by rw [e1]; congr 1; omega
      simp only [simB, zbo, Nat.reduceBEq, own0, ↓reduceIte, Nat.reduceEqDiff, Nat.reduceAdd, simL, simN, Nat.zero_add, e2, j2, e5, e1, faT_4, ldT_4, Nat.reduceAdd, lenTk, q1]
      exact finish_i _ _ _ _ _ _ _ (by simp only [zfr, ↓reduceIte, Nat.reduceEqDiff]; try rfl) rfl
    | cons kid r =>
      have hil : i < ks.length := by have := congrArg List.length hdr; simp only [List.length_drop, List.length_cons] at this; omega
      have kh := kids_ht ks i kid r hdr
      have kn := kids_nod ks i kid r hdr
      have ht : ks.take (i + 1) = ks.take i ++ [kid] := by
        rw [List.take_add_one]
        congr 1
        have : ks[i]? = some kid := by rw [← Nat.add_zero i, ← List.getElem?_drop, hdr]; rfl
        rw [this]; rfl
      have hle : nodK (ks.take (i + 1)) ≤ nodK ks := nodK_take ks (i + 1)
      have hsum : nodK (ks.take (i + 1)) = nodK (ks.take i) + nodT kid := by
        rw [ht, nodK_app]; simp only [nodK]; omega
      have q1 : (i : Int) < (ks.length : Int) := by omega
      have e1 : env 1 = .int .i64 ((m0 + 1 + nodK (ks.take i) : Nat) : Int) := by rw [e1]; congr 1
      have q2 : ((m0 + 1 + nodK (ks.take i) : Nat) : Int) ≤ 2000 := by omega
      have f5 := i_add Tryz.prog 3 (i : Int) 1 (by omega) (by have := nodK_len ks; omega)
      have cc := fun D st => callA_trees (cfg := cfg0) (d := D) (s := st) (f := 38) (vs := [encT kid, .int .i64 ((m0 + 1 + nodK (ks.take i) : Nat) : Int)]) rfl (IH kid (m0 + 1 + nodK (ks.take i)) (by omega) (by omega) (by omega))
      have ia := fun st => ia_K st ks (gr kg) i hil
      rw [hdr] at ia
      have ld := fun st => ld_K st kid r
      simp only [encT] at cc ld
      simp only [simB, zbo, Nat.reduceBEq, own0, ↓reduceIte, Nat.reduceEqDiff, Nat.reduceAdd, simL, simN, Nat.zero_add, e2, j2, e5, e1, faT_4, ldT_4, Nat.reduceAdd, lenTk, q1, q2, ia, ld, cc, f5]
      have x1 : (((m0 + 1 + nodK (ks.take i)) + nodT kid : Nat) : Int) = (m0 : Int) + 1 + nodK (ks.take (i + 1)) := by omega
      rw [x1]
      exact ih2 (i + 1) _ _ (by omega) rfl ⟨(by simp only [zfr, ↓reduceIte, Nat.reduceEqDiff, e2]; try rfl), by simp only [cellsT]; exact j2, (by simp only [zfr, ↓reduceIte, Nat.reduceEqDiff]; try rfl), (by simp only [zfr, ↓reduceIte, Nat.reduceEqDiff]; try rfl), by omega⟩
end Go.Ab
