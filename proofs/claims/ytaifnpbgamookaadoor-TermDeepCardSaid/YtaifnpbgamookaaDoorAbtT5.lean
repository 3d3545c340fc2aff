/- The statement TermKinds, abstractly. Conditions: limbs in range. -/
import Derived.Test.YtaifnpbgamookaaDoorAbtT4
namespace Go.Ab
open Go.Proofs
set_option maxRecDepth 100000
set_option linter.unusedSimpArgs false

section
variable (b : Bool) (g : Gk) (l : List Nat) (s : List UInt8)
theorem cmpK_all (hL : Limbs l) : ∀ i k, i < 9 → k < 9 → evalFn Tryd.prog cfg0 100000 14 22 [.tree (.agg (kT b g l s i)), .tree (.agg (kT b g l s k))] = some (.tree (.int .i64 (cmpN i k)), [[], []])
  | 0, 0, _, _ => cK_0_0 b g l s hL
  | 0, 1, _, _ => cK_0_1 b g l s
  | 0, 2, _, _ => cK_0_2 b g l s
  | 0, 3, _, _ => cK_0_3 b g l s
  | 0, 4, _, _ => cK_0_4 b g l s
  | 0, 5, _, _ => cK_0_5 b g l s
  | 0, 6, _, _ => cK_0_6 b g l s
  | 0, 7, _, _ => cK_0_7 b g l s
  | 0, 8, _, _ => cK_0_8 b g l s
  | 1, 0, _, _ => cK_1_0 b g l s
  | 1, 1, _, _ => cK_1_1 b g l s
  | 1, 2, _, _ => cK_1_2 b g l s
  | 1, 3, _, _ => cK_1_3 b g l s
  | 1, 4, _, _ => cK_1_4 b g l s
  | 1, 5, _, _ => cK_1_5 b g l s
  | 1, 6, _, _ => cK_1_6 b g l s
  | 1, 7, _, _ => cK_1_7 b g l s
  | 1, 8, _, _ => cK_1_8 b g l s
  | 2, 0, _, _ => cK_2_0 b g l s
  | 2, 1, _, _ => cK_2_1 b g l s
  | 2, 2, _, _ => cK_2_2 b g l s
  | 2, 3, _, _ => cK_2_3 b g l s
  | 2, 4, _, _ => cK_2_4 b g l s
  | 2, 5, _, _ => cK_2_5 b g l s
  | 2, 6, _, _ => cK_2_6 b g l s
  | 2, 7, _, _ => cK_2_7 b g l s
  | 2, 8, _, _ => cK_2_8 b g l s
  | 3, 0, _, _ => cK_3_0 b g l s
  | 3, 1, _, _ => cK_3_1 b g l s
  | 3, 2, _, _ => cK_3_2 b g l s
  | 3, 3, _, _ => cK_3_3 b g l s
  | 3, 4, _, _ => cK_3_4 b g l s
  | 3, 5, _, _ => cK_3_5 b g l s
  | 3, 6, _, _ => cK_3_6 b g l s
  | 3, 7, _, _ => cK_3_7 b g l s
  | 3, 8, _, _ => cK_3_8 b g l s
  | 4, 0, _, _ => cK_4_0 b g l s
  | 4, 1, _, _ => cK_4_1 b g l s
  | 4, 2, _, _ => cK_4_2 b g l s
  | 4, 3, _, _ => cK_4_3 b g l s
  | 4, 4, _, _ => cK_4_4 b g l s
  | 4, 5, _, _ => cK_4_5 b g l s
  | 4, 6, _, _ => cK_4_6 b g l s
  | 4, 7, _, _ => cK_4_7 b g l s
  | 4, 8, _, _ => cK_4_8 b g l s
  | 5, 0, _, _ => cK_5_0 b g l s
  | 5, 1, _, _ => cK_5_1 b g l s
  | 5, 2, _, _ => cK_5_2 b g l s
  | 5, 3, _, _ => cK_5_3 b g l s
  | 5, 4, _, _ => cK_5_4 b g l s
  | 5, 5, _, _ => cK_5_5 b g l s
  | 5, 6, _, _ => cK_5_6 b g l s
  | 5, 7, _, _ => cK_5_7 b g l s
  | 5, 8, _, _ => cK_5_8 b g l s
  | 6, 0, _, _ => cK_6_0 b g l s
  | 6, 1, _, _ => cK_6_1 b g l s
  | 6, 2, _, _ => cK_6_2 b g l s
  | 6, 3, _, _ => cK_6_3 b g l s
  | 6, 4, _, _ => cK_6_4 b g l s
  | 6, 5, _, _ => cK_6_5 b g l s
  | 6, 6, _, _ => cK_6_6 b g l s
  | 6, 7, _, _ => cK_6_7 b g l s
  | 6, 8, _, _ => cK_6_8 b g l s
  | 7, 0, _, _ => cK_7_0 b g l s
  | 7, 1, _, _ => cK_7_1 b g l s
  | 7, 2, _, _ => cK_7_2 b g l s
  | 7, 3, _, _ => cK_7_3 b g l s
  | 7, 4, _, _ => cK_7_4 b g l s
  | 7, 5, _, _ => cK_7_5 b g l s
  | 7, 6, _, _ => cK_7_6 b g l s
  | 7, 7, _, _ => cK_7_7 b g l s
  | 7, 8, _, _ => cK_7_8 b g l s
  | 8, 0, _, _ => cK_8_0 b g l s
  | 8, 1, _, _ => cK_8_1 b g l s
  | 8, 2, _, _ => cK_8_2 b g l s
  | 8, 3, _, _ => cK_8_3 b g l s
  | 8, 4, _, _ => cK_8_4 b g l s
  | 8, 5, _, _ => cK_8_5 b g l s
  | 8, 6, _, _ => cK_8_6 b g l s
  | 8, 7, _, _ => cK_8_7 b g l s
  | 8, 8, _, _ => cK_8_8 b g l s
  | _ + 9, _, h, _ => absurd h (by omega)
  | 0, _ + 9, _, h => absurd h (by omega)
  | 1, _ + 9, _, h => absurd h (by omega)
  | 2, _ + 9, _, h => absurd h (by omega)
  | 3, _ + 9, _, h => absurd h (by omega)
  | 4, _ + 9, _, h => absurd h (by omega)
  | 5, _ + 9, _, h => absurd h (by omega)
  | 6, _ + 9, _, h => absurd h (by omega)
  | 7, _ + 9, _, h => absurd h (by omega)
  | 8, _ + 9, _, h => absurd h (by omega)
theorem sameK_all (h20 : l.length ≤ 20) : ∀ i k, i < 9 → k < 9 → evalFn Tryd.prog cfg0 100000 14 20 [.tree (.agg (kT b g l s i)), .tree (.agg (kT b g l s k))] = some (.tree (.bool (decide (i = k))), [[], []])
  | 0, 0, _, _ => sK_0_0 b g l s h20
  | 0, 1, _, _ => sK_0_1 b g l s
  | 0, 2, _, _ => sK_0_2 b g l s
  | 0, 3, _, _ => sK_0_3 b g l s
  | 0, 4, _, _ => sK_0_4 b g l s
  | 0, 5, _, _ => sK_0_5 b g l s
  | 0, 6, _, _ => sK_0_6 b g l s
  | 0, 7, _, _ => sK_0_7 b g l s
  | 0, 8, _, _ => sK_0_8 b g l s
  | 1, 0, _, _ => sK_1_0 b g l s
  | 1, 1, _, _ => sK_1_1 b g l s
  | 1, 2, _, _ => sK_1_2 b g l s
  | 1, 3, _, _ => sK_1_3 b g l s
  | 1, 4, _, _ => sK_1_4 b g l s
  | 1, 5, _, _ => sK_1_5 b g l s
  | 1, 6, _, _ => sK_1_6 b g l s
  | 1, 7, _, _ => sK_1_7 b g l s
  | 1, 8, _, _ => sK_1_8 b g l s
  | 2, 0, _, _ => sK_2_0 b g l s
  | 2, 1, _, _ => sK_2_1 b g l s
  | 2, 2, _, _ => sK_2_2 b g l s
  | 2, 3, _, _ => sK_2_3 b g l s
  | 2, 4, _, _ => sK_2_4 b g l s
  | 2, 5, _, _ => sK_2_5 b g l s
  | 2, 6, _, _ => sK_2_6 b g l s
  | 2, 7, _, _ => sK_2_7 b g l s
  | 2, 8, _, _ => sK_2_8 b g l s
  | 3, 0, _, _ => sK_3_0 b g l s
  | 3, 1, _, _ => sK_3_1 b g l s
  | 3, 2, _, _ => sK_3_2 b g l s
  | 3, 3, _, _ => sK_3_3 b g l s
  | 3, 4, _, _ => sK_3_4 b g l s
  | 3, 5, _, _ => sK_3_5 b g l s
  | 3, 6, _, _ => sK_3_6 b g l s
  | 3, 7, _, _ => sK_3_7 b g l s
  | 3, 8, _, _ => sK_3_8 b g l s
  | 4, 0, _, _ => sK_4_0 b g l s
  | 4, 1, _, _ => sK_4_1 b g l s
  | 4, 2, _, _ => sK_4_2 b g l s
  | 4, 3, _, _ => sK_4_3 b g l s
  | 4, 4, _, _ => sK_4_4 b g l s
  | 4, 5, _, _ => sK_4_5 b g l s
  | 4, 6, _, _ => sK_4_6 b g l s
  | 4, 7, _, _ => sK_4_7 b g l s
  | 4, 8, _, _ => sK_4_8 b g l s
  | 5, 0, _, _ => sK_5_0 b g l s
  | 5, 1, _, _ => sK_5_1 b g l s
  | 5, 2, _, _ => sK_5_2 b g l s
  | 5, 3, _, _ => sK_5_3 b g l s
  | 5, 4, _, _ => sK_5_4 b g l s
  | 5, 5, _, _ => sK_5_5 b g l s
  | 5, 6, _, _ => sK_5_6 b g l s
  | 5, 7, _, _ => sK_5_7 b g l s
  | 5, 8, _, _ => sK_5_8 b g l s
  | 6, 0, _, _ => sK_6_0 b g l s
  | 6, 1, _, _ => sK_6_1 b g l s
  | 6, 2, _, _ => sK_6_2 b g l s
  | 6, 3, _, _ => sK_6_3 b g l s
  | 6, 4, _, _ => sK_6_4 b g l s
  | 6, 5, _, _ => sK_6_5 b g l s
  | 6, 6, _, _ => sK_6_6 b g l s
  | 6, 7, _, _ => sK_6_7 b g l s
  | 6, 8, _, _ => sK_6_8 b g l s
  | 7, 0, _, _ => sK_7_0 b g l s
  | 7, 1, _, _ => sK_7_1 b g l s
  | 7, 2, _, _ => sK_7_2 b g l s
  | 7, 3, _, _ => sK_7_3 b g l s
  | 7, 4, _, _ => sK_7_4 b g l s
  | 7, 5, _, _ => sK_7_5 b g l s
  | 7, 6, _, _ => sK_7_6 b g l s
  | 7, 7, _, _ => sK_7_7 b g l s
  | 7, 8, _, _ => sK_7_8 b g l s
  | 8, 0, _, _ => sK_8_0 b g l s
  | 8, 1, _, _ => sK_8_1 b g l s
  | 8, 2, _, _ => sK_8_2 b g l s
  | 8, 3, _, _ => sK_8_3 b g l s
  | 8, 4, _, _ => sK_8_4 b g l s
  | 8, 5, _, _ => sK_8_5 b g l s
  | 8, 6, _, _ => sK_8_6 b g l s
  | 8, 7, _, _ => sK_8_7 b g l s
  | 8, 8, _, _ => sK_8_8 b g l s
  | _ + 9, _, h, _ => absurd h (by omega)
  | 0, _ + 9, _, h => absurd h (by omega)
  | 1, _ + 9, _, h => absurd h (by omega)
  | 2, _ + 9, _, h => absurd h (by omega)
  | 3, _ + 9, _, h => absurd h (by omega)
  | 4, _ + 9, _, h => absurd h (by omega)
  | 5, _ + 9, _, h => absurd h (by omega)
  | 6, _ + 9, _, h => absurd h (by omega)
  | 7, _ + 9, _, h => absurd h (by omega)
  | 8, _ + 9, _, h => absurd h (by omega)
def K54 : List AV := [kT b g l s 0, kT b g l s 1, kT b g l s 2, kT b g l s 3, kT b g l s 4, kT b g l s 5, kT b g l s 6, kT b g l s 7, kT b g l s 8].flatten
def Z54 : List AV := (List.replicate 9 [AV.int .i64 0, .bool false, .sl [] 0 .nil, .str [], .int .i64 0, .sl [] 0 .nil]).flatten
theorem tkA : tkOf Tryd.prog 46 = .arr 9 28 := by kernel_rfl
theorem eszA : esz Tryd.prog 46 = some 54 := by kernel_rfl
theorem zeroA : zeroOf Tryd.prog 46 = some Z54 := by kernel_rfl
theorem bdA : buildA Tryd.prog 46 [(0, .agg [.int .i64 1, .bool b, encL g l, .str [], .int .i64 0, .sl [] 0 .nil]), (1, .agg [.int .i64 2, .bool false, .sl [] 0 .nil, .str s, .int .i64 0, .sl [] 0 .nil]), (2, .agg [.int .i64 7, .bool false, .sl [] 0 .nil, .str [], .int .i64 3, .sl [] 0 .nil]), (3, .agg [.int .i64 5, .bool false, .sl [] 0 .nil, .str [], .int .i64 0, .sl [] 0 .nil]), (4, .agg [.int .i64 3, .bool false, .sl [] 0 .nil, .str [], .int .i64 0, .sl [] 0 .nil]), (5, .agg [.int .i64 4, .bool false, .sl [] 0 .nil, .str [], .int .i64 0, .sl [.int .i64 3, .bool false, .sl [] 0 .nil, .str [], .int .i64 0, .sl [] 0 .nil, .int .i64 3, .bool false, .sl [] 0 .nil, .str [], .int .i64 0, .sl [] 0 .nil] 2 .tight]), (6, .agg [.int .i64 6, .bool false, .sl [] 0 .nil, .str s, .int .i64 0, .sl [] 0 .nil]), (7, .agg [.int .i64 8, .bool false, .sl [] 0 .nil, .str s, .int .i64 0, .sl [] 0 .nil]), (8, .agg [.int .i64 9, .bool false, .sl [] 0 .nil, .str [], .int .i64 7, .sl [] 0 .nil])] = some (.agg (K54 b g l s)) := by kernel_rfl
theorem K54_len : (K54 b g l s).length = 54 := rfl
theorem Z54_len : Z54.length = 54 := rfl
theorem spl54 : splice Z54 0 (K54 b g l s) = K54 b g l s := rfl
def stA (e : Ent) (p k : Nat) (st : St) (ys : List AV) : Option St := match e with | ⟨t, .buf xs⟩ => if t = k then (if 54 ≤ xs.length then some (upd st p ⟨t, .buf (splice xs 0 ys)⟩) else none) else none | _ => none
theorem st_A (st : St) (p k : Nat) : storeA Tryd.prog 46 st (.ptr p k 0) (.agg (K54 b g l s)) = stA (st p) p k st (K54 b g l s) := by
  simp only [storeA, settle, Option.bind_some, stA]
  cases h : st p with
  | mk t c => cases c <;> simp [eszA, K54_len]
theorem stA_new (t p k : Nat) (st : St) : stA ⟨t, .buf Z54⟩ p k st (K54 b g l s) = if t = k then some (upd st p ⟨t, .buf (K54 b g l s)⟩) else none := by
  rw [stA, if_pos (show 54 ≤ Z54.length from Nat.le_refl _), spl54]
def iaA (e : Ent) (p k : Nat) (i : Int) : Option AV := if (cellsE e k).isSome = true ∧ 0 ≤ i ∧ i < 9 then some (.ptr p k (i.toNat * 6)) else none
theorem ia_A (st : St) (p k : Nat) (i : Int) : indexAddrA Tryd.prog 46 st (.ptr p k 0) (.int .i64 i) = iaA (st p) p k i := by
  simp only [indexAddrA, tkA, eszT, Option.bind_some, live, cellsAt_E, iaA, Nat.zero_add]; rfl
theorem iaA_buf (t p k : Nat) (i : Int) (xs : List AV) : iaA ⟨t, .buf xs⟩ p k i = if t = k then (if 0 ≤ i ∧ i < 9 then some (.ptr p k (i.toNat * 6)) else none) else none := by
  rw [iaA, cellsE_buf]
  by_cases e : t = k <;> simp [e]
theorem part54 : ∀ i, i < 9 → partA Tryd.prog 28 (K54 b g l s) (i * 6) = some (.agg (kT b g l s i))
  | 0, _ => by rw [partA, shT]; rfl
  | 1, _ => by rw [partA, shT]; rfl
  | 2, _ => by rw [partA, shT]; rfl
  | 3, _ => by rw [partA, shT]; rfl
  | 4, _ => by rw [partA, shT]; rfl
  | 5, _ => by rw [partA, shT]; rfl
  | 6, _ => by rw [partA, shT]; rfl
  | 7, _ => by rw [partA, shT]; rfl
  | 8, _ => by rw [partA, shT]; rfl
  | _ + 9, h => absurd h (by omega)
theorem ldK (t k i : Nat) (hi : i < 9) : ldE Tryd.prog 28 ⟨t, .buf (K54 b g l s)⟩ k (i * 6) = if t = k then some (.agg (kT b g l s i)) else none := by
  rw [ldE, cellsE_buf]
  by_cases h : t = k
  · rw [if_pos h, if_pos h, Option.bind_some, part54 b g l s i hi]
  · rw [if_neg h, if_neg h]; rfl
end
theorem bdT_4t (k : Int) (xs : List AV) (m : Nat) : buildA Tryd.prog 28 [(0, .int .i64 k), (4, .sl xs m .tight)] = some (.agg [.int .i64 k, .bool false, .sl [] 0 .nil, .str [], .int .i64 0, .sl xs m .tight]) := bdT_4 k xs m .t
def two26 (x y : AV) : Option AV := (fillA (fun i => some (i * 6, 6)) (rep 2 [.int .i64 0, .bool false, .sl [] 0 .nil, .str [], .int .i64 0, .sl [] 0 .nil]) [(0, x), (1, y)]).map (.sl · 2 .tight)
theorem two26_agg (a b c d e f a' b' c' d' e' f' : AV) : two26 (.agg [a, b, c, d, e, f]) (.agg [a', b', c', d', e', f']) = some (.sl [a, b, c, d, e, f, a', b', c', d', e', f'] 2 .tight) := rfl
theorem opA_two26 (call : FuncId → List Arg → Option Out) (q : Bool) (d : Option Tmp) (ty : TypeId) (pos : String) (af : Array Edge) (g : Option (Nat × Bool)) (t : Nat) (env : Env) (s : St) (x y : Operand) :
    opA Tryd.prog cfg0 call q ⟨d, .buildSlice 26 2 #[(0, x), (1, y)], ty, pos, af, g⟩ t env s = (two26 (ev env x) (ev env y)).map (·, s) := by
  rw [opA_bs]
  simp only [tkTk, eszT, zeroT, Option.bind_some, List.map_cons, List.map_nil]
  rfl
theorem st0_4' (a b c d : AV) : st0 [.tree a, .tree b, .tree c, .tree d] = dead := by
  funext p
  match p with
  | 0 => rfl
  | 1 => rfl
  | 2 => rfl
  | 3 => rfl
  | p + 4 => rfl
theorem len9' (st : St) (b : List UInt8) : lenA Tryd.prog 9 st (.str b) = some (.int .i64 (b.length : Int)) := by simp only [lenA, tk9]
set_option maxHeartbeats 32000000 in
theorem kinds_eqN (p q : Int) (b : Bool) (g : Gk) (l : List Nat) (hL : Limbs l) (s : List UInt8) : evalFn Tryd.prog cfg0 100000 15 8 [.tree (.int .i64 p), .tree (.int .i64 q), .tree (encA b g l), .tree (.str s)] = some (.tree (.bool true), [[], [], [], []]) := by
  rw [evalFn_go _ Tryd.func8 (by unfold Tryd.f8; rfl) (by unfold Tryd.f8; decide) (Nat.le_of_ble_eq_true (by unfold Tryd.f8; rfl)) (by kernel_rfl)]
  have wq := callQ_trees (f := 12) (vs := []) rfl awakeT_eq
  have hp := place_range p 9 (by decide)
  have hq := place_range q 9 (by decide)
  have c0 := fun D st => cPlace 100000 13 p 9 (by decide) (by decide) D st
  have c1 := fun D st => cPlace 100000 13 q 9 (by decide) (by decide) D st
  obtain ⟨i, hi⟩ : ∃ i : Nat, placeN p 9 = (i : Int) := ⟨(placeN p 9).toNat, by omega⟩
  obtain ⟨k, hk⟩ : ∃ k : Nat, placeN q 9 = (k : Int) := ⟨(placeN q 9).toNat, by omega⟩
  rw [hi] at c0 hp
  rw [hk] at c1 hq
  have hi9 : i < 9 := by omega
  have hk9 : k < 9 := by omega
  simp only [zaa, zab, zac, zad, zae, zaf, zag, zah, zai, zaj, zak, zal, zam, zan, zao, zap, zaq, zar, zas, zat, zau, zav, zaw, zax, zay, zaz, zba, zbb, zbc, zbd, zbe, zbf, zbg, zbh, zbi, zbj, Nat.reduceBEq, Bool.or_self, Bool.or_false, Bool.or_true, Bool.and_true, Bool.and_false, Bool.true_and, Bool.false_and, Option.isNone_none, Option.isNone_some, Option.isSome_some, Option.isSome_none, zbk, zbl, zbm, zbn, zbo, zbp, zbq, zbr, zbs, zbt, zbu, zbv, zbw, zbx, zby, zbz, zca, zcb, zcc, zcd, zce, zcf, zcg, zch, zci, zcj, zck, zcl, zcm, zcn, zco, zcp, zcq, zcr, zcs, zct, zcu, zcv, zcw, zcx, zcy, zcz, zda, zdb, zdc, zdd, zde, zdf, Option.getD_some, Option.getD_none, zet, zeu, zev, zew, zex, zey, zez, zfa, Option.map_some, Option.map_none, Option.bind_some, List.map_cons, List.map_nil, List.cons_append, List.nil_append, ↓reduceIte, Nat.reduceEqDiff, Nat.reduceAdd, decide_true, decide_false, Bool.true_eq_false, Bool.false_eq_true, env0, List.getElem?_cons_zero, List.getElem?_cons_succ, zdg, zdh, zdi, zdj, zdk, zdl, zdm, zdn, ia22, ld31, zdo, zdp, zdq, zdr, zds, zdt, zdu, zdv, zdw, zdx, zdy, zdz, zea, zeb, zec, fa_0, fa_1, zed, bd_0, bd_2, zee, fd_1, zef, Nat.zero_add, st0_4', bdT_1, bdT_2, bdT_3, bdT_0, opA_two26, two26_agg, bdT_4t, bdA b g l s, zeroA, st_A, stA_new]
  refine forgetS (fun st => callA cfg0 (evalFn Tryd.prog cfg0 100000 14) 31 st 9 [.int .i64 p, .int .i64 9]) (fun env st => env 1 = .int .i64 q ∧ env 3 = .str s ∧ env 6 = .ptr 6 1 0 ∧ env 9 = .ptr 9 1 0 ∧ st 6 = ⟨1, .buf [.bool b, encL g l]⟩ ∧ st 9 = ⟨1, .buf (K54 b g l s)⟩) ⟨by first | (simp only [zfa, ↓reduceIte, Nat.reduceEqDiff]; done) | (simp only [zfa, ↓reduceIte, Nat.reduceEqDiff]; rfl), by first | (simp only [zfa, ↓reduceIte, Nat.reduceEqDiff]; done) | (simp only [zfa, ↓reduceIte, Nat.reduceEqDiff]; rfl), by first | (simp only [zfa, ↓reduceIte, Nat.reduceEqDiff]; done) | (simp only [zfa, ↓reduceIte, Nat.reduceEqDiff]; rfl), by first | (simp only [zfa, ↓reduceIte, Nat.reduceEqDiff]; done) | (simp only [zfa, ↓reduceIte, Nat.reduceEqDiff]; rfl), by first | (simp only [zfa, ↓reduceIte, Nat.reduceEqDiff]; done) | (simp only [zfa, ↓reduceIte, Nat.reduceEqDiff]; rfl), by first | (simp only [zfa, ↓reduceIte, Nat.reduceEqDiff]; done) | (simp only [zfa, ↓reduceIte, Nat.reduceEqDiff]; rfl)⟩ ?_
  intro env st ⟨e1, e3, e6, e9, j6, j9⟩
  have eb := bool_eql 4 tk4
  have x1 : (0 : Int) ≤ (i : Int) ∧ (i : Int) < 9 := by omega
  have x2 : (0 : Int) ≤ (k : Int) ∧ (k : Int) < 9 := by omega
  by_cases h20 : (l.length : Int) ≤ 20
  · by_cases h500 : (s.length : Int) ≤ 500
    · have u1 := callQ_trees (f := 22) (vs := [.agg (kT b g l s i), .agg (kT b g l s k)]) rfl (cmpK_all b g l s hL i k hi9 hk9)
      have u2 := callQ_trees (f := 20) (vs := [.agg (kT b g l s i), .agg (kT b g l s k)]) rfl (sameK_all b g l s (by omega) i k hi9 hk9)
      have l1 := fun t k => ldK b g l s t k i hi9
      have l2 := fun t k' => ldK b g l s t k' k hk9
      have e0 : ((i : Int) == (k : Int)) = decide (i = k) := by
        rw [Bool.eq_iff_iff, beq_iff_eq, decide_eq_true_eq]; omega
      have e5 : (decide (i = k) == decide (i = k)) = true := beq_self_eq_true _
      rcases Nat.lt_trichotomy i k with h | h | h
      · have q1 : (i : Int) < (k : Int) := by omega
        have q2 : ¬ (i : Int) > (k : Int) := by omega
        have q3 : cmpN i k = -1 := by unfold cmpN; rw [if_pos h]
        rw [q3] at u1
        have q4 : ((-1 : Int) == -1) = true := rfl
        simp only [zaa, zab, zac, zad, zae, zaf, zag, zah, zai, zaj, zak, zal, zam, zan, zao, zap, zaq, zar, zas, zat, zau, zav, zaw, zax, zay, zaz, zba, zbb, zbc, zbd, zbe, zbf, zbg, zbh, zbi, zbj, Nat.reduceBEq, Bool.or_self, Bool.or_false, Bool.or_true, Bool.and_true, Bool.and_false, Bool.true_and, Bool.false_and, Option.isNone_none, Option.isNone_some, Option.isSome_some, Option.isSome_none, zbk, zbl, zbm, zbn, zbo, zbp, zbq, zbr, zbs, zbt, zbu, zbv, zbw, zbx, zby, zbz, zca, zcb, zcc, zcd, zce, zcf, zcg, zch, zci, zcj, zck, zcl, zcm, zcn, zco, zcp, zcq, zcr, zcs, zct, zcu, zcv, zcw, zcx, zcy, zcz, zda, zdb, zdc, zdd, zde, zdf, Option.getD_some, Option.getD_none, zet, zeu, zev, zew, zex, zey, zez, zfa, Option.map_some, Option.map_none, Option.bind_some, List.map_cons, List.map_nil, List.cons_append, List.nil_append, ↓reduceIte, Nat.reduceEqDiff, Nat.reduceAdd, decide_true, decide_false, Bool.true_eq_false, Bool.false_eq_true, env0, List.getElem?_cons_zero, List.getElem?_cons_succ, zdg, zdh, zdi, zdj, zdk, zdl, zdm, zdn, ia22, ld31, zdo, zdp, zdq, zdr, zds, zdt, zdu, zdv, zdw, zdx, zdy, zdz, zea, zeb, zec, fa_0, fa_1, zed, bd_0, bd_2, zee, fd_1, zef, Nat.zero_add, e1, e3, e6, e9, j6, j9, c0, c1, eb, h20, h500, len9', ia_A, iaA_buf, x1, x2, and_self, Int.toNat_natCast, zdx, l1, l2, u1, u2, q1, q2, q4, e0, e5, wq]
        exact finish_b _ _ _ _ _ _ _ (by simp only [zfa, ↓reduceIte, Nat.reduceEqDiff]) rfl
      · have q1 : ¬ (i : Int) < (k : Int) := by omega
        have q2 : ¬ (i : Int) > (k : Int) := by omega
        have q3 : cmpN i k = 0 := by unfold cmpN; rw [if_neg (by omega), if_neg (by omega)]
        rw [q3] at u1
        have q4 : ((0 : Int) == 0) = true := rfl
        simp only [zaa, zab, zac, zad, zae, zaf, zag, zah, zai, zaj, zak, zal, zam, zan, zao, zap, zaq, zar, zas, zat, zau, zav, zaw, zax, zay, zaz, zba, zbb, zbc, zbd, zbe, zbf, zbg, zbh, zbi, zbj, Nat.reduceBEq, Bool.or_self, Bool.or_false, Bool.or_true, Bool.and_true, Bool.and_false, Bool.true_and, Bool.false_and, Option.isNone_none, Option.isNone_some, Option.isSome_some, Option.isSome_none, zbk, zbl, zbm, zbn, zbo, zbp, zbq, zbr, zbs, zbt, zbu, zbv, zbw, zbx, zby, zbz, zca, zcb, zcc, zcd, zce, zcf, zcg, zch, zci, zcj, zck, zcl, zcm, zcn, zco, zcp, zcq, zcr, zcs, zct, zcu, zcv, zcw, zcx, zcy, zcz, zda, zdb, zdc, zdd, zde, zdf, Option.getD_some, Option.getD_none, zet, zeu, zev, zew, zex, zey, zez, zfa, Option.map_some, Option.map_none, Option.bind_some, List.map_cons, List.map_nil, List.cons_append, List.nil_append, ↓reduceIte, Nat.reduceEqDiff, Nat.reduceAdd, decide_true, decide_false, Bool.true_eq_false, Bool.false_eq_true, env0, List.getElem?_cons_zero, List.getElem?_cons_succ, zdg, zdh, zdi, zdj, zdk, zdl, zdm, zdn, ia22, ld31, zdo, zdp, zdq, zdr, zds, zdt, zdu, zdv, zdw, zdx, zdy, zdz, zea, zeb, zec, fa_0, fa_1, zed, bd_0, bd_2, zee, fd_1, zef, Nat.zero_add, e1, e3, e6, e9, j6, j9, c0, c1, eb, h20, h500, len9', ia_A, iaA_buf, x1, x2, and_self, Int.toNat_natCast, zdx, l1, l2, u1, u2, q1, q2, q4, e0, e5, wq]
        exact finish_b _ _ _ _ _ _ _ (by simp only [zfa, ↓reduceIte, Nat.reduceEqDiff]) rfl
      · have q1 : ¬ (i : Int) < (k : Int) := by omega
        have q2 : (i : Int) > (k : Int) := by omega
        have q3 : cmpN i k = 1 := by unfold cmpN; rw [if_neg (by omega), if_pos h]
        rw [q3] at u1
        have q4 : ((1 : Int) == 1) = true := rfl
        simp only [zaa, zab, zac, zad, zae, zaf, zag, zah, zai, zaj, zak, zal, zam, zan, zao, zap, zaq, zar, zas, zat, zau, zav, zaw, zax, zay, zaz, zba, zbb, zbc, zbd, zbe, zbf, zbg, zbh, zbi, zbj, Nat.reduceBEq, Bool.or_self, Bool.or_false, Bool.or_true, Bool.and_true, Bool.and_false, Bool.true_and, Bool.false_and, Option.isNone_none, Option.isNone_some, Option.isSome_some, Option.isSome_none, zbk, zbl, zbm, zbn, zbo, zbp, zbq, zbr, zbs, zbt, zbu, zbv, zbw, zbx, zby, zbz, zca, zcb, zcc, zcd, zce, zcf, zcg, zch, zci, zcj, zck, zcl, zcm, zcn, zco, zcp, zcq, zcr, zcs, zct, zcu, zcv, zcw, zcx, zcy, zcz, zda, zdb, zdc, zdd, zde, zdf, Option.getD_some, Option.getD_none, zet, zeu, zev, zew, zex, zey, zez, zfa, Option.map_some, Option.map_none, Option.bind_some, List.map_cons, List.map_nil, List.cons_append, List.nil_append, ↓reduceIte, Nat.reduceEqDiff, Nat.reduceAdd, decide_true, decide_false, Bool.true_eq_false, Bool.false_eq_true, env0, List.getElem?_cons_zero, List.getElem?_cons_succ, zdg, zdh, zdi, zdj, zdk, zdl, zdm, zdn, ia22, ld31, zdo, zdp, zdq, zdr, zds, zdt, zdu, zdv, zdw, zdx, zdy, zdz, zea, zeb, zec, fa_0, fa_1, zed, bd_0, bd_2, zee, fd_1, zef, Nat.zero_add, e1, e3, e6, e9, j6, j9, c0, c1, eb, h20, h500, len9', ia_A, iaA_buf, x1, x2, and_self, Int.toNat_natCast, zdx, l1, l2, u1, u2, q1, q2, q4, e0, e5, wq]
        exact finish_b _ _ _ _ _ _ _ (by simp only [zfa, ↓reduceIte, Nat.reduceEqDiff]) rfl
    · have h501 : (s.length : Int) > 500 := by omega
      have h21 : ¬ (l.length : Int) > 20 := by omega
      rcases Nat.lt_trichotomy i k with h | h | h
      · have q1 : (i : Int) < (k : Int) := by omega
        have q2 : ¬ (i : Int) > (k : Int) := by omega
        simp only [zaa, zab, zac, zad, zae, zaf, zag, zah, zai, zaj, zak, zal, zam, zan, zao, zap, zaq, zar, zas, zat, zau, zav, zaw, zax, zay, zaz, zba, zbb, zbc, zbd, zbe, zbf, zbg, zbh, zbi, zbj, Nat.reduceBEq, Bool.or_self, Bool.or_false, Bool.or_true, Bool.and_true, Bool.and_false, Bool.true_and, Bool.false_and, Option.isNone_none, Option.isNone_some, Option.isSome_some, Option.isSome_none, zbk, zbl, zbm, zbn, zbo, zbp, zbq, zbr, zbs, zbt, zbu, zbv, zbw, zbx, zby, zbz, zca, zcb, zcc, zcd, zce, zcf, zcg, zch, zci, zcj, zck, zcl, zcm, zcn, zco, zcp, zcq, zcr, zcs, zct, zcu, zcv, zcw, zcx, zcy, zcz, zda, zdb, zdc, zdd, zde, zdf, Option.getD_some, Option.getD_none, zet, zeu, zev, zew, zex, zey, zez, zfa, Option.map_some, Option.map_none, Option.bind_some, List.map_cons, List.map_nil, List.cons_append, List.nil_append, ↓reduceIte, Nat.reduceEqDiff, Nat.reduceAdd, decide_true, decide_false, Bool.true_eq_false, Bool.false_eq_true, env0, List.getElem?_cons_zero, List.getElem?_cons_succ, zdg, zdh, zdi, zdj, zdk, zdl, zdm, zdn, ia22, ld31, zdo, zdp, zdq, zdr, zds, zdt, zdu, zdv, zdw, zdx, zdy, zdz, zea, zeb, zec, fa_0, fa_1, zed, bd_0, bd_2, zee, fd_1, zef, Nat.zero_add, e1, e3, e6, e9, j6, j9, c0, c1, eb, h20, h500, h501, h21, len9', q1, q2, wq]
        exact finish_b _ _ _ _ _ _ _ (by simp only [zfa, ↓reduceIte, Nat.reduceEqDiff]) rfl
      · have q1 : ¬ (i : Int) < (k : Int) := by omega
        have q2 : ¬ (i : Int) > (k : Int) := by omega
        simp only [zaa, zab, zac, zad, zae, zaf, zag, zah, zai, zaj, zak, zal, zam, zan, zao, zap, zaq, zar, zas, zat, zau, zav, zaw, zax, zay, zaz, zba, zbb, zbc, zbd, zbe, zbf, zbg, zbh, zbi, zbj, Nat.reduceBEq, Bool.or_self, Bool.or_false, Bool.or_true, Bool.and_true, Bool.and_false, Bool.true_and, Bool.false_and, Option.isNone_none, Option.isNone_some, Option.isSome_some, Option.isSome_none, zbk, zbl, zbm, zbn, zbo, zbp, zbq, zbr, zbs, zbt, zbu, zbv, zbw, zbx, zby, zbz, zca, zcb, zcc, zcd, zce, zcf, zcg, zch, zci, zcj, zck, zcl, zcm, zcn, zco, zcp, zcq, zcr, zcs, zct, zcu, zcv, zcw, zcx, zcy, zcz, zda, zdb, zdc, zdd, zde, zdf, Option.getD_some, Option.getD_none, zet, zeu, zev, zew, zex, zey, zez, zfa, Option.map_some, Option.map_none, Option.bind_some, List.map_cons, List.map_nil, List.cons_append, List.nil_append, ↓reduceIte, Nat.reduceEqDiff, Nat.reduceAdd, decide_true, decide_false, Bool.true_eq_false, Bool.false_eq_true, env0, List.getElem?_cons_zero, List.getElem?_cons_succ, zdg, zdh, zdi, zdj, zdk, zdl, zdm, zdn, ia22, ld31, zdo, zdp, zdq, zdr, zds, zdt, zdu, zdv, zdw, zdx, zdy, zdz, zea, zeb, zec, fa_0, fa_1, zed, bd_0, bd_2, zee, fd_1, zef, Nat.zero_add, e1, e3, e6, e9, j6, j9, c0, c1, eb, h20, h500, h501, h21, len9', q1, q2, wq]
        exact finish_b _ _ _ _ _ _ _ (by simp only [zfa, ↓reduceIte, Nat.reduceEqDiff]) rfl
      · have q1 : ¬ (i : Int) < (k : Int) := by omega
        have q2 : (i : Int) > (k : Int) := by omega
        simp only [zaa, zab, zac, zad, zae, zaf, zag, zah, zai, zaj, zak, zal, zam, zan, zao, zap, zaq, zar, zas, zat, zau, zav, zaw, zax, zay, zaz, zba, zbb, zbc, zbd, zbe, zbf, zbg, zbh, zbi, zbj, Nat.reduceBEq, Bool.or_self, Bool.or_false, Bool.or_true, Bool.and_true, Bool.and_false, Bool.true_and, Bool.false_and, Option.isNone_none, Option.isNone_some, Option.isSome_some, Option.isSome_none, zbk, zbl, zbm, zbn, zbo, zbp, zbq, zbr, zbs, zbt, zbu, zbv, zbw, zbx, zby, zbz, zca, zcb, zcc, zcd, zce, zcf, zcg, zch, zci, zcj, zck, zcl, zcm, zcn, zco, zcp, zcq, zcr, zcs, zct, zcu, zcv, zcw, zcx, zcy, zcz, zda, zdb, zdc, zdd, zde, zdf, Option.getD_some, Option.getD_none, zet, zeu, zev, zew, zex, zey, zez, zfa, Option.map_some, Option.map_none, Option.bind_some, List.map_cons, List.map_nil, List.cons_append, List.nil_append, ↓reduceIte, Nat.reduceEqDiff, Nat.reduceAdd, decide_true, decide_false, Bool.true_eq_false, Bool.false_eq_true, env0, List.getElem?_cons_zero, List.getElem?_cons_succ, zdg, zdh, zdi, zdj, zdk, zdl, zdm, zdn, ia22, ld31, zdo, zdp, zdq, zdr, zds, zdt, zdu, zdv, zdw, zdx, zdy, zdz, zea, zeb, zec, fa_0, fa_1, zed, bd_0, bd_2, zee, fd_1, zef, Nat.zero_add, e1, e3, e6, e9, j6, j9, c0, c1, eb, h20, h500, h501, h21, len9', q1, q2, wq]
        exact finish_b _ _ _ _ _ _ _ (by simp only [zfa, ↓reduceIte, Nat.reduceEqDiff]) rfl
  · have h21 : (l.length : Int) > 20 := by omega
    rcases Nat.lt_trichotomy i k with h | h | h
    · have q1 : (i : Int) < (k : Int) := by omega
      have q2 : ¬ (i : Int) > (k : Int) := by omega
      simp only [zaa, zab, zac, zad, zae, zaf, zag, zah, zai, zaj, zak, zal, zam, zan, zao, zap, zaq, zar, zas, zat, zau, zav, zaw, zax, zay, zaz, zba, zbb, zbc, zbd, zbe, zbf, zbg, zbh, zbi, zbj, Nat.reduceBEq, Bool.or_self, Bool.or_false, Bool.or_true, Bool.and_true, Bool.and_false, Bool.true_and, Bool.false_and, Option.isNone_none, Option.isNone_some, Option.isSome_some, Option.isSome_none, zbk, zbl, zbm, zbn, zbo, zbp, zbq, zbr, zbs, zbt, zbu, zbv, zbw, zbx, zby, zbz, zca, zcb, zcc, zcd, zce, zcf, zcg, zch, zci, zcj, zck, zcl, zcm, zcn, zco, zcp, zcq, zcr, zcs, zct, zcu, zcv, zcw, zcx, zcy, zcz, zda, zdb, zdc, zdd, zde, zdf, Option.getD_some, Option.getD_none, zet, zeu, zev, zew, zex, zey, zez, zfa, Option.map_some, Option.map_none, Option.bind_some, List.map_cons, List.map_nil, List.cons_append, List.nil_append, ↓reduceIte, Nat.reduceEqDiff, Nat.reduceAdd, decide_true, decide_false, Bool.true_eq_false, Bool.false_eq_true, env0, List.getElem?_cons_zero, List.getElem?_cons_succ, zdg, zdh, zdi, zdj, zdk, zdl, zdm, zdn, ia22, ld31, zdo, zdp, zdq, zdr, zds, zdt, zdu, zdv, zdw, zdx, zdy, zdz, zea, zeb, zec, fa_0, fa_1, zed, bd_0, bd_2, zee, fd_1, zef, Nat.zero_add, e1, e3, e6, e9, j6, j9, c0, c1, eb, h20, h21, len9', q1, q2, wq]
      exact finish_b _ _ _ _ _ _ _ (by simp only [zfa, ↓reduceIte, Nat.reduceEqDiff]) rfl
    · have q1 : ¬ (i : Int) < (k : Int) := by omega
      have q2 : ¬ (i : Int) > (k : Int) := by omega
      simp only [zaa, zab, zac, zad, zae, zaf, zag, zah, zai, zaj, zak, zal, zam, zan, zao, zap, zaq, zar, zas, zat, zau, zav, zaw, zax, zay, zaz, zba, zbb, zbc, zbd, zbe, zbf, zbg, zbh, zbi, zbj, Nat.reduceBEq, Bool.or_self, Bool.or_false, Bool.or_true, Bool.and_true, Bool.and_false, Bool.true_and, Bool.false_and, Option.isNone_none, Option.isNone_some, Option.isSome_some, Option.isSome_none, zbk, zbl, zbm, zbn, zbo, zbp, zbq, zbr, zbs, zbt, zbu, zbv, zbw, zbx, zby, zbz, zca, zcb, zcc, zcd, zce, zcf, zcg, zch, zci, zcj, zck, zcl, zcm, zcn, zco, zcp, zcq, zcr, zcs, zct, zcu, zcv, zcw, zcx, zcy, zcz, zda, zdb, zdc, zdd, zde, zdf, Option.getD_some, Option.getD_none, zet, zeu, zev, zew, zex, zey, zez, zfa, Option.map_some, Option.map_none, Option.bind_some, List.map_cons, List.map_nil, List.cons_append, List.nil_append, ↓reduceIte, Nat.reduceEqDiff, Nat.reduceAdd, decide_true, decide_false, Bool.true_eq_false, Bool.false_eq_true, env0, List.getElem?_cons_zero, List.getElem?_cons_succ, zdg, zdh, zdi, zdj, zdk, zdl, zdm, zdn, ia22, ld31, zdo, zdp, zdq, zdr, zds, zdt, zdu, zdv, zdw, zdx, zdy, zdz, zea, zeb, zec, fa_0, fa_1, zed, bd_0, bd_2, zee, fd_1, zef, Nat.zero_add, e1, e3, e6, e9, j6, j9, c0, c1, eb, h20, h21, len9', q1, q2, wq]
      exact finish_b _ _ _ _ _ _ _ (by simp only [zfa, ↓reduceIte, Nat.reduceEqDiff]) rfl
    · have q1 : ¬ (i : Int) < (k : Int) := by omega
      have q2 : (i : Int) > (k : Int) := by omega
      simp only [zaa, zab, zac, zad, zae, zaf, zag, zah, zai, zaj, zak, zal, zam, zan, zao, zap, zaq, zar, zas, zat, zau, zav, zaw, zax, zay, zaz, zba, zbb, zbc, zbd, zbe, zbf, zbg, zbh, zbi, zbj, Nat.reduceBEq, Bool.or_self, Bool.or_false, Bool.or_true, Bool.and_true, Bool.and_false, Bool.true_and, Bool.false_and, Option.isNone_none, Option.isNone_some, Option.isSome_some, Option.isSome_none, zbk, zbl, zbm, zbn, zbo, zbp, zbq, zbr, zbs, zbt, zbu, zbv, zbw, zbx, zby, zbz, zca, zcb, zcc, zcd, zce, zcf, zcg, zch, zci, zcj, zck, zcl, zcm, zcn, zco, zcp, zcq, zcr, zcs, zct, zcu, zcv, zcw, zcx, zcy, zcz, zda, zdb, zdc, zdd, zde, zdf, Option.getD_some, Option.getD_none, zet, zeu, zev, zew, zex, zey, zez, zfa, Option.map_some, Option.map_none, Option.bind_some, List.map_cons, List.map_nil, List.cons_append, List.nil_append, ↓reduceIte, Nat.reduceEqDiff, Nat.reduceAdd, decide_true, decide_false, Bool.true_eq_false, Bool.false_eq_true, env0, List.getElem?_cons_zero, List.getElem?_cons_succ, zdg, zdh, zdi, zdj, zdk, zdl, zdm, zdn, ia22, ld31, zdo, zdp, zdq, zdr, zds, zdt, zdu, zdv, zdw, zdx, zdy, zdz, zea, zeb, zec, fa_0, fa_1, zed, bd_0, bd_2, zee, fd_1, zef, Nat.zero_add, e1, e3, e6, e9, j6, j9, c0, c1, eb, h20, h21, len9', q1, q2, wq]
      exact finish_b _ _ _ _ _ _ _ (by simp only [zfa, ↓reduceIte, Nat.reduceEqDiff]) rfl
end Go.Ab
