/- Several texts put together: AbtT15, AbtT16, AbMono, AbtT17, AbtOp, AbtT20, AbtT18, AbtT19, AbtR1, AbtR2, AbtR3, AbtR4, AbtR5, AbtR6, AbtR7, AbtR8, AbtR9, AbtA18, AbtT21, AbtT22, AbtLawTTuples, AbMn3, AbMn4, AbMn5, AbMn6, AbMn7, AbMn8, AbtTx1, AbtTx2, AbtA21, AbtR10, AbtA22, AbtA23, AbtA24, AbtA25, AbtA12, AbtA13, AbtA14, AbtA15, AbtA10, AbtA26, AbtA11, AbtA27, AbtA8, AbtA9o, AbtA28, AbtX1, AbtX2, AbtA19. Conditions: as each part says. -/
import Derived.Test.YtaifnpbgamookaaDoorAbTTextsZ05
import Derived.Test.YtaifnpbgamookaaDoorAbTTextsZ00
import Derived.Test.YtaifnpbgamookaaDoorAbTTextsZ04
import Derived.Laws.Sem
import Derived.Shelf.Strings.Builder1
import Derived.WalkKit
import Derived.BigCall
/- term.Same, walked. Conditions: so many limbs, nodes at most. -/
namespace Go.Ab
open Go.Proofs
set_option maxRecDepth 100000
set_option linter.unusedSimpArgs false

def sgnT : T → Bool
  | .mk _ b _ _ _ _ _ _ => b
def nT : T → Int
  | .mk _ _ _ _ _ n _ _ => n
mutual
def sameT : T → T → Bool
  | .mk k b _ l s n _ ks, u => if k = kindT u then
      (if k = 1 then decide (b = sgnT u) && decide (l = limT u) else if k = 2 ∨ k = 6 then decide (s = strT u) else if k = 8 then decide (s = strT u) && decide (n = nT u) else if k = 9 then decide (n = nT u)
       else if k = 7 then decide (n = nT u) && sameK ks (kidsT u) else if k = 4 ∨ k = 5 then sameK ks (kidsT u) else true) else false
def sameK : List T → List T → Bool
  | [], [] => true
  | x :: r, y :: q => sameT x y && sameK r q
  | [], _ :: _ => false
  | _ :: _, [] => false
end
theorem sameK_len : ∀ (a b : List T), a.length ≠ b.length → sameK a b = false
  | [], [], h => absurd rfl h
  | [], _ :: _, _ => by simp only [sameK]
  | _ :: _, [], _ => by simp only [sameK]
  | x :: r, y :: q, h => by simp only [sameK]; rw [sameK_len r q (by simpa using h), Bool.and_false]
theorem strEq (a b : List UInt8) : (a == b) = decide (a = b) := by rw [Bool.eq_iff_iff, beq_iff_eq, decide_eq_true_eq]
theorem intEq (x y : Int) : (x == y) = decide (x = y) := by rw [Bool.eq_iff_iff, beq_iff_eq, decide_eq_true_eq]
mutual
def fewT (m : Nat) : T → Prop
  | .mk _ _ _ l _ _ _ ks => l.length < m ∧ ks.length < m ∧ fewK m ks
def fewK (m : Nat) : List T → Prop
  | [] => True
  | t :: r => fewT m t ∧ fewK m r
end
theorem fewK_at (m : Nat) : ∀ (ks : List T) (i : Nat) (t : T) (r : List T), ks.drop i = t :: r → fewK m ks → fewT m t
  | [], i, t, r, h, _ => by simp at h
  | a :: q, 0, t, r, h, hw => by simp only [List.drop_zero, List.cons.injEq] at h; obtain ⟨rfl, rfl⟩ := h; simp only [fewK] at hw; exact hw.1
  | a :: q, i + 1, t, r, h, hw => by simp only [fewK] at hw; exact fewK_at m q i t r (by simpa using h) hw.2
end Go.Ab

/- The document's own check of a term by itself. Conditions: limbs in range; a text shorter than the rounds. -/
namespace Go.Ab
open Go.Proofs
set_option maxRecDepth 100000
set_option linter.unusedSimpArgs false

theorem i_neqV (x y : Int) : binA Tryd.prog .neq 3 (.int .i64 x) (.int .i64 y) = some (.bool (x != y)) := rfl
end Go.Ab

/- What the abstract run gives, it gives with more rounds and more depth too. No conditions. -/
namespace Go.Ab
section
variable {P : Program} {cfg : Cfg} {call call' : FuncId → List Arg → Option Out}
def Less (call call' : FuncId → List Arg → Option Out) : Prop := ∀ f as1 r, call f as1 = some r → call' f as1 = some r
theorem callA_mono (h : Less call call') {d : Nat} {s : St} {f : FuncId} {vs : List AV} {r : AV × St} (hc : callA cfg call d s f vs = some r) : callA cfg call' d s f vs = some r := by
  unfold callA at hc ⊢
  cases ha : argsA cfg f s 0 vs with
  | none => rw [ha] at hc; cases hc
  | some as1 =>
    rw [ha] at hc
    simp only [Option.bind_some] at hc ⊢
    split at hc
    · rename_i hg
      rw [if_pos hg]
      cases hcc : call f as1 with
      | none => rw [hcc] at hc; cases hc
      | some o => rw [hcc] at hc; rw [h _ _ _ hcc]; exact hc
    · cases hc
theorem callQ_mono (h : Less call call') {f : FuncId} {vs : List AV} {r : AV} (hc : callQ call f vs = some r) : callQ call' f vs = some r := by
  unfold callQ at hc ⊢
  split at hc
  · rename_i hg
    rw [if_pos hg]
    cases hcc : call f (vs.map .tree) with
    | none => rw [hcc] at hc; cases hc
    | some o => rw [hcc] at hc; rw [h _ _ _ hcc]; exact hc
  · rename_i hg
    rw [if_neg hg]
    split at hc
    · rename_i hg2
      rw [if_pos hg2]
      cases hcc : call f (vs.map fun v => .tree (loosen v)) with
      | none => rw [hcc] at hc; cases hc
      | some o => rw [hcc] at hc; rw [h _ _ _ hcc]; exact hc
    · cases hc
theorem opA_mono (h : Less call call') {q : Bool} {o : Oper} {d : Nat} {env : Env} {s : St} {r : AV × St} (hc : opA P cfg call q o d env s = some r) : opA P cfg call' q o d env s = some r := by
  obtain ⟨dst, op, ty, pos, af, g⟩ := o
  cases op with
  | call c =>
    obtain ⟨ce, as1, us⟩ := c
    cases ce with
    | value f =>
      simp only [opA] at hc ⊢
      split at hc
      · split at hc
        · rename_i hq
          rw [if_pos hq]
          split at hc
          · rename_i h0
            rw [if_pos h0]
            exact callA_mono h hc
          rename_i h0
          rw [if_neg h0]
          split at hc
          · rename_i h1
            rw [if_pos h1]
            split at hc
            · rename_i h2
              rw [if_pos h2]
              exact callA_mono h hc
            · cases hc
          · rename_i h1
            rw [if_neg h1]
            obtain ⟨v, hcc, hv⟩ := Option.map_eq_some_iff.mp hc
            rw [callQ_mono h hcc]
            exact congrArg some hv
        · rename_i hq
          rw [if_neg hq]
          exact callA_mono h hc
      · cases hc
    | builtin b => cases b <;> exact hc
    | _ => exact hc
  | _ => exact hc
theorem opsA_mono (h : Less call call') {q : Bool} {ops : Array Oper} : ∀ (l : List Oper) {env : Env} {s : St} {r : Env × St}, opsA P cfg call q ops l env s = some r → opsA P cfg call' q ops l env s = some r
  | [], env, s, r, hc => hc
  | o :: l, env, s, r, hc => by
    simp only [opsA] at hc ⊢
    cases hw : wantA ops o env with
    | none => rw [hw] at hc; cases hc
    | some b =>
      rw [hw] at hc
      cases b with
      | false => exact opsA_mono h l hc
      | true =>
        simp only at hc ⊢
        cases ho : opA P cfg call q o (o.dst.getD 0) env s with
        | none => rw [ho] at hc; cases hc
        | some x =>
          rw [ho] at hc
          rw [opA_mono h ho]
          simp only [Option.bind_some] at hc ⊢
          exact opsA_mono h l hc
def LessK (K K' : Kont) : Prop := ∀ e env s r, K e env s = some r → K' e env s = some r
theorem loopA_mono {b b' : Kont → Env → St → Option Out} (hb : ∀ K K', LessK K K' → ∀ env s r, b K env s = some r → b' K' env s = some r) {K K' : Kont} (hK : LessK K K') :
    ∀ (n n' : Nat), n ≤ n' → ∀ env s r, loopA b K n env s = some r → loopA b' K' n' env s = some r
  | 0, n', _, env, s, r, hc => by cases hc
  | n + 1, n', hn, env, s, r, hc => by
    obtain ⟨m, rfl⟩ : ∃ m, n' = m + 1 := ⟨n' - 1, by omega⟩
    simp only [loopA] at hc ⊢
    refine hb _ _ (fun e env s r h => ?_) _ _ _ hc
    cases e with
    | normal => exact loopA_mono hb hK n m (by omega) _ _ _ h
    | exit i => exact hK _ _ _ _ h
    | ret => exact hK _ _ _ _ h
theorem den_mono (h : Less call call') {n n' : Nat} (hn : n ≤ n') : ∀ (c : Code) {K K' : Kont}, LessK K K' → ∀ {env : Env} {s : St} {r : Out}, den P cfg call n c K env s = some r → den P cfg call' n' c K' env s = some r
  | .skip, K, K', hK, env, s, r, hc => hK _ _ _ _ hc
  | .label _, K, K', hK, env, s, r, hc => hK _ _ _ _ hc
  | .region _ ops draw, K, K', hK, env, s, r, hc => by
    simp only [den] at hc ⊢
    cases ho : opsA P cfg call draw ops ops.toList env (killI cfg.keep draw ops.toList s) with
    | none => rw [ho] at hc; cases hc
    | some x =>
      rw [ho] at hc
      rw [opsA_mono h _ ho]
      exact hK _ _ _ _ hc
  | .goto t, K, K', hK, env, s, r, hc => by
    simp only [den] at hc ⊢
    split at hc
    · rename_i hg
      rw [if_pos hg]
      exact hK _ _ _ _ hc
    · cases hc
  | .seq a b, K, K', hK, env, s, r, hc => by
    simp only [den] at hc ⊢
    refine den_mono h hn a (fun e env s r hh => ?_) hc
    cases e with
    | normal => exact den_mono h hn b hK hh
    | exit i => exact hK _ _ _ _ hh
    | ret => exact hK _ _ _ _ hh
  | .cond c a b, K, K', hK, env, s, r, hc => by
    simp only [den] at hc ⊢
    cases hv : ev env c <;> rw [hv] at hc <;> try cases hc
    rename_i x
    cases x with
    | true => exact den_mono h hn a hK hc
    | false => exact den_mono h hn b hK hc
  | .scope a, K, K', hK, env, s, r, hc => by
    simp only [den] at hc ⊢
    exact den_mono h hn a hK hc
  | .block id a, K, K', hK, env, s, r, hc => by
    simp only [den] at hc ⊢
    refine den_mono h hn a (fun e env s r hh => ?_) hc
    cases e with
    | normal => exact hK _ _ _ _ hh
    | exit i =>
      simp only at hh ⊢
      split at hh
      · rename_i hi; rw [if_pos hi]; exact hK _ _ _ _ hh
      · rename_i hi; rw [if_neg hi]; exact hK _ _ _ _ hh
    | ret => exact hK _ _ _ _ hh
  | .loop a, K, K', hK, env, s, r, hc => by
    simp only [den] at hc ⊢
    exact loopA_mono (b := den P cfg call n a) (b' := den P cfg call' n' a) (fun K K' hK env s r hh => den_mono h hn a hK hh) hK n n' hn _ _ _ hc
  | .exit id, K, K', hK, env, s, r, hc => hK _ _ _ _ hc
  | .ret, K, K', hK, env, s, r, hc => hK _ _ _ _ hc
  | .rangeFunc .., K, K', hK, env, s, r, hc => by cases hc
  | .refuse _, K, K', hK, env, s, r, hc => by cases hc
theorem evalFn_mono {n n' : Nat} (hn : n ≤ n') : ∀ (d d' : Nat), d ≤ d' → Less (evalFn P cfg n d) (evalFn P cfg n' d')
  | 0, _, _, f, as1, r, hc => by cases hc
  | d + 1, d', hd, f, as1, r, hc => by
    obtain ⟨m, rfl⟩ : ∃ m, d' = m + 1 := ⟨d' - 1, by omega⟩
    simp only [evalFn] at hc ⊢
    cases hp : cfg.prim f as1 with
    | some o => rw [hp] at hc; exact hc
    | none =>
      rw [hp] at hc
      simp only at hc ⊢
      cases hf : P.funcs[f]? with
      | none => rw [hf] at hc; cases hc
      | some fn =>
        rw [hf] at hc
        simp only at hc ⊢
        cases hb : fn.body with
        | none => rw [hb] at hc; cases hc
        | some c =>
          rw [hb] at hc
          simp only at hc ⊢
          split at hc
          · rename_i hg
            rw [if_pos hg]
            exact den_mono (evalFn_mono hn d m (by omega)) hn _ (fun _ _ _ _ hh => hh) hc
          · cases hc
end
end Go.Ab

/- The document's own check of terms, walked. Conditions: limbs in range; texts shorter than the rounds. -/
namespace Go.Ab
open Go.Proofs
set_option maxRecDepth 100000
set_option linter.unusedSimpArgs false

end Go.Ab

/- Terms out of a statement's reading. No conditions. -/
namespace Go.Ab
open Go.Proofs Go.RowKit Go.ChangeShapes Go.WideShapes Go.ChangeAt
set_option maxRecDepth 100000

section
variable {H : Type} {enc : TypeId × Value → H} {w : World} {base : Nat} {held : Bool}
end
end Go.Ab

/- Lists of terms: term.List; rows of terms that grow. Conditions: lengths in range. -/
namespace Go.Ab
open Go.Proofs
set_option maxRecDepth 100000
set_option linter.unusedSimpArgs false

theorem callQ_loose {call : FuncId → List Arg → Option Out} {f : FuncId} {vs vs' : List AV} {v : AV} {os : List (List AV)} (h0 : vs.all isTree = false) (ht : vs.all isLent = true) (e : vs.map loosen = vs') (hc : call f (vs'.map Arg.tree) = some (.tree v, os)) : callQ call f vs = some v := by
  have e2 : (vs.map fun v => Arg.tree (loosen v)) = vs'.map .tree := by rw [← e]; simp
  simp only [callQ, h0, ht, Bool.false_eq_true, if_false, if_true, e2, hc, Option.bind_some]
def consT (h t : T) : T := .mk 4 false .n [] [] 0 .t [h, t]
def listT : List T → T → T
  | [], t => t
  | h :: r, t => consT h (listT r t)
theorem cells_cons (h t : T) : cellsT (consT h t) = consV (cellsT h) (cellsT t) := by
  simp only [consT, cellsT, cellsK, consV, List.append_nil, encL, encC, List.map_nil, List.length_nil, gr, List.length_cons, Nat.reduceAdd]
theorem chunk_K (ks : List T) (i : Nat) (t : T) (r : List T) (h : ks.drop i = t :: r) : chunk (cellsK ks) i = cellsT t := by
  rw [chunk, cellsK_drop, h]
  simp only [cellsK]
  rw [List.take_append_of_le_length (by rw [cellsT_len]; exact Nat.le_refl _), List.take_of_length_le (by rw [cellsT_len]; exact Nat.le_refl _)]
theorem listT_snoc (h : T) : ∀ (r : List T) (t : T), listT (r ++ [h]) t = listT r (consT h t)
  | [], t => rfl
  | a :: r, t => by simp only [List.cons_append, listT, listT_snoc h r t]
theorem lstN_K (ks : List T) : ∀ (n : Nat) (t : T), n ≤ ks.length → lstN (cellsK ks) n (cellsT t) = cellsT (listT (ks.take n) t)
  | 0, t, _ => rfl
  | n + 1, t, h => by
    have hd : ks.drop n = ks[n] :: ks.drop (n + 1) := List.drop_eq_getElem_cons h
    rw [lstN, chunk_K ks n _ _ hd, ← cells_cons, lstN_K ks n _ (by omega), List.take_succ_eq_append_getElem h, listT_snoc]
theorem tList_eq (n d : Nat) (ks : List T) (g : Grip) (t : T) (h : ks.length ≤ 9223372036854775807) : evalFn Tryd.prog cfg0 n (d+1) 18 [.tree (.sl (cellsK ks) ks.length g), .tree (encT t)] = some (.tree (encT (listT ks t)), [[], []]) := by
  have hp : prim0 18 [.tree (.sl (cellsK ks) ks.length g), .tree (encT t)] = some (.tree (encT (listT ks t)), [[], []]) := by
    unfold prim0
    rw [if_neg (by decide), if_pos (by decide)]
    have e := lstN_K ks ks.length t (Nat.le_refl _)
    rw [List.take_length] at e
    simp only [listP, encT]
    rw [if_pos ⟨cellsK_len ks, cellsT_len t, h⟩, e]
  have hc : cfg0.prim = prim0 := rfl
  rw [evalFn]
  simp only [hc, hp]
theorem by28 : decide (byOf Tryd.prog 28 ≤ 200) = true := by kernel_rfl
theorem zl28 : (zeroOf Tryd.prog 28).map List.length = some 6 := by kernel_rfl
def Ap (s : St) (d : Nat) (x : AV) (us : List T) : Prop := (us = [] ∧ x = .sl [] 0 .nil) ∨ (us ≠ [] ∧ ∃ t, x = .sl (cellsK us) us.length (.tok d t) ∧ s d = ⟨t, .tok 6⟩)
theorem Ap.push {s : St} {d : Nat} {x : AV} {us : List T} (h : Ap s d x us) (hl : us.length ≤ 1000000) (v : T) :
    ∃ x' s', appendA Tryd.prog #[26, 26] d s x (.sl (cellsT v) 1 .tight) = some (x', s') ∧ Ap s' d x' (us ++ [v]) ∧ ∀ q, q ≠ d → s' q = s q := by
  have hb := of_decide_eq_true by28
  have hk : cellsK (us ++ [v]) = cellsK us ++ cellsT v := by rw [cellsK_append]; simp only [cellsK, List.append_nil]
  have hm : ∀ s, moreA Tryd.prog 28 6 (some 26) s (.sl (cellsT v) 1 .tight) = some (cellsT v, 1) := fun s => by
    simp only [moreA, Option.map_some, tkTk, cellsT_len, Nat.one_mul, ↓reduceIte]
  have hc : (us.length + 1) * byOf Tryd.prog 28 ≤ 140737488355328 ∧ us.length + 1 ≤ 9223372036854775807 := by
    have : (us.length + 1) * byOf Tryd.prog 28 ≤ 1000001 * 200 := Nat.mul_le_mul (by omega) hb
    omega
  rcases h with ⟨rfl, rfl⟩ | ⟨_, t, rfl, hs⟩
  · refine ⟨_, upd s d ⟨(s d).t + 1, .tok 6⟩, ?_, .inr ⟨by simp, (s d).t + 1, rfl, upd_same _ _ _⟩, fun q hq => upd_ne _ _ hq⟩
    simp only [appendA, List.getElem?_toArray, List.getElem?_cons_zero, List.getElem?_cons_succ, Option.map_some, tkTk, eszT, Option.bind_some, hm, baseA, List.length_nil, Nat.zero_mul, ↓reduceIte, zl28, and_true]
    rw [if_pos (by simpa using hc)]
    simp [cellsK]
  · refine ⟨_, upd (upd s d ⟨t, .dead⟩) d ⟨t + 1, .tok 6⟩, ?_, .inr ⟨by simp, t + 1, rfl, upd_same _ _ _⟩, fun q hq => (upd_ne _ _ hq).trans (upd_ne _ _ hq)⟩
    simp only [appendA, List.getElem?_toArray, List.getElem?_cons_zero, List.getElem?_cons_succ, Option.map_some, tkTk, eszT, Option.bind_some, hm, baseA, hs, cellsK_len, and_self, ↓reduceIte, zl28, and_true]
    rw [if_pos hc]
    simp only [upd_same, List.length_append, List.length_cons, List.length_nil, Nat.zero_add, hk]
def kgOf (us : List T) : Gk := if us = [] then .n else .l
theorem Ap.settled {s : St} {d : Nat} {x : AV} {us : List T} (h : Ap s d x us) : Go.Ab.settled x = some (.sl (cellsK us) us.length (gr (kgOf us))) := by
  rcases h with ⟨rfl, rfl⟩ | ⟨hu, t, rfl, _⟩
  · rfl
  · simp only [Go.Ab.settled, kgOf, if_neg hu, gr]
end Go.Ab

/- Terms in their order: mathematics. Conditions: terms that may be. -/
namespace Go.Ab
open Go.Proofs
set_option maxRecDepth 100000
set_option linter.unusedSimpArgs false

theorem numZ_inj {b b' : Bool} {l l' : List Nat} (hl : Limbs l) (hl' : Limbs l') (h : chkN b l = true) (h' : chkN b' l' = true) (e : numZ b l = numZ b' l') : b = b' ∧ l = l' := by
  have h1 := numZ_is hl h
  have h2 := numZ_is hl' h'
  rw [← e] at h2
  exact ⟨h1.2.1.symm.trans h2.2.1, h1.2.2.symm.trans h2.2.2⟩
end Go.Ab

/- The statement TermOrders. Conditions: limbs in range; texts in range. -/
namespace Go.Ab
open Go.Proofs
set_option maxRecDepth 100000
set_option linter.unusedSimpArgs false

mutual
theorem ht_nod : ∀ t : T, htT t ≤ nodT t
  | .mk _ _ _ _ _ _ _ ks => by have := htK_nod ks; simp only [htT, nodT]; omega
theorem htK_nod : ∀ ks : List T, htK ks ≤ nodK ks
  | [] => Nat.le_refl _
  | t :: r => by have := ht_nod t; have := htK_nod r; simp only [htK, nodK]; omega
end
end Go.Ab

/- The reference's own functions on numbers: reading, normal forms, comparing. Conditions: limbs in range, not too many. -/
namespace Go.Ab
open Go.Proofs
set_option maxRecDepth 100000
set_option linter.unusedSimpArgs false

theorem rat_eq (n d : Nat) (b : Gk) (l : List Nat) (hl : ∀ x ∈ l, x < 4294967296) (i : Int) (hi : 0 ≤ i) : evalFn Tryd.prog cfg0 n (d+1) 99 [.tree (encL b l), .tree (.int .i64 i)] = some (.tree (.int .u64 ((l.getD i.toNat 0 : Nat) : Int)), [[],[]]) := by
  rw [evalFn_go _ Tryd.func99 (by unfold Tryd.f99; rfl) (by unfold Tryd.f99; decide) (Nat.le_of_ble_eq_true (by unfold Tryd.f99; rfl)) (by kernel_rfl)]
  have hx := getD_lt l hl i.toNat
  by_cases h : i < l.length
  · have h' : i.toNat < l.length := by omega
    simp only [simB, zbo, Nat.reduceBEq, own0, ↓reduceIte, Nat.reduceEqDiff, Nat.reduceAdd, simA, simL, h, hi, h', hx]
    rfl
  · have hx : l.getD i.toNat 0 = 0 := by
      rw [List.getD_eq_getElem?_getD, List.getElem?_eq_none (by omega)]; rfl
    simp only [simB, zbo, Nat.reduceBEq, own0, ↓reduceIte, Nat.reduceEqDiff, Nat.reduceAdd, simA, simL, h, hx]
    rfl

theorem rat_call (n d : Nat) (b : Gk) (l : List Nat) (hl : Limbs l) (k : Nat) (D : Nat) (s : St) : callA cfg0 (evalFn Tryd.prog cfg0 n (d+1)) D s 99 [encL b l, .int .i64 (k : Int)] = some (.int .u64 ((l.getD k 0 : Nat) : Int), s) :=
  callA_Li _ _ _ _ _ _ _ _ _ (rat_eq n d b l hl k (by omega))
theorem slice22h (s : St) (b : Gk) (l : List Nat) (k : Nat) (h : k ≤ l.length) : ∃ b', sliceA Tryd.prog 23 s (encL b l) none (some (.int .i64 (k : Int))) none = some (encL b' (l.take k)) := by
  have hx : (encC l).length = l.length * 1 := by rw [encC_len]; omega
  simp only [sliceA, tk22, encL, esz31, Option.isSome_none, Option.isNone_some, Bool.false_eq_true, false_and, if_false, boundA, Option.bind_some, hx, if_true, Int.toNat_natCast]
  rw [if_pos (by omega)]
  simp only [Option.bind_some, Nat.zero_mul, List.drop_zero, Nat.sub_zero, Nat.mul_one, encC_take]
  have hl : (l.take k).length = k := by rw [List.length_take]; omega
  rw [hl]
  by_cases hc : (false = true ∧ l.length = k) ∨ (none = (none : Option AV) ∧ (gr b = .tight ∨ gr b = .nil) ∧ k = l.length)
  · exact ⟨.t, by simp_all [gr]⟩
  · exact ⟨.l, by simp_all [gr]⟩
def encF (v : Nat) : AV := encL .l (digs v)
theorem rnorm_eq (n d : Nat) (b : Gk) (l : List Nat) (hl : Limbs l) (hn : l.length < n) (hlen : l.length ≤ 1000000) : evalFn Tryd.prog cfg0 n (d+1) 98 [.tree (encL b l)] = some (.tree (encF (val l)), [[]]) := by
  rw [evalFn_go _ Tryd.func98 (by unfold Tryd.f98; rfl) (by unfold Tryd.f98; decide) (Nat.le_of_ble_eq_true (by unfold Tryd.f98; rfl)) (by kernel_rfl)]
  simp only [simB, zbo, Nat.reduceBEq, own0, ↓reduceIte, Nat.reduceEqDiff, Nat.reduceAdd, simA, simL, st0_1, den_loop]
  refine loop_ends (X := Nat) (fun k env s => env 0 = encL b l ∧ env 3 = .int .i64 (k : Int) ∧ s = dead ∧ k ≤ l.length ∧ val (l.take k) = val l) id (fun _ => (.tree (encF (val l)), [[]])) ?_ n l.length _ _ hn ⟨rfl, rfl, rfl, Nat.le_refl _, by simp⟩
  intro k x hx ih env s ⟨h0, h3, hs, hk, hv⟩
  subst hs
  obtain ⟨b', e3⟩ := slice22h dead b l x hk
  have fin : (∀ y, x = y + 1 → l.getD y 0 ≠ 0) → encF (val l) = .sl (encC (l.take x)) (l.take x).length .loose := by
    intro hz
    have hd : digs (val l) = l.take x := by
      rw [← hv]
      refine digs_val _ (hl.take _) ?_
      intro u hu
      cases x with
      | zero => simp at hu
      | succ y =>
        have el : (l.take (y + 1)).length = y + 1 := by rw [List.length_take]; omega
        rw [List.getLast?_eq_getElem?, el, Nat.add_sub_cancel, List.getElem?_take, if_pos (Nat.lt_succ_self y)] at hu
        have := hz y rfl
        rw [List.getD_eq_getElem?_getD, hu] at this
        exact this
    rw [encF, hd]; rfl
  obtain ⟨s', p, t, ea, _⟩ := append22t 21 dead (.sl [] 0 .nil) [] (l.take x) b' (hold_nil _) (by simp only [List.length_nil, List.length_take]; omega)
  rw [List.nil_append] at ea
  have hf : finish1 (cfg0.keep 98) [Arg.tree (encL b l)].length s' (.sl (encC (l.take x)) (l.take x).length (.tok p t)) = some (.tree (.sl (encC (l.take x)) (l.take x).length .loose), s') := rfl
  by_cases hp : x = 0
  · subst hp
    have q1 : ¬ (((0 : Nat) : Int) > 0) := by omega
    simp only [simB, zbo, Nat.reduceBEq, own0, ↓reduceIte, Nat.reduceEqDiff, Nat.reduceAdd, simL, h0, h3, q1, Option.map_none, e3, ea]
    rw [fin (by omega)]
    exact finish_tree _ _ _ _ _ _ (.sl (encC (l.take 0)) (l.take 0).length (.tok p t)) _ _ (by simp only [zfk, ↓reduceIte]) hf rfl
  · obtain ⟨y, rfl⟩ : ∃ y, x = y + 1 := ⟨x - 1, by omega⟩
    have p1 : ((y + 1 : Nat) : Int) > 0 := by omega
    have p2 : ((y + 1 : Nat) : Int) - 1 = (y : Int) := by omega
    have p3 : (y : Int) < l.length := by omega
    have p4 : y < l.length := by omega
    have p6 : (0 : Int) ≤ y := by omega
    have e1 : binA Tryd.prog .sub 3 (.int .i64 ((y + 1 : Nat) : Int)) (.int .i64 1) = some (.int .i64 (y : Int)) := by rw [i_sub _ _ _ _ (by omega) (by omega), p2]
    by_cases hz : l.getD y 0 = 0
    · have p5 : (((l.getD y 0 : Nat) : Int) == 0) = true := by rw [hz]; rfl
      simp only [simB, zbo, Nat.reduceBEq, own0, ↓reduceIte, Nat.reduceEqDiff, Nat.reduceAdd, simL, h0, h3, p1, e1, p6, p3, Int.toNat_natCast, p4, p5]
      refine ih y _ _ (Nat.lt_succ_self _) rfl ⟨?_, ?_, rfl, by omega, ?_⟩
      · simp only [zfk, ↓reduceIte, Nat.reduceEqDiff, h0]
      · simp only [zfk, ↓reduceIte, Nat.reduceEqDiff]
      · rw [← hv, val_take_succ _ _ p4, hz, Nat.mul_zero, Nat.add_zero]
    · have p5 : (((l.getD y 0 : Nat) : Int) == 0) = false := by
        rw [beq_eq_false_iff_ne]; omega
      simp only [simB, zbo, Nat.reduceBEq, own0, ↓reduceIte, Nat.reduceEqDiff, Nat.reduceAdd, simL, h0, h3, p1, e1, p6, p3, Int.toNat_natCast, p4, p5, e3, ea]
      rw [fin (by intro y' hy'; have : y' = y := by omega
                  subst this; exact hz)]
      exact finish_tree _ _ _ _ _ _ (.sl (encC (l.take (y + 1))) (l.take (y + 1)).length (.tok p t)) _ _ (by simp only [zfk, ↓reduceIte]) hf rfl
end Go.Ab

/- The reference's own functions on numbers: Cmp, Add, Sub. Conditions: limbs in range, not too many. -/
namespace Go.Ab
open Go.Proofs
set_option maxRecDepth 100000
set_option linter.unusedSimpArgs false

theorem rnorm_hold (n d : Nat) (s : St) (v : AV) (o : List Nat) (h : Hold s v o) (ho : Limbs o) (hn : o.length < n) (hl : o.length ≤ 1000000) (D : Nat) : ∃ s', callA cfg0 (evalFn Tryd.prog cfg0 n (d + 1)) D s 98 [v] = some (encF (val o), s') := by
  rcases h with ⟨rfl, rfl⟩ | ⟨p, t, rfl, hp⟩ | ⟨p, t, rfl, hp⟩
  · exact ⟨s, callA_L1 _ D s 98 .n [] _ (rnorm_eq n d .n [] ho hn hl)⟩
  · have := rnorm_eq n d .l o ho hn hl
    rw [show encL .l o = .sl (encC o) o.length .loose from rfl] at this
    refine ⟨s, ?_⟩
    simp [callA, argsA, argA, givesL, lendsL, givesOf, lendsOf, this, backA, resA, lin0]
  · have := rnorm_eq n d .l o ho hn hl
    rw [show encL .l o = .sl (encC o) o.length .loose from rfl] at this
    have hf : flatR (.tree (encF (val o))) = false := rfl
    refine ⟨frzAt s p, ?_⟩
    have ht : (encC o).take o.length = encC o := List.take_of_length_le (by rw [encC_len]; exact Nat.le_refl _)
    have hle : 0 + o.length * 1 ≤ (encC o).length := by rw [encC_len]; omega
    simp [callA, argsA, argA, cellsAt, hp, ht, encC_len, givesL, lendsL, givesOf, lendsOf, this, hf, backA, resA, lin0]

theorem finish_F (k : Bool) (xs : List Arg) (t : Nat) (env : Env) (s : St) (v : Nat) (os : List (List AV)) (hv : env t = encF v) (ho : outsA s 0 xs = some os) :
    finishP Tryd.prog k xs #[.tmp t] env s = some (.tree (encF v), os) := finish_L _ _ _ _ _ _ _ _ hv ho
theorem cmpZ_1 (x y : Nat) (h : x < y) : cmpZ x y = -1 := by simp only [cmpZ, h, if_true]
theorem cmpZ_2 (x y : Nat) (h : y < x) : cmpZ x y = 1 := by
  have : ¬ x < y := by omega
  simp only [cmpZ, h, this, if_true, if_false]
theorem rcmp_eq (n d : Nat) (b b' : Gk) (l m : List Nat) (hl : Limbs l) (hm : Limbs m) (hn : l.length < n) (hn' : m.length < n) (hll : l.length ≤ 1000000) (hml : m.length ≤ 1000000) :
    evalFn Tryd.prog cfg0 n (d+2) 96 [.tree (encL b l), .tree (encL b' m)] = some (.tree (.int .i64 (cmpZ (val l) (val m))), [[], []]) := by
  rw [evalFn_go _ Tryd.func96 (by unfold Tryd.f96; rfl) (by unfold Tryd.f96; decide) (Nat.le_of_ble_eq_true (by unfold Tryd.f96; rfl)) (by kernel_rfl)]
  have e0 := i_sub Tryd.prog 3 ((max l.length m.length : Nat) : Int) 1 (by omega) (by omega)
  simp only [simB, zbo, Nat.reduceBEq, own0, ↓reduceIte, Nat.reduceEqDiff, Nat.reduceAdd, simA, simL, st0_2, max_eq, e0, den_loop]
  refine loop_ends (X := Nat) (fun k env s => env 0 = encL b l ∧ env 1 = encL b' m ∧ env 5 = .int .i64 ((k : Int) - 1) ∧ s = dead ∧ k ≤ max l.length m.length ∧ Alike l m k) id (fun _ => (.tree (.int .i64 (cmpZ (val l) (val m))), [[], []])) ?_ n (max l.length m.length) _ _ (by simp only [id]; omega) ⟨rfl, rfl, rfl, rfl, Nat.le_refl _, alike_top _ _ _ (by omega) (by omega)⟩
  intro k x hx ih env s ⟨h0, h1, h5, hs, hk, hv⟩
  subst hs
  by_cases hp : x = 0
  · subst hp
    have q1 : ¬ (((0 : Nat) : Int) - 1 ≥ 0) := by omega
    simp only [simB, zbo, Nat.reduceBEq, own0, ↓reduceIte, Nat.reduceEqDiff, Nat.reduceAdd, simL, h0, h1, h5, q1]
    rw [alike_0 _ _ hv, cmpZ_self]
    exact finish_tree _ _ _ _ _ _ (.int .i64 0) _ _ (by simp only [zfk, ↓reduceIte]) rfl rfl
  · obtain ⟨y, rfl⟩ : ∃ y, x = y + 1 := ⟨x - 1, by omega⟩
    have p2 : ((y + 1 : Nat) : Int) - 1 = (y : Int) := by omega
    rw [p2] at h5
    have p6 : (y : Int) ≥ 0 := by omega
    have e1 := i_sub Tryd.prog 3 (y : Int) 1 (by omega) (by omega)
    have c1 := rat_call n d b l hl y
    have c2 := rat_call n d b' m hm y
    by_cases hz : l.getD y 0 < m.getD y 0
    · have p5 : ((l.getD y 0 : Nat) : Int) < ((m.getD y 0 : Nat) : Int) := by omega
      simp only [simB, zbo, Nat.reduceBEq, own0, ↓reduceIte, Nat.reduceEqDiff, Nat.reduceAdd, simL, h0, h1, h5, p6, c1, c2, e1, p5]
      rw [alike_ne _ _ hl hm _ hv (by omega), cmpZ_1 _ _ hz]
      exact finish_tree _ _ _ _ _ _ (.int .i64 (-1)) _ _ (by simp only [zfk, ↓reduceIte, Nat.reduceEqDiff]) rfl rfl
    · have p5 : ¬ ((l.getD y 0 : Nat) : Int) < ((m.getD y 0 : Nat) : Int) := by omega
      by_cases hy : m.getD y 0 < l.getD y 0
      · have p7 : ((l.getD y 0 : Nat) : Int) > ((m.getD y 0 : Nat) : Int) := by omega
        simp only [simB, zbo, Nat.reduceBEq, own0, ↓reduceIte, Nat.reduceEqDiff, Nat.reduceAdd, simL, h0, h1, h5, p6, c1, c2, e1, p5, p7]
        rw [alike_ne _ _ hl hm _ hv (by omega), cmpZ_2 _ _ hy]
        exact finish_tree _ _ _ _ _ _ (.int .i64 1) _ _ (by simp only [zfk, ↓reduceIte, Nat.reduceEqDiff]) rfl rfl
      · have p7 : ¬ ((l.getD y 0 : Nat) : Int) > ((m.getD y 0 : Nat) : Int) := by omega
        simp only [simB, zbo, Nat.reduceBEq, own0, ↓reduceIte, Nat.reduceEqDiff, Nat.reduceAdd, simL, h0, h1, h5, p6, c1, c2, e1, p5, p7]
        refine ih y _ _ (Nat.lt_succ_self _) rfl ⟨?_, ?_, ?_, rfl, by omega, alike_down _ _ _ hv (by omega)⟩
        · simp only [zfk, ↓reduceIte, Nat.reduceEqDiff, h0]
        · simp only [zfk, ↓reduceIte, Nat.reduceEqDiff, h1]
        · simp only [zfk, ↓reduceIte, Nat.reduceEqDiff]
end Go.Ab

/- The reference's own functions on numbers: Add, Sub. Conditions: limbs in range, not too many. -/
namespace Go.Ab
open Go.Proofs
set_option maxRecDepth 100000
set_option linter.unusedSimpArgs false

theorem radd_eq (n d : Nat) (b b' : Gk) (l m : List Nat) (hl : Limbs l) (hm : Limbs m) (hn : l.length + 2 < n) (hn' : m.length + 2 < n) (hll : l.length ≤ 100000) (hml : m.length ≤ 100000) :
    evalFn Tryd.prog cfg0 n (d+2) 95 [.tree (encL b l), .tree (encL b' m)] = some (.tree (encF (val l + val m)), [[], []]) := by
  rw [evalFn_go _ Tryd.func95 (by unfold Tryd.f95; rfl) (by unfold Tryd.f95; decide) (Nat.le_of_ble_eq_true (by unfold Tryd.f95; rfl)) (by kernel_rfl)]
  have e0 := i_add Tryd.prog 3 ((max l.length m.length : Nat) : Int) 1 (by omega) (by omega)
  rw [show ((max l.length m.length : Nat) : Int) + 1 = ((max l.length m.length + 1 : Nat) : Int) by omega] at e0
  simp only [simB, zbo, Nat.reduceBEq, own0, ↓reduceIte, Nat.reduceEqDiff, Nat.reduceAdd, simA, simL, st0_2, den_loop]
  have hmx := max_eq l.length m.length
  generalize hM : max l.length m.length = M at *
  refine loop_ends (X := Nat × Nat × List Nat) (fun x env s => env 0 = encL b l ∧ env 1 = encL b' m ∧ env 7 = .int .i64 (x.1 : Int) ∧ env 6 = .int .u64 (x.2.1 : Int) ∧ Hold s (env 5) x.2.2 ∧ x.1 ≤ M + 1 ∧ x.2.1 ≤ 1 ∧ x.2.2.length = x.1 ∧ Limbs x.2.2 ∧ val x.2.2 + B ^ x.1 * x.2.1 = val (l.take x.1) + val (m.take x.1)) (fun x => M + 1 - x.1) (fun _ => (.tree (encF (val l + val m)), [[], []])) ?_ n (0, 0, []) _ _ (by simp only; omega) ⟨rfl, rfl, rfl, rfl, hold_nil _, by simp, by simp, rfl, limbs_nil, by simp [val]⟩
  intro k ⟨i, c, o⟩ hx ih env s ⟨h0, h1, h7, h6, h5, hi, hc, hol, hoL, hv⟩
  simp only at h0 h1 h7 h6 h5 hi hc hol hoL hv hx
  by_cases hp : i = M + 1
  · have q1 : ¬ ((i : Int) < ((M + 1 : Nat) : Int)) := by omega
    obtain ⟨s9, e9⟩ := rnorm_hold n d s (env 5) o h5 hoL (by omega) (by omega) 35
    simp only [simB, zbo, Nat.reduceBEq, own0, ↓reduceIte, Nat.reduceEqDiff, Nat.reduceAdd, simL, h0, h1, h7, hmx, e0, q1, e9]
    rw [add_end l m o i c hl hm (by omega) (by omega) hv]
    exact finish_F _ _ _ _ _ _ _ (by simp only [zfk, ↓reduceIte]) rfl
  · have q1 : (i : Int) < ((M + 1 : Nat) : Int) := by omega
    have c1 := rat_call n d b l hl i
    have c2 := rat_call n d b' m hm i
    have hx1 := getD_lt l hl i
    have hx2 := getD_lt m hm i
    have e1 := u_add Tryd.prog 111 c (l.getD i 0)
    rw [Nat.mod_eq_of_lt (by omega)] at e1
    have e2 := u_add Tryd.prog 111 (c + l.getD i 0) (m.getD i 0)
    rw [Nat.mod_eq_of_lt (by omega), Nat.add_assoc] at e2
    have e3 := u_shr Tryd.prog 111 (c + (l.getD i 0 + m.getD i 0)) .u64 32 (by decide) (by decide)
    rw [show (2 : Nat) ^ (32 : Int).toNat = 4294967296 from rfl] at e3
    have e4 := i_add Tryd.prog 3 (i : Int) 1 (by omega) (by omega)
    have hlim : (c + (l.getD i 0 + m.getD i 0)) % 4294967296 < B := Nat.mod_lt _ (by decide)
    obtain ⟨v', s', ea, hh⟩ := append22 31 s (env 5) o [(c + (l.getD i 0 + m.getD i 0)) % 4294967296] .t h5 (by simp only [List.length_cons, List.length_nil]; omega)
    rw [show encL .t [(c + (l.getD i 0 + m.getD i 0)) % 4294967296] = .sl [.int .u32 (((c + (l.getD i 0 + m.getD i 0)) % 4294967296 : Nat) : Int)] 1 .tight from rfl] at ea
    simp only [simB, zbo, Nat.reduceBEq, own0, ↓reduceIte, Nat.reduceEqDiff, Nat.reduceAdd, simL, h0, h1, h7, h6, hmx, e0, q1, c1, c2, e1, e2, e3, e4, opA_one, one22_int, ea]
    refine ih (i + 1, (c + (l.getD i 0 + m.getD i 0)) / 4294967296, o ++ [(c + (l.getD i 0 + m.getD i 0)) % 4294967296]) _ _ (by simp only; omega) rfl ⟨?_, ?_, ?_, ?_, ?_, ?_, ?_, ?_, ?_, ?_⟩
    · simp only [zfk, ↓reduceIte, Nat.reduceEqDiff, h0]
    · simp only [zfk, ↓reduceIte, Nat.reduceEqDiff, h1]
    · simp only [zfk, ↓reduceIte, Nat.reduceEqDiff]; rfl
    · simp only [zfk, ↓reduceIte, Nat.reduceEqDiff]
    · simp only [zfk, ↓reduceIte, Nat.reduceEqDiff]; exact hh
    · simp only; omega
    · simp only; omega
    · simp only [List.length_append, List.length_cons, List.length_nil]; omega
    · exact hoL.app (limbs_one hlim)
    · exact add_step l m o i c hol hv
end Go.Ab

/- The reference's Sub. Conditions: limbs in range, not too many. -/
namespace Go.Ab
open Go.Proofs
set_option maxRecDepth 100000
set_option linter.unusedSimpArgs false

theorem val_take_small (b : List Nat) (hb : Limbs b) (k : Nat) (h : val b < B ^ k) : val (b.take k) = val b := by
  have h1 : val b = val (b.take k) + B ^ (b.take k).length * val (b.drop k) := by rw [← val_app, List.take_append_drop]
  rw [val_drop b hb k, Nat.div_eq_of_lt h, Nat.mul_zero, Nat.add_zero] at h1
  exact h1.symm
theorem rsub_end (a b o : List Nat) (c : Nat) (ha : Limbs a) (hb : Limbs b) (ho : Limbs o) (hi : o.length = a.length) (hle : val b ≤ val a) (h : val o + val (b.take a.length) = val (a.take a.length) + B ^ a.length * c) : val o = val a - val b := by
  have h0 := val_lt a ha
  rw [List.take_length, val_take_small b hb _ (by omega)] at h
  have h1 := val_lt o ho
  rw [hi] at h1
  rcases Nat.eq_zero_or_pos c with rfl | hc
  · rw [Nat.mul_zero, Nat.add_zero] at h; omega
  · exfalso
    have : B ^ a.length * 1 ≤ B ^ a.length * c := Nat.mul_le_mul_left _ hc
    omega
def encS (x y : Nat) : AV := if x < y then .sl [] 0 .nil else encF (x - y)
theorem rcmp_call (n d : Nat) (b b' : Gk) (l m : List Nat) (hl : Limbs l) (hm : Limbs m) (hn : l.length < n) (hn' : m.length < n) (hll : l.length ≤ 1000000) (hml : m.length ≤ 1000000) (D : Nat) (s : St) :
    callA cfg0 (evalFn Tryd.prog cfg0 n (d+2)) D s 96 [encL b l, encL b' m] = some (.int .i64 (cmpZ (val l) (val m)), s) :=
  callA_L2 _ _ _ _ _ _ _ _ _ (rcmp_eq n d b b' l m hl hm hn hn' hll hml)
theorem rsub_eq (n d : Nat) (b b' : Gk) (l m : List Nat) (hl : Limbs l) (hm : Limbs m) (hn : l.length + 2 < n) (hn' : m.length + 2 < n) (hll : l.length ≤ 100000) (hml : m.length ≤ 100000) :
    evalFn Tryd.prog cfg0 n (d+3) 97 [.tree (encL b l), .tree (encL b' m)] = some (.tree (encS (val l) (val m)), [[], []]) := by
  rw [evalFn_go _ Tryd.func97 (by unfold Tryd.f97; rfl) (by unfold Tryd.f97; decide) (Nat.le_of_ble_eq_true (by unfold Tryd.f97; rfl)) (by kernel_rfl)]
  have c0 := rcmp_call n d b b' l m hl hm (by omega) (by omega) (by omega) (by omega)
  by_cases hlt : val l < val m
  · have z1 : cmpZ (val l) (val m) < 0 := (cmpZ_lt _ _).mpr hlt
    simp only [simB, zbo, Nat.reduceBEq, own0, ↓reduceIte, Nat.reduceEqDiff, Nat.reduceAdd, simA, simL, c0, z1]
    rw [encS, if_pos hlt]
    exact finish_tree _ _ _ _ _ _ (.sl [] 0 .nil) _ _ (by simp only [zfk, ↓reduceIte]) rfl rfl
  have z1 : ¬ cmpZ (val l) (val m) < 0 := fun h => hlt ((cmpZ_lt _ _).mp h)
  rw [encS, if_neg hlt]
  simp only [simB, zbo, Nat.reduceBEq, own0, ↓reduceIte, Nat.reduceEqDiff, Nat.reduceAdd, simA, simL, st0_2, c0, z1, den_loop]
  refine loop_ends (X := Nat × Nat × List Nat) (fun x env s => env 0 = encL b l ∧ env 1 = encL b' m ∧ env 7 = .int .i64 (x.1 : Int) ∧ env 6 = .int .u64 (x.2.1 : Int) ∧ Hold s (env 5) x.2.2 ∧ x.1 ≤ l.length ∧ x.2.1 ≤ 1 ∧ x.2.2.length = x.1 ∧ Limbs x.2.2 ∧ val x.2.2 + val (m.take x.1) = val (l.take x.1) + B ^ x.1 * x.2.1) (fun x => l.length - x.1) (fun _ => (.tree (encF (val l - val m)), [[], []])) ?_ n (0, 0, []) _ _ (by simp only; omega) ⟨rfl, rfl, rfl, rfl, hold_nil _, by simp, by simp, rfl, limbs_nil, by simp [val]⟩
  intro k ⟨i, c, o⟩ hx ih env s ⟨h0, h1, h7, h6, h5, hi, hc, hol, hoL, hv⟩
  simp only at h0 h1 h7 h6 h5 hi hc hol hoL hv hx
  by_cases hp : i = l.length
  · subst hp
    have q1 : ¬ ((l.length : Int) < (l.length : Int)) := by omega
    obtain ⟨s9, e9⟩ := rnorm_hold n (d + 1) s (env 5) o h5 hoL (by omega) (by omega) 36
    simp only [simB, zbo, Nat.reduceBEq, own0, ↓reduceIte, Nat.reduceEqDiff, Nat.reduceAdd, simL, h0, h1, h7, q1, e9]
    rw [rsub_end l m o c hl hm hoL hol (by omega) hv]
    exact finish_F _ _ _ _ _ _ _ (by simp only [zfk, ↓reduceIte]) rfl
  · have q1 : (i : Int) < (l.length : Int) := by omega
    have c1 := rat_call n (d + 1) b l hl i
    have c2 := rat_call n (d + 1) b' m hm i
    have hx1 := getD_lt l hl i
    have hx2 := getD_lt m hm i
    have hst := sub_step l m o i c
    generalize l.getD i 0 = x at *
    generalize m.getD i 0 = y at *
    have e1 := u_sub Tryd.prog 111 x y (by omega)
    have e2 := u_sub Tryd.prog 111 ((x + (18446744073709551616 - y)) % 18446744073709551616) c (by omega)
    obtain ⟨u, hu⟩ : ∃ u, ((x + (18446744073709551616 - y)) % 18446744073709551616 + (18446744073709551616 - c)) % 18446744073709551616 = u := ⟨_, rfl⟩
    rw [hu] at e2
    have e3 := u_shr Tryd.prog 111 u .u64 63 (by decide) (by decide)
    rw [show (2 : Nat) ^ (63 : Int).toNat = 9223372036854775808 from rfl] at e3
    have e4 := i_add Tryd.prog 3 (i : Int) 1 (by omega) (by omega)
    have hlim : u % 4294967296 < B := Nat.mod_lt _ (by decide)
    obtain ⟨v', s', ea, hh⟩ := append22 32 s (env 5) o [u % 4294967296] .t h5 (by simp only [List.length_cons, List.length_nil]; omega)
    rw [show encL .t [u % 4294967296] = .sl [.int .u32 ((u % 4294967296 : Nat) : Int)] 1 .tight from rfl] at ea
    simp only [simB, zbo, Nat.reduceBEq, own0, ↓reduceIte, Nat.reduceEqDiff, Nat.reduceAdd, simL, h0, h1, h7, h6, q1, c1, c2, e1, e2, e3, e4, opA_one, one22_int, ea]
    refine ih (i + 1, u / 9223372036854775808, o ++ [u % 4294967296]) _ _ (by simp only; omega) rfl ⟨?_, ?_, ?_, ?_, ?_, ?_, ?_, ?_, ?_, ?_⟩
    · simp only [zfk, ↓reduceIte, Nat.reduceEqDiff, h0]
    · simp only [zfk, ↓reduceIte, Nat.reduceEqDiff, h1]
    · simp only [zfk, ↓reduceIte, Nat.reduceEqDiff]; rfl
    · simp only [zfk, ↓reduceIte, Nat.reduceEqDiff]
    · simp only [zfk, ↓reduceIte, Nat.reduceEqDiff]; exact hh
    · simp only; omega
    · simp only; omega
    · simp only [List.length_append, List.length_cons, List.length_nil]; omega
    · exact hoL.app (limbs_one hlim)
    · exact hst _ _ hol hv (borrow x y c u hx1 hx2 hc hu)
end Go.Ab

/- The reference's Mul. Conditions: limbs in range, not too many. -/
namespace Go.Ab
open Go.Proofs
set_option maxRecDepth 100000
set_option linter.unusedSimpArgs false

end Go.Ab

/- The reference's Shr. Conditions: limbs in range, not too many. -/
namespace Go.Ab
open Go.Proofs
set_option maxRecDepth 100000
set_option linter.unusedSimpArgs false

theorem tk42 : tkOf Tryd.prog 64 = .int .u64 := by kernel_rfl
theorem conv3_42 (s : St) (x : Nat) (h : x < 4294967296) : convA Tryd.prog 3 64 s (.int .i64 (x : Int)) = some (.int .u64 (x : Int)) := by
  simp only [convA, tk3, tk42]
  rw [u64_wrap, Nat.mod_eq_of_lt (by omega)]
theorem getD_drop (l : List Nat) (w i : Nat) : (l.drop w).getD i 0 = l.getD (w + i) 0 := by
  rw [List.getD_eq_getElem?_getD, List.getD_eq_getElem?_getD, List.getElem?_drop]
theorem take_next (L : List Nat) (i : Nat) (h : i < L.length) : L.take (i + 1) = L.take i ++ [L.getD i 0] := by
  rw [List.take_succ_eq_append_getElem h, List.getD_eq_getElem?_getD, List.getElem?_eq_getElem h]; rfl
theorem rshr_eq (n d : Nat) (b : Gk) (l : List Nat) (z : Int) (hl : Limbs l) (hn : l.length + 2 < n) (hll : l.length ≤ 100000) (hz : z ≤ 9223372036854775807) :
    evalFn Tryd.prog cfg0 n (d+2) 106 [.tree (encL b l), .tree (.int .i64 z)] = some (.tree (encF (val l / 2 ^ z.toNat)), [[], []]) := by
  rw [evalFn_go _ Tryd.func106 (by unfold Tryd.f106; rfl) (by unfold Tryd.f106; decide) (Nat.le_of_ble_eq_true (by unfold Tryd.f106; rfl)) (by kernel_rfl)]
  have a2 : foldA max2A (.int .i64 z) [.int .i64 0] = some (.int .i64 ((z.toNat : Nat) : Int)) := by
    simp only [foldA, max2A, Option.bind_some]
    congr 2
    split <;> omega
  have hk : z.toNat ≤ 9223372036854775807 := by omega
  generalize z.toNat = k at *
  have e1 := i_quo Tryd.prog 3 k 32 (by decide) hk
  have e2 := i_rem Tryd.prog 3 k 32 (by decide)
  rw [show ((32 : Nat) : Int) = 32 from rfl] at e1 e2
  have hend := shr_end l hl k
  have hr : k % 32 < 32 := by omega
  have hwk : k / 32 ≤ 9223372036854775807 / 32 := Nat.div_le_div_right hk
  generalize k / 32 = w at *
  generalize k % 32 = r at *
  have e9 := conv3_42 dead r (by omega)
  have e10 : ∀ s, convA Tryd.prog 3 64 s (.int .i64 (r : Int)) = some (.int .u64 (r : Int)) := fun s => conv3_42 s r (by omega)
  have hLl := shrL_len r (l.drop w)
  rw [List.length_drop] at hLl
  have hLL := shrL_limbs r (l.drop w)
  have hget := shrL_get r (l.drop w)
  obtain ⟨L, hL⟩ : ∃ L, L = shrL r (l.drop w) := ⟨_, rfl⟩
  rw [← hL] at hend hLl hLL hget
  simp only [simB, zbo, Nat.reduceBEq, own0, ↓reduceIte, Nat.reduceEqDiff, Nat.reduceAdd, simA, simL, st0_2, a2, e1, den_loop]
  refine loop_ends (X := Nat) (fun i env s => env 5 = .int .i64 (k : Int) ∧ env 0 = encL b l ∧ env 7 = .int .i64 ((w + i : Nat) : Int) ∧ Hold s (env 6) (L.take i) ∧ i ≤ L.length) (fun i => L.length - i) (fun _ => (.tree (encF (val l / 2 ^ k)), [[], []])) ?_ n 0 _ _ (by omega) ⟨rfl, rfl, rfl, hold_nil _, Nat.zero_le _⟩
  intro k' i hx ih env s ⟨h5, h0, h7, h6, hi⟩
  by_cases hp : i = L.length
  · subst hp
    have q1 : ¬ (((w + L.length : Nat) : Int) < (l.length : Int)) := by omega
    rw [List.take_length] at h6
    obtain ⟨s9, e9⟩ := rnorm_hold n d s (env 6) L h6 hLL (by omega) (by omega) 38
    simp only [simB, zbo, Nat.reduceBEq, own0, ↓reduceIte, Nat.reduceEqDiff, Nat.reduceAdd, simL, h5, h0, h7, q1, e9]
    rw [hend]
    exact finish_F _ _ _ _ _ _ _ (by simp only [zfk, ↓reduceIte]) rfl
  · have q1 : ((w + i : Nat) : Int) < (l.length : Int) := by omega
    have hx1 := getD_lt l hl (w + i)
    have hx2 := getD_lt l hl (w + i + 1)
    have hg := hget i (by rw [List.length_drop]; omega)
    rw [getD_drop, getD_drop, show w + (i + 1) = w + i + 1 by omega] at hg
    have c1 := rat_call n d b l hl (w + i)
    have c2 := rat_call n d b l hl (w + i + 1)
    have f4 := i_add Tryd.prog 3 ((w + i : Nat) : Int) 1 (by omega) (by omega)
    rw [show ((w + i + 1 : Nat) : Int) = ((w + i : Nat) : Int) + 1 by omega] at c2
    have f1 := u_shl Tryd.prog 111 (l.getD (w + i + 1) 0) .u64 32 (by decide) (by decide)
    rw [show (2 : Nat) ^ (32 : Int).toNat = 4294967296 from rfl, Nat.mod_eq_of_lt (by omega)] at f1
    have f2 := u_or Tryd.prog 111 (l.getD (w + i) 0) (l.getD (w + i + 1) 0 * 4294967296) (by omega) (by omega)
    rw [show (4294967296 : Nat) = 2 ^ 32 from rfl, shl_or _ _ 32 (by omega), show (2 : Nat) ^ 32 = 4294967296 from rfl, Nat.mul_comm] at f2
    rw [Nat.mul_comm] at f1
    have f3 := u_shr Tryd.prog 111 (l.getD (w + i) 0 + 4294967296 * l.getD (w + i + 1) 0) .u64 (r : Int) (by omega) (by omega)
    rw [Int.toNat_natCast] at f3
    obtain ⟨v', s', ea, hh⟩ := append22 36 s (env 6) (L.take i) [(l.getD (w + i) 0 + 4294967296 * l.getD (w + i + 1) 0) / 2 ^ r % 4294967296] .t h6 (by simp only [List.length_cons, List.length_nil, List.length_take]; omega)
    rw [← hg, ← take_next L i (by omega)] at hh
    rw [show encL .t [(l.getD (w + i) 0 + 4294967296 * l.getD (w + i + 1) 0) / 2 ^ r % 4294967296] = .sl [.int .u32 (((l.getD (w + i) 0 + 4294967296 * l.getD (w + i + 1) 0) / 2 ^ r % 4294967296 : Nat) : Int)] 1 .tight from rfl] at ea
    simp only [simB, zbo, Nat.reduceBEq, own0, ↓reduceIte, Nat.reduceEqDiff, Nat.reduceAdd, simL, h5, h0, h7, q1, c1, c2, e2, e10, f1, f2, f3, f4, opA_one, one22_int, ea]
    refine ih (i + 1) _ _ (by omega) rfl ⟨?_, ?_, ?_, ?_, ?_⟩
    · simp only [zfk, ↓reduceIte, Nat.reduceEqDiff, h5]
    · simp only [zfk, ↓reduceIte, Nat.reduceEqDiff, h0]
    · simp only [zfk, ↓reduceIte, Nat.reduceEqDiff]; rfl
    · simp only [zfk, ↓reduceIte, Nat.reduceEqDiff]; exact hh
    · omega
end Go.Ab

/- The reference's Len. Conditions: limbs in range, not too many. -/
namespace Go.Ab
open Go.Proofs
set_option maxRecDepth 100000
set_option linter.unusedSimpArgs false

theorem lenF (s : St) (v : Nat) : lenA Tryd.prog 23 s (encF v) = some (.int .i64 ((digs v).length : Int)) := zdx s _ _
end Go.Ab

/- The reference's Shl. Conditions: limbs in range, not too many. -/
namespace Go.Ab
open Go.Proofs
set_option maxRecDepth 100000
set_option linter.unusedSimpArgs false

theorem low_or (x c r : Nat) (hr : r < 32) (hc : c < 2 ^ r) : (c ||| x * 2 ^ r % 4294967296) = c + x * 2 ^ r % 4294967296 := by
  have e : x * 2 ^ r % 4294967296 = (x % 2 ^ (32 - r)) * 2 ^ r := by
    rw [show (4294967296 : Nat) = 2 ^ (32 - r) * 2 ^ r by rw [← Nat.pow_add, show 32 - r + r = 32 by omega], Nat.mul_mod_mul_right]
  rw [e]; exact shl_or _ _ _ hc
theorem digit_small (o : List Nat) (h : Limbs o) (j C : Nat) (hv : val o < B ^ j * C) : o.getD j 0 < C := by
  rw [← digit o h j]
  have : val o / B ^ j < C := by rw [Nat.div_lt_iff_lt_mul (Nat.pow_pos (by decide)), Nat.mul_comm]; exact hv
  exact Nat.lt_of_le_of_lt (Nat.mod_le _ _) this
theorem rshl_lt (a : List Nat) (ha : Limbs a) (w r i : Nat) : B ^ w * (2 ^ r * val (a.take i)) < B ^ (i + w) * 2 ^ r := by
  have h := val_take_lt a ha i
  rw [Nat.add_comm i w, Nat.pow_add, Nat.mul_assoc, Nat.mul_comm (B ^ i) (2 ^ r)]
  exact Nat.mul_lt_mul_of_pos_left (Nat.mul_lt_mul_of_pos_left h (Nat.two_pow_pos r)) (Nat.pow_pos (by decide))
theorem rshl_step (a o : List Nat) (w r i : Nat) (hl : i + w + 1 < o.length) (h0 : o.getD (i + w + 1) 0 = 0) (h : val o = B ^ w * (2 ^ r * val (a.take i))) :
    val ((o.set (i + w) (o.getD (i + w) 0 + a.getD i 0 * 2 ^ r % 4294967296)).set (i + w + 1) (a.getD i 0 * 2 ^ r / 4294967296)) = B ^ w * (2 ^ r * val (a.take (i + 1))) := by
  have h1 := val_set o (i + w) (o.getD (i + w) 0 + a.getD i 0 * 2 ^ r % 4294967296) (by omega)
  have h2 := val_set (o.set (i + w) (o.getD (i + w) 0 + a.getD i 0 * 2 ^ r % 4294967296)) (i + w + 1) (a.getD i 0 * 2 ^ r / 4294967296) (by rw [List.length_set]; exact hl)
  rw [getD_set_ne _ _ _ _ (by omega), h0, Nat.mul_zero, Nat.add_zero] at h2
  rw [Nat.mul_add] at h1
  rw [h2, val_take_succ']
  generalize a.getD i 0 = x at *
  have e : B ^ (i + w) * (x * 2 ^ r % 4294967296) + B ^ (i + w + 1) * (x * 2 ^ r / 4294967296) = B ^ (i + w) * (x * 2 ^ r) := by
    rw [Nat.pow_succ, Nat.mul_assoc, ← Nat.mul_add]
    have : x * 2 ^ r % 4294967296 + B * (x * 2 ^ r / 4294967296) = x * 2 ^ r := Nat.mod_add_div _ _
    rw [this]
  have e2 : B ^ w * (2 ^ r * (val (a.take i) + B ^ i * x)) = B ^ w * (2 ^ r * val (a.take i)) + B ^ (i + w) * (x * 2 ^ r) := by
    rw [Nat.mul_add, Nat.mul_add, Nat.add_comm i w, Nat.pow_add]
    congr 1
    rw [Nat.mul_assoc]
    congr 1
    rw [Nat.mul_comm (2 ^ r), Nat.mul_assoc]
  omega
theorem rshl_eq (n d : Nat) (b : Gk) (l : List Nat) (z : Int) (hl : Limbs l) (hn : l.length + 200 < n) (hll : l.length ≤ 100000) :
    evalFn Tryd.prog cfg0 n (d+2) 101 [.tree (encL b l), .tree (.int .i64 z)] = some (.tree (encF (val l * 2 ^ shn z)), [[], []]) := by
  rw [evalFn_go _ Tryd.func101 (by unfold Tryd.f101; rfl) (by unfold Tryd.f101; decide) (Nat.le_of_ble_eq_true (by unfold Tryd.f101; rfl)) (by kernel_rfl)]
  have a1 : foldA max2A (.int .i64 z) [.int .i64 0] = some (.int .i64 (if 0 > z then 0 else z)) := by
    simp only [foldA, max2A, Option.bind_some]
  have a2 : foldA min2A (.int .i64 (if 0 > z then 0 else z)) [.int .i64 4096] = some (.int .i64 ((shn z : Nat) : Int)) := by
    simp only [foldA, min2A, Option.bind_some, shn]
    congr 2
    split <;> split <;> (try split) <;> omega
  have hk : shn z ≤ 4096 := by simp only [shn]; split <;> omega
  generalize shn z = k at *
  have e1 := i_quo Tryd.prog 3 k 32 (by decide) (by omega)
  have e2 := i_rem Tryd.prog 3 k 32 (by decide)
  rw [show ((32 : Nat) : Int) = 32 from rfl] at e1 e2
  have hkw : k = 32 * (k / 32) + k % 32 := by omega
  have hw : k / 32 ≤ 128 := by omega
  have hr : k % 32 < 32 := by omega
  generalize k / 32 = w at *
  generalize k % 32 = r at *
  have e3 := i_add Tryd.prog 3 (l.length : Int) (w : Int) (by omega) (by omega)
  have e4 := i_add Tryd.prog 3 ((l.length : Int) + (w : Int)) 1 (by omega) (by omega)
  have e5 := make22 18 dead ((l.length : Int) + (w : Int) + 1) (by omega) (by omega)
  rw [show ((l.length : Int) + (w : Int) + 1).toNat = l.length + w + 1 by omega] at e5
  have e6 : (dead 18).t + 1 = 1 := rfl
  have e10 : ∀ s, convA Tryd.prog 3 64 s (.int .i64 (r : Int)) = some (.int .u64 (r : Int)) := fun s => conv3_42 s r (by omega)
  simp only [simB, zbo, Nat.reduceBEq, own0, ↓reduceIte, Nat.reduceEqDiff, Nat.reduceAdd, simA, simL, st0_2, a1, a2, e1, e3, e4, e5, e6, den_loop]
  refine loop_ends (X := Nat × List Nat) (fun x env s => env 0 = encL b l ∧ env 5 = .int .i64 (k : Int) ∧ env 6 = .own 18 1 0 (l.length + w + 1) 1 ∧ env 7 = .int .i64 (x.1 : Int) ∧ s 18 = ⟨1, .buf (encC x.2)⟩ ∧ x.1 ≤ l.length ∧ x.2.length = l.length + w + 1 ∧ Limbs x.2 ∧ val x.2 = B ^ w * (2 ^ r * val (l.take x.1))) (fun x => l.length - x.1) (fun _ => (.tree (encF (val l * 2 ^ k)), [[], []])) ?_ n (0, List.replicate (l.length + w + 1) 0) _ _ (by simp only; omega) ⟨rfl, rfl, rfl, rfl, rfl, by simp, by simp, ?_, by simp [val, val_rep]⟩
  rotate_left
  · intro x hx; rw [List.eq_of_mem_replicate hx]; decide
  intro k' ⟨i, o⟩ hx ih env s ⟨h0, h5, h6, h7, hs, hi, hol, hoL, hv⟩
  simp only at h0 h5 h6 h7 hs hi hol hoL hv hx
  by_cases hp : i = l.length
  · subst hp
    have q1 : ¬ ((l.length : Int) < (l.length : Int)) := by omega
    obtain ⟨s9, e9⟩ := rnorm_hold n d s (.own 18 1 0 (l.length + w + 1) 1) o (.inr (.inr ⟨18, 1, by rw [hol], hs⟩)) hoL (by omega) (by omega) 70
    have hfin : val o = val l * 2 ^ k := by
      rw [hv, List.take_length, hkw, Nat.pow_add, ← B_pow, Nat.mul_comm (val l), Nat.mul_assoc]
    simp only [simB, zbo, Nat.reduceBEq, own0, ↓reduceIte, Nat.reduceEqDiff, Nat.reduceAdd, simL, h0, h5, h6, h7, q1, e9]
    rw [hfin]
    exact finish_F _ _ _ _ _ _ _ (by simp only [zfk, ↓reduceIte]) rfl
  · have q1 : (i : Int) < (l.length : Int) := by omega
    have q2 : (0 : Int) ≤ (i : Int) := by omega
    have q3 : i < l.length := by omega
    have hx1 := getD_lt l hl i
    have hsm := digit_small o hoL (i + w) (2 ^ r) (by rw [hv]; exact rshl_lt l hl w r i)
    have hz0 : o.getD (i + w + 1) 0 = 0 := by
      refine digit_0 o hoL _ ?_
      rw [hv]
      refine Nat.lt_of_lt_of_le (rshl_lt l hl w r i) ?_
      rw [Nat.pow_succ]
      exact Nat.mul_le_mul_left _ (show 2 ^ r ≤ 2 ^ 32 from Nat.pow_le_pow_right (by decide) (by omega))
    have hst := rshl_step l o w r i (by omega) hz0 hv
    obtain ⟨hS, hC⟩ := shl_lt (l.getD i 0) 0 r hx1 hr (Nat.two_pow_pos r)
    rw [Nat.zero_add] at hS hC
    have hor := low_or (l.getD i 0) (o.getD (i + w) 0) r hr hsm
    have hlow := getD_lt o hoL (i + w)
    have f1 := u_shl Tryd.prog 111 (l.getD i 0) .u64 (r : Int) (by omega) (by omega)
    rw [Int.toNat_natCast, Nat.mod_eq_of_lt (by omega)] at f1
    generalize hgS : l.getD i 0 * 2 ^ r = S at *
    have hSB : S / 4294967296 < 4294967296 := by omega
    have f2 := s_or Tryd.prog 50 (o.getD (i + w) 0) (S % 4294967296) hlow (Nat.mod_lt _ (by decide))
    have hol2 : (o.getD (i + w) 0 ||| S % 4294967296) < 2 ^ 32 := Nat.or_lt_two_pow hlow (Nat.mod_lt _ (by decide))
    rw [hor] at f2 hol2
    have f3 := u_shr Tryd.prog 111 S .u64 32 (by decide) (by decide)
    rw [show (2 : Nat) ^ (32 : Int).toNat = 4294967296 from rfl] at f3
    have f4 := i_add Tryd.prog 3 (i : Int) 1 (by omega) (by omega)
    have f5 := i_add Tryd.prog 3 (i : Int) (w : Int) (by omega) (by omega)
    have f6 := i_add Tryd.prog 3 ((i : Int) + (w : Int)) 1 (by omega) (by omega)
    have g1 := ia_own s 18 1 _ (l.length + w + 1) .i64 ((i : Int) + (w : Int)) hs (by omega) (by omega)
    rw [show ((i : Int) + (w : Int)).toNat = i + w by omega] at g1
    have g2 := ld_own s 18 1 o (i + w) hs (by omega)
    have g3 := st31 s 18 1 _ (i + w) (o.getD (i + w) 0 + S % 4294967296) hs (by omega)
    have hs2 : (upd s 18 ⟨1, .buf (encC (o.set (i + w) (o.getD (i + w) 0 + S % 4294967296)))⟩) 18 = ⟨1, .buf (encC (o.set (i + w) (o.getD (i + w) 0 + S % 4294967296)))⟩ := upd_self _ _ _
    have g4 := ia_own _ 18 1 _ (l.length + w + 1) .i64 ((i : Int) + (w : Int) + 1) hs2 (by omega) (by omega)
    rw [show ((i : Int) + (w : Int) + 1).toNat = i + w + 1 by omega] at g4
    have g5 := ld_own _ 18 1 _ (i + w + 1) hs2 (by rw [List.length_set]; omega)
    rw [getD_set_ne _ _ _ _ (by omega), hz0] at g5
    have g6 := st31 _ 18 1 _ (i + w + 1) (S / 4294967296) hs2 (by rw [List.length_set]; omega)
    have f7 := s_or Tryd.prog 50 0 (S / 4294967296 % 4294967296) (by decide) (Nat.mod_lt _ (by decide))
    rw [Nat.zero_or, Nat.mod_eq_of_lt hSB] at f7
    simp only [simB, zbo, Nat.reduceBEq, own0, ↓reduceIte, Nat.reduceEqDiff, Nat.reduceAdd, simL, h0, h5, h6, h7, q1, q2, q3, Int.toNat_natCast, hx1, e1, e2, e10, f1, f2, f3, f4, f5, f6, g1, g2, g3, g4, g5, g6, Nat.mod_eq_of_lt hSB, f7]
    refine ih (i + 1, (o.set (i + w) (o.getD (i + w) 0 + S % 4294967296)).set (i + w + 1) (S / 4294967296)) _ _ (by simp only; omega) rfl ⟨?_, ?_, ?_, ?_, ?_, ?_, ?_, ?_, hst⟩
    · simp only [zfk, ↓reduceIte, Nat.reduceEqDiff, h0]
    · simp only [zfk, ↓reduceIte, Nat.reduceEqDiff, h5]
    · simp only [zfk, ↓reduceIte, Nat.reduceEqDiff, h6]
    · simp only [zfk, ↓reduceIte, Nat.reduceEqDiff]; rfl
    · rw [upd_self]
    · simp only; omega
    · simp only [List.length_set]; exact hol
    · exact limbs_set _ (limbs_set _ hoL _ _ hol2) _ _ hSB
end Go.Ab

/- The reference's Div. Conditions: limbs in range, not too many. -/
namespace Go.Ab
open Go.Proofs
set_option maxRecDepth 100000
set_option linter.unusedSimpArgs false

theorem num_F (v k : Nat) (hk : k ≤ 1000) (h : v < B ^ k) : Num (encF v) v := ⟨_, sh_L _ _, limbs_digs v, Nat.le_trans (digs_len v k h) hk, val_digs v⟩
section
variable (n d : Nat) (hn : 100000 ≤ n) (D : Nat) (s : St)
include hn
theorem rcAdd {w w' : AV} {v v' : Nat} (h : Num w v) (h' : Num w' v') : callA cfg0 (evalFn Tryd.prog cfg0 n (d+2)) D s 95 [w, w'] = some (encF (v + v'), s) := by
  obtain ⟨l, hs, hl, hk, rfl⟩ := h
  obtain ⟨l', hs', hl', hk', rfl⟩ := h'
  exact callA_S2 _ _ _ _ hs hs' _ fun b b' => radd_eq n d b b' l l' hl hl' (by omega) (by omega) (by omega) (by omega)
theorem rcSub {w w' : AV} {v v' : Nat} (h : Num w v) (h' : Num w' v') : callA cfg0 (evalFn Tryd.prog cfg0 n (d+3)) D s 97 [w, w'] = some (encS v v', s) := by
  obtain ⟨l, hs, hl, hk, rfl⟩ := h
  obtain ⟨l', hs', hl', hk', rfl⟩ := h'
  exact callA_S2 _ _ _ _ hs hs' _ fun b b' => rsub_eq n d b b' l l' hl hl' (by omega) (by omega) (by omega) (by omega)
theorem rcShl {w : AV} {v : Nat} (h : Num w v) (z : Int) : callA cfg0 (evalFn Tryd.prog cfg0 n (d+2)) D s 101 [w, .int .i64 z] = some (encF (v * 2 ^ shn z), s) := by
  obtain ⟨l, hs, hl, hk, rfl⟩ := h
  exact callA_Si _ _ _ _ hs _ _ _ fun b => rshl_eq n d b l z hl (by omega) (by omega)
theorem rcShr {w : AV} {v : Nat} (h : Num w v) (z : Int) (hz : z ≤ 9223372036854775807) : callA cfg0 (evalFn Tryd.prog cfg0 n (d+2)) D s 106 [w, .int .i64 z] = some (encF (v / 2 ^ z.toNat), s) := by
  obtain ⟨l, hs, hl, hk, rfl⟩ := h
  exact callA_Si _ _ _ _ hs _ _ _ fun b => rshr_eq n d b l z hl (by omega) (by omega) hz
end
end Go.Ab

/- The reference's numbers: what is a number, made of limbs, of ints; its compare. Conditions: limbs in range. -/
namespace Go.Ab
open Go.Proofs
set_option maxRecDepth 100000
set_option linter.unusedSimpArgs false

set_option maxHeartbeats 2000000 in
theorem ris_eq (n d : Nat) (neg : Bool) (g : Gk) (l : List Nat) (hl : Limbs l) : evalFn Tryd.prog cfg0 n (d+2) 71 [.tree (encA neg g l)] = some (.tree (canA (gz neg g l) (numZ neg l)), [[]]) := by
  rw [evalFn_go _ Tryd.func71 (by unfold Tryd.f71; rfl) (by unfold Tryd.f71; decide) (Nat.le_of_ble_eq_true (by unfold Tryd.f71; rfl)) (by kernel_rfl)]
  have c1 := fun D s => cRcheck n d neg g l hl D s
  cases h : chkN neg l with
  | false =>
    rw [canA_no h]
    simp only [simB, zbo, Nat.reduceBEq, own0, ↓reduceIte, Nat.reduceEqDiff, Nat.reduceAdd, simA, simL, simN, Nat.zero_add, st0_1, c1, h]
    exact finish_c _ _ 2 2 1 _ _ _ _ _ (by simp only [zfk, ↓reduceIte, Nat.reduceEqDiff]) (by simp only [zfk, ↓reduceIte, Nat.reduceEqDiff]) rfl
  | true =>
    rw [canA_of hl h]
    simp only [simB, zbo, Nat.reduceBEq, own0, ↓reduceIte, Nat.reduceEqDiff, Nat.reduceAdd, simA, simL, simN, Nat.zero_add, st0_1, c1, h]
    exact finish_c _ _ 2 2 1 _ _ _ _ _ (by simp only [zfk, ↓reduceIte, Nat.reduceEqDiff]) (by simp only [zfk, ↓reduceIte, Nat.reduceEqDiff]) rfl
theorem cRis (n d : Nat) {w : AV} {z : Int} (h : IsN w z) : ∃ g, ∀ D s, callA cfg0 (evalFn Tryd.prog cfg0 n (d+2)) D s 71 [w] = some (canA g z, s) := by
  obtain ⟨neg, g, l, rfl, hl, rfl⟩ := h
  exact ⟨_, fun D s => callA_trees rfl (ris_eq n d neg g l hl)⟩
theorem qRis (n d : Nat) {w : AV} {z : Int} (h : IsN w z) : ∃ g, callQ (evalFn Tryd.prog cfg0 n (d+2)) 71 [w] = some (canA g z) := by
  obtain ⟨neg, g, l, rfl, hl, rfl⟩ := h
  exact ⟨_, callQ_trees rfl (ris_eq n d neg g l hl)⟩
def gm (z : Int) : Gk := if z.natAbs < B ^ 12 then .l else .n
def madeF (z : Int) : AV := .tup [canA (gm z) (mkZ z).1, .bool (mkZ z).2]
theorem madeF_fit {z : Int} (h : z.natAbs < B ^ 12) : madeF z = .tup [canA .l z, .bool true] := by rw [madeF, mkZ_fit h, gm, if_pos h]
theorem lenF' (s : St) (v : Nat) : lenA Tryd.prog 23 s (encF v) = some (.int .i64 ((digs v).length : Int)) := zdx s _ _
theorem bd_2F (b : Bool) (v : Nat) : buildA Tryd.prog 25 [(0, .bool b), (1, encF v)] = some (.agg [.bool b, encF v]) := bd_2 _ _ _
set_option maxHeartbeats 2000000 in
theorem rmade_eq (n d : Nat) (neg : Bool) (g : Gk) (l : List Nat) (hl : Limbs l) (hn : l.length < n) (hk : l.length ≤ 1000000) : evalFn Tryd.prog cfg0 n (d+2) 74 [.tree (.bool neg), .tree (encL g l)] = some (.tree (madeF (sgn neg (val l))), [[], []]) := by
  rw [evalFn_go _ Tryd.func74 (by unfold Tryd.f74; rfl) (by unfold Tryd.f74; decide) (Nat.le_of_ble_eq_true (by unfold Tryd.f74; rfl)) (by kernel_rfl)]
  have c1 := fun D s => callA_L1 (evalFn Tryd.prog cfg0 n (d+1)) D s 98 g l _ (rnorm_eq n d g l hl hn hk)
  generalize hv : val l = v at *
  have hp : (((digs v).length : Nat) : Int) > 0 ↔ v ≠ 0 := by
    have := digs_len0 v
    omega
  have hd : decide ((((digs v).length : Nat) : Int) > 0) = decide (v ≠ 0) := by
    rw [decide_eq_decide]; exact hp
  have hm : mkZ (sgn neg v) = if v < B ^ 12 then (sgn neg v, true) else (0, false) := by rw [mkZ, sgn_abs]
  by_cases hf : v < B ^ 12
  · have hlen : ¬ (((digs v).length : Nat) : Int) > 12 := by have := digs_len v 12 hf; omega
    rw [madeF_fit (by rw [sgn_abs]; exact hf)]
    have he : (.agg [.bool (neg && decide (v ≠ 0)), encF v] : AV) = canA .l (sgn neg v) := by
      unfold canA; rw [sgn_neg, sgn_abs]; rfl
    rw [← he]
    cases neg with
    | false =>
      simp only [simB, zbo, Nat.reduceBEq, own0, ↓reduceIte, Nat.reduceEqDiff, Nat.reduceAdd, simA, simL, simN, Nat.zero_add, st0_2, c1, lenF', hlen, bd_2F]
      exact finish_ct _ _ 4 4 1 _ _ _ _ _ _ _ (by simp only [zfk, ↓reduceIte, Nat.reduceEqDiff]) (by simp only [zfk, ↓reduceIte, Nat.reduceEqDiff]) (by simp only [zfk, ↓reduceIte, Nat.reduceEqDiff]) rfl
    | true =>
      simp only [simB, zbo, Nat.reduceBEq, own0, ↓reduceIte, Nat.reduceEqDiff, Nat.reduceAdd, simA, simL, simN, Nat.zero_add, st0_2, c1, lenF', hlen, hd, bd_2F]
      exact finish_ct _ _ 4 4 1 _ _ _ _ _ _ _ (by simp only [zfk, ↓reduceIte, Nat.reduceEqDiff]) (by simp only [zfk, ↓reduceIte, Nat.reduceEqDiff]) (by simp only [zfk, ↓reduceIte, Nat.reduceEqDiff]) rfl
  · have hlen : (((digs v).length : Nat) : Int) > 12 := by
      have h1 := val_lt (digs v) (limbs_digs v)
      rw [val_digs] at h1
      rcases Nat.lt_or_ge 12 (digs v).length with h2 | h2
      · omega
      · exact absurd (Nat.lt_of_lt_of_le h1 (Nat.pow_le_pow_right (by decide) h2)) hf
    have he : madeF (sgn neg v) = .tup [encA false .n [], .bool false] := by
      rw [madeF, hm, if_neg hf, gm, if_neg (by rw [sgn_abs]; exact hf)]
      simp [canA, digs_0]
    rw [he]
    simp only [simB, zbo, Nat.reduceBEq, own0, ↓reduceIte, Nat.reduceEqDiff, Nat.reduceAdd, simA, simL, simN, Nat.zero_add, st0_2, c1, lenF', hlen]
    exact finish_ct _ _ 4 4 1 _ _ _ _ _ _ _ (by simp only [zfk, ↓reduceIte, Nat.reduceEqDiff]) (by simp only [zfk, ↓reduceIte, Nat.reduceEqDiff]) (by simp only [zfk, ↓reduceIte, Nat.reduceEqDiff]) rfl
section
variable (n d : Nat) (hn : 100000 ≤ n) (D : Nat) (s : St)
include hn
theorem cRmade {w : AV} {v : Nat} (h : Num w v) (neg : Bool) : callA cfg0 (evalFn Tryd.prog cfg0 n (d+2)) D s 74 [.bool neg, w] = some (madeF (sgn neg v), s) := by
  obtain ⟨l, hs, hl, hk, rfl⟩ := h
  exact callA_bS _ D s _ hs neg _ fun g => rmade_eq n d neg g l hl (by omega) (by omega)
end
set_option maxHeartbeats 2000000 in
theorem rof64_eq (n d : Nat) (hn : 100000 ≤ n) (z : Int) (h : -9223372036854775808 ≤ z) (h' : z ≤ 9223372036854775807) : evalFn Tryd.prog cfg0 n (d+3) 49 [.tree (.int .i64 z)] = some (.tree (canA .l z), [[]]) := by
  rw [evalFn_go _ Tryd.func49 (by unfold Tryd.f49; rfl) (by unfold Tryd.f49; decide) (Nat.le_of_ble_eq_true (by unfold Tryd.f49; rfl)) (by kernel_rfl)]
  have hz : z.natAbs ≤ 9223372036854775808 := by omega
  have hfit : z.natAbs < B ^ 12 := by have := B12_big; omega
  have c0 := fun s => conv3_55 s z h h'
  have key : ∀ (x : Nat), x = z.natAbs → x < 18446744073709551616 →
      (∀ s, convA Tryd.prog 111 50 s (.int .u64 (x : Int)) = some (.int .u32 ((x % 4294967296 : Nat) : Int))) ∧
      binA Tryd.prog .shr 111 (.int .u64 (x : Int)) (.int .u64 32) = some (.int .u64 ((x / 4294967296 : Nat) : Int)) ∧
      (∀ s, convA Tryd.prog 111 50 s (.int .u64 ((x / 4294967296 : Nat) : Int)) = some (.int .u32 ((x / 4294967296 % 4294967296 : Nat) : Int))) ∧
      (∀ D s, callA cfg0 (evalFn Tryd.prog cfg0 n (d+2)) D s 74 [.bool (decide (z < 0)), .sl [.int .u32 ((x % 4294967296 : Nat) : Int), .int .u32 ((x / 4294967296 % 4294967296 : Nat) : Int)] 2 .tight] = some (.tup [canA .l z, .bool true], s)) := by
    intro x hx hlt
    refine ⟨fun s => zeg s x, ?_, fun s => zeg s _, fun D s => ?_⟩
    · have := u_shr Tryd.prog 111 x .u64 32 (by decide) (by decide)
      rw [show (2 : Nat) ^ (32 : Int).toNat = 4294967296 from rfl] at this
      exact this
    · have hnum : Num (.sl [.int .u32 ((x % 4294967296 : Nat) : Int), .int .u32 ((x / 4294967296 % 4294967296 : Nat) : Int)] 2 .tight) x := by
        refine ⟨[x % 4294967296, x / 4294967296 % 4294967296], ⟨_, rfl⟩, limbs_cons (Nat.mod_lt _ (by decide)) (limbs_one (Nat.mod_lt _ (by decide))), by simp, ?_⟩
        show x % 4294967296 + 4294967296 * (x / 4294967296 % 4294967296 + 4294967296 * 0) = x
        omega
      have := cRmade n d hn D s hnum (decide (z < 0))
      rw [hx, sgn_of, madeF_fit hfit] at this
      rw [hx]; exact this
  by_cases hneg : z < 0
  · rw [if_pos hneg] at c0
    have u := un_neg64 (18446744073709551616 - z.natAbs) (by omega)
    rw [show (18446744073709551616 - (18446744073709551616 - z.natAbs)) % 18446744073709551616 = z.natAbs by omega] at u
    obtain ⟨k1, k2, k3, k4⟩ := key z.natAbs rfl (by omega)
    rw [decide_eq_true hneg] at k4
    simp only [simB, zbo, Nat.reduceBEq, own0, ↓reduceIte, Nat.reduceEqDiff, Nat.reduceAdd, simA, simL, simN, Nat.zero_add, st0_1, c0, hneg, u, k1, k2, k3, opA_two, two22_int, k4, ext_0, ext_1, zes]
    exact finish_c _ _ 2 2 1 _ _ _ _ _ (by simp only [zfk, ↓reduceIte, Nat.reduceEqDiff]) (by simp only [zfk, ↓reduceIte, Nat.reduceEqDiff, hneg, decide_true, decide_false]) rfl
  · rw [if_neg hneg] at c0
    obtain ⟨k1, k2, k3, k4⟩ := key z.natAbs rfl (by omega)
    rw [decide_eq_false hneg] at k4
    simp only [simB, zbo, Nat.reduceBEq, own0, ↓reduceIte, Nat.reduceEqDiff, Nat.reduceAdd, simA, simL, simN, Nat.zero_add, st0_1, c0, hneg, k1, k2, k3, opA_two, two22_int, k4, ext_0, ext_1, zes]
    exact finish_c _ _ 2 2 1 _ _ _ _ _ (by simp only [zfk, ↓reduceIte, Nat.reduceEqDiff]) (by simp only [zfk, ↓reduceIte, Nat.reduceEqDiff, hneg, decide_true, decide_false]) rfl
theorem cRof64 (n d : Nat) (hn : 100000 ≤ n) (z : Int) (h : -9223372036854775808 ≤ z) (h' : z ≤ 9223372036854775807) (D : Nat) (s : St) : callA cfg0 (evalFn Tryd.prog cfg0 n (d+3)) D s 49 [.int .i64 z] = some (canA .l z, s) :=
  callA_trees rfl (rof64_eq n d hn z h h')

end Go.Ab

/- Small Ints as terms; rows and lists of them, compared. Conditions: numbers that Go has. -/
namespace Go.Ab
open Go.Proofs
set_option maxRecDepth 100000
set_option linter.unusedSimpArgs false

def I64 (v : Int) : Prop := -9223372036854775808 ≤ v ∧ v ≤ 9223372036854775807
def intT (v : Int) : T := .mk 1 (decide (v < 0)) .l (digs v.natAbs) [] 0 .n []
def nilT' : T := .mk 3 false .n [] [] 0 .n []
def tupT (kg : Gk) (us : List T) : T := .mk 5 false .n [] [] 0 kg us
theorem rInt_eq (n d : Nat) (hn : 100000 ≤ n) (v : Int) (h : I64 v) : evalFn Tryd.prog cfg0 n (d+4) 38 [.tree (.int .i64 v)] = some (.tree (encT (intT v)), [[]]) := by
  rw [evalFn_go _ Tryd.func38 (by unfold Tryd.f38; rfl) (by unfold Tryd.f38; decide) (Nat.le_of_ble_eq_true (by unfold Tryd.f38; rfl)) (by kernel_rfl)]
  have c1 := fun D st => cRof64 n d hn v h.1 h.2 D st
  have b1 := bdT_1 1 (decide (v < 0)) .l (digs v.natAbs)
  have st1 := fun st p k => st_Tt st p k (intT v)
  simp only [intT, cellsT, encC, List.map_nil, cellsK, List.length_nil, gr] at st1
  simp only [simB, zbo, Nat.reduceBEq, own0, ↓reduceIte, Nat.reduceEqDiff, Nat.reduceAdd, simA, simL, simN, Nat.zero_add, zeroT, c1, canA, encA, b1, st1]
  have st6 := fun t k p st => stT_6 t k p st (.int .i64 0) (.bool false) (.sl [] 0 .nil) (.str []) (.int .i64 0) (.sl [] 0 .nil) (intT v)
  simp only [intT, cellsT, encC, List.map_nil, cellsK, List.length_nil, gr] at st6
  simp only [simB, zbo, Nat.reduceBEq, own0, ↓reduceIte, Nat.reduceEqDiff, Nat.reduceAdd, simA, simL, simN, Nat.zero_add, st6]
  exact finish_cT _ _ _ _ _ (intT v) _ _ _ (by simp only [zfk, ↓reduceIte, Nat.reduceEqDiff]; try rfl) (by simp only [intT, cellsT, encC, List.map_nil, cellsK, List.length_nil, gr]; exact (by simp only [zfk, ↓reduceIte, Nat.reduceEqDiff]; try rfl)) rfl
end Go.Ab

/- The statement TermTuples. Conditions: numbers that Go has. -/
namespace Go.Ab
open Go.Proofs
set_option maxRecDepth 100000
set_option linter.unusedSimpArgs false

def intsA (xs : List Int) : List AV := xs.map (AV.int .i64)
theorem ldInts (xs : List Int) (i : Nat) (h : i < xs.length) (st : St) : loadA Tryd.prog 3 st (.rptr ((intsA xs).drop i)) = some (.int .i64 xs[i]) := by
  have e : (intsA xs).drop i = .int .i64 xs[i] :: (intsA xs).drop (i + 1) := by
    rw [List.drop_eq_getElem_cons (by simpa [intsA] using h)]
    simp [intsA]
  rw [e]
  exact ld33 st _ _
theorem bs1T (e : T) : (fillA (fun i => some (i * 6, 6)) (rep 1 zeroT6) [(0, .agg (cellsT e))]).map (AV.sl · 1 .tight) = some (.sl (cellsT e) 1 .tight) := by
  have h := cellsT_len e
  have a1 : splice (rep 1 zeroT6) (0 * 6) (cellsT e) = cellsT e := by
    simp only [splice, Nat.zero_mul, List.take_zero, List.nil_append, Nat.zero_add, h]; exact List.append_nil _
  simp only [fillA, settled, Option.bind_some, cellsOf]
  rw [if_pos ⟨h, by decide⟩, a1]
  rfl
theorem Ap.tup {s : St} {d : Nat} {x : AV} {us : List T} (h : Ap s d x us) : buildA Tryd.prog 28 [(0, .int .i64 5), (4, x)] = some (.agg (cellsT (tupT (kgOf us) us))) := by
  have hs := h.settled
  simp only [buildA, zeroT, tkT, plT, Option.bind_some, fillA, List.getElem?_cons_zero, List.getElem?_cons_succ, hs]
  simp only [tupT, cellsT, encL, encC, List.map_nil, List.length_nil, gr]
  rfl
theorem Ap.list {s : St} {d : Nat} {x : AV} {us : List T} (h : Ap s d x us) (hl : us.length ≤ 1000000) (R D : Nat) : callQ (evalFn Tryd.prog cfg0 R (D+1)) 18 [x, encT nilT'] = some (encT (listT us nilT')) := by
  rcases h with ⟨rfl, rfl⟩ | ⟨_, t, rfl, _⟩
  · exact callQ_trees (vs := [.sl [] 0 .nil, encT nilT']) rfl (tList_eq R D [] .nil nilT' (by decide))
  · exact callQ_loose (vs := [.sl (cellsK us) us.length (.tok d t), encT nilT']) rfl rfl rfl (tList_eq R D us .loose nilT' (by omega))

section
variable (R : Nat) (hR : 100000 ≤ R) (xs ys : List Int) (hx : ∀ x ∈ xs, I64 x) (hy : ∀ x ∈ ys, I64 x) (hxk : xs.length ≤ 30) (hyk : ys.length ≤ 30) (gx gy : Grip) (x5 x6 : AV) (s1 s2 : St) (ap : Ap s1 36 x5 (xs.map intT)) (ap2 : Ap s2 50 x6 (ys.map intT))
include hR hx hy hxk hyk ap ap2
end
end Go.Ab

/- The walk of TermTuples: it gives true, and leaves memory below as it was. No conditions. -/
namespace Go.Ab
open Go.Proofs Go.RowKit
theorem row_I64 {w : World} {a : Option Addr} {len cap : Nat} {zs : List Int} (h : IsRow .i64 w a len cap zs) : (zs.take len).length = len ∧ ∀ x ∈ zs.take len, I64 x := by
  have hw : ∀ n ∈ zs, (Lit.int .i64 n).wf = true := by
    rcases h with ⟨_, _, _, rfl⟩ | ⟨_, _, _, _, _, _, h⟩
    · intro n hn; cases hn
    · exact h
  refine ⟨?_, fun x hx => ?_⟩
  · rcases h with ⟨_, rfl, _, rfl⟩ | ⟨_, _, hl, _, hz, _⟩
    · rfl
    · rw [List.length_take]; omega
  · have := hw x (List.mem_of_mem_take hx)
    simp only [Lit.wf, IntKind.min, IntKind.max, IntKind.bits, IntKind.signed] at this
    unfold I64
    simp at this
    omega
end Go.Ab

/- Bits of numbers with signs, as so many limbs: plain arithmetic. -/
namespace Go.Ab
end Go.Ab

/- Bits with all ones, with nought, with themselves: plain arithmetic. -/
namespace Go.Ab
section
variable (n x : Nat) (h : x < 2 ^ n)
include h
end
section
variable (z : Int) (h : z.natAbs < B ^ 12)
include h
end
end Go.Ab

/- And, or, exclusive or together, of numbers with room: plain arithmetic. -/
namespace Go.Ab
end Go.Ab

/- Bits of numbers below 0, in so many bits as have room. Pure mathematics. -/
namespace Go.Ab
end Go.Ab

/- The reference's bits of numbers. Pure mathematics. -/
namespace Go.Ab
def f3 (op : Nat) (p q : Bool) : Bool := if op = 6 then p && q else if op = 7 then p || q else !(p == q)
def lessN (z : Int) : Nat := if z < 0 then z.natAbs - 1 else z.natAbs
section
variable {N op : Nat} {a b : Int} (ha : a.natAbs < 2 ^ N) (hb : b.natAbs < 2 ^ N)
include ha hb
end
end Go.Ab

/- Numbers as texts. Pure mathematics. -/
namespace Go.Ab
def dg (n : Nat) : UInt8 := UInt8.ofNat (48 + n % 10)
theorem dg_nat (n : Nat) : (dg n).toNat = 48 + n % 10 := by
  unfold dg
  rw [UInt8.toNat_ofNat']
  have := Nat.mod_lt n (show 0 < 10 by decide)
  exact Nat.mod_eq_of_lt (by omega)
def decN (v : Nat) : List UInt8 := if _h : v = 0 then [] else decN (v / 10) ++ [dg v]
termination_by v
decreasing_by exact Nat.div_lt_self (by omega) (by decide)
theorem decN_0 : decN 0 = [] := by rw [decN]; rfl
theorem decN_pos (v : Nat) (h : v ≠ 0) : decN v = decN (v / 10) ++ [dg v] := by rw [decN, dif_neg h]
theorem decN_nil (v : Nat) : decN v = [] ↔ v = 0 := by
  constructor
  · intro h
    apply Classical.byContradiction
    intro h0
    rw [decN_pos v h0] at h
    simp at h
  · rintro rfl; exact decN_0
def textZ (z : Int) : List UInt8 := if z = 0 then [48] else if z < 0 then 45 :: decN z.natAbs else decN z.natAbs
def padN : Nat → Nat → List UInt8
  | 0, _ => []
  | k + 1, v => padN k (v / 10) ++ [dg v]
theorem padN_len : ∀ k v, (padN k v).length = k
  | 0, _ => rfl
  | k + 1, v => by simp [padN, padN_len k]
theorem padN_add (a : Nat) : ∀ b v, padN (a + b) v = padN a (v / 10 ^ b) ++ padN b v
  | 0, v => by simp [padN]
  | b + 1, v => by
    show padN (a + b) (v / 10) ++ [dg v] = _
    rw [padN_add a b (v / 10), Nat.div_div_eq_div_mul, show 10 * 10 ^ b = 10 ^ (b + 1) by rw [Nat.pow_succ, Nat.mul_comm], List.append_assoc]
    rfl
theorem padN_mod : ∀ k v, padN k (v % 10 ^ k) = padN k v
  | 0, v => rfl
  | k + 1, v => by
    show padN k (v % 10 ^ (k + 1) / 10) ++ [dg (v % 10 ^ (k + 1))] = padN k (v / 10) ++ [dg v]
    have h1 : v % 10 ^ (k + 1) / 10 = v / 10 % 10 ^ k := by rw [Nat.pow_succ, Nat.mul_comm]; exact Nat.mod_mul_right_div_self v 10 (10 ^ k)
    have h2 : v % 10 ^ (k + 1) % 10 = v % 10 := Nat.mod_mod_of_dvd v ⟨10 ^ k, by rw [Nat.pow_succ, Nat.mul_comm]⟩
    rw [h1, padN_mod k]
    unfold dg
    rw [h2]
theorem padN_drop : ∀ k v, v < 10 ^ k → (padN k v).dropWhile (· == 48) = decN v
  | 0, v, h => by
    have : v = 0 := by simpa using h
    subst this
    rw [decN_0]; rfl
  | k + 1, v, h => by
    have h1 : v / 10 < 10 ^ k := Nat.div_lt_of_lt_mul (by rw [Nat.pow_succ] at h; omega)
    show (padN k (v / 10) ++ [dg v]).dropWhile (· == 48) = decN v
    rw [List.dropWhile_append, padN_drop k _ h1]
    by_cases hv : v / 10 = 0
    · rw [hv, decN_0]
      simp only [List.isEmpty_nil, if_true]
      by_cases h0 : v = 0
      · subst h0
        rw [decN_0]; rfl
      · rw [decN_pos v h0, hv, decN_0]
        have : (dg v == 48) = false := by
          rw [beq_eq_false_iff_ne]
          intro hc
          have := congrArg UInt8.toNat hc
          rw [dg_nat] at this
          simp at this
          omega
        simp [List.dropWhile, this]
    · have hne : decN (v / 10) ≠ [] := fun hc => hv ((decN_nil _).mp hc)
      have : (decN (v / 10)).isEmpty = false := by cases hq : decN (v / 10) with | nil => exact absurd hq hne | cons _ _ => rfl
      rw [this]
      simp only [Bool.false_eq_true, if_false]
      rw [decN_pos v (by omega)]
theorem dec_len : ∀ k v, v < 10 ^ k → (decN v).length ≤ k
  | 0, v, h => by
    have : v = 0 := by simpa using h
    subst this
    rw [decN_0]; exact Nat.le_refl _
  | k + 1, v, h => by
    by_cases h0 : v = 0
    · subst h0; rw [decN_0]; exact Nat.zero_le _
    · rw [decN_pos v h0, List.length_append]
      have := dec_len k (v / 10) (Nat.div_lt_of_lt_mul (by rw [Nat.pow_succ] at h; omega))
      simp; omega
def isDg (c : UInt8) : Bool := decide (48 ≤ c.toNat) && decide (c.toNat ≤ 57)
theorem dg_is (n : Nat) : isDg (dg n) = true := by
  unfold isDg
  rw [dg_nat]
  have := Nat.mod_lt n (show 0 < 10 by decide)
  simp; omega
def valD (l : List UInt8) : Nat := l.foldl (fun a c => a * 10 + (c.toNat - 48)) 0
theorem valD_snoc (l : List UInt8) (c : UInt8) : valD (l ++ [c]) = valD l * 10 + (c.toNat - 48) := by simp [valD, List.foldl_append]
theorem dec_facts : ∀ (k v : Nat), v ≤ k → valD (decN v) = v ∧ (decN v).all isDg = true
  | 0, v, h => by
    have : v = 0 := by omega
    subst this
    rw [decN_0]; exact ⟨rfl, rfl⟩
  | k + 1, v, h => by
    by_cases h0 : v = 0
    · subst h0; rw [decN_0]; exact ⟨rfl, rfl⟩
    · obtain ⟨h1, h2⟩ := dec_facts k (v / 10) (by omega)
      rw [decN_pos v h0, valD_snoc, h1, dg_nat, List.all_append, h2]
      refine ⟨by omega, ?_⟩
      simp [dg_is]
theorem valD_dec (v : Nat) : valD (decN v) = v := (dec_facts v v (Nat.le_refl _)).1
theorem dec_all (v : Nat) : (decN v).all isDg = true := (dec_facts v v (Nat.le_refl _)).2
def cutS (s : List UInt8) : Bool × List UInt8 := match s with
  | [] => (false, [])
  | c :: r => if c = 45 then (true, r) else (false, c :: r)
def okS (s : List UInt8) : Bool := decide (s.length ≤ 200) && !(cutS s).2.isEmpty && (cutS s).2.all isDg
def parseR (s : List UInt8) : Int × Bool := if okS s = true then (if (mkZ (sgn (cutS s).1 (valD (cutS s).2))).2 && (textZ (mkZ (sgn (cutS s).1 (valD (cutS s).2))).1 == s) then ((mkZ (sgn (cutS s).1 (valD (cutS s).2))).1, true) else (0, false)) else (0, false)
theorem dec_no45 (v : Nat) : ∀ c r, decN v = c :: r → c ≠ 45 := by
  intro c r h hc
  have := dec_all v
  rw [h, hc] at this
  simp [isDg] at this
theorem cut_text (z : Int) (h : z ≠ 0) : cutS (textZ z) = (decide (z < 0), decN z.natAbs) := by
  unfold textZ
  rw [if_neg h]
  by_cases hz : z < 0
  · rw [if_pos hz, decide_eq_true hz]; rfl
  · rw [if_neg hz, decide_eq_false hz]
    cases hd : decN z.natAbs with
    | nil => exact absurd ((decN_nil _).mp hd) (by omega)
    | cons c r =>
      have := dec_no45 _ c r hd
      simp [cutS, this]
theorem B12_ten : B ^ 12 < 10 ^ 116 := by decide
theorem parse_text (z : Int) (hz : z.natAbs < B ^ 12) : parseR (textZ z) = (z, true) := by
  by_cases h0 : z = 0
  · subst h0
    have e : textZ 0 = [48] := rfl
    rw [e]
    have h1 : okS [48] = true := by decide
    have h2 : cutS [48] = (false, [48]) := by decide
    have h3 : valD [48] = 0 := by decide
    have h4 : mkZ (sgn false 0) = (0, true) := mkZ_fit hz
    unfold parseR
    rw [if_pos h1, h2]
    show (if (mkZ (sgn false (valD [48]))).2 && (textZ (mkZ (sgn false (valD [48]))).1 == [48]) then ((mkZ (sgn false (valD [48]))).1, true) else (0, false)) = (0, true)
    rw [h3, h4, e]
    rfl
  · have hc := cut_text z h0
    have hl := dec_len 116 z.natAbs (Nat.lt_trans hz B12_ten)
    have hne : decN z.natAbs ≠ [] := fun h => h0 (by have := (decN_nil _).mp h; omega)
    have hok : okS (textZ z) = true := by
      unfold okS
      rw [hc]
      have h1 : (textZ z).length ≤ 200 := by
        unfold textZ
        rw [if_neg h0]
        split
        · rw [List.length_cons]; omega
        · omega
      have h2 : (decN z.natAbs).isEmpty = false := by cases hq : decN z.natAbs with | nil => exact absurd hq hne | cons _ _ => rfl
      rw [decide_eq_true h1, h2, dec_all]
      rfl
    have hm : mkZ (sgn (decide (z < 0)) z.natAbs) = (z, true) := by
      rw [show sgn (decide (z < 0)) z.natAbs = z from sgn_of z]
      exact mkZ_fit hz
    unfold parseR
    rw [if_pos hok, hc]
    simp only [valD_dec, hm]
    simp
end Go.Ab

/- Terms as texts: a text tells its term. No conditions. -/
namespace Go.Ab
open Go.Proofs
set_option maxRecDepth 100000
set_option linter.unusedSimpArgs false

def hexD (n : Nat) : UInt8 := UInt8.ofNat (if n < 10 then 48 + n else 87 + n)
def hexS : List UInt8 → List UInt8
  | [] => []
  | c :: r => hexD (c.toNat / 16) :: hexD (c.toNat % 16) :: hexS r
mutual
def textT : T → List UInt8
  | .mk k b _ l s _ _ ks => if k = 1 then textZ (numZ b l) else if k = 2 then s else if k = 3 then [91, 93] else if k = 4 then 91 :: textC ks else if k = 5 then 123 :: (textL ks ++ [125]) else if k = 6 then 60 :: 60 :: (hexS s ++ [62, 62]) else [63]
def textC : List T → List UInt8
  | [] => []
  | h :: r => textT h ++ 124 :: textD r
def textD : List T → List UInt8
  | [] => []
  | t :: _ => textT t ++ [93]
def textL : List T → List UInt8
  | [] => []
  | t :: r => textT t ++ textM r
def textM : List T → List UInt8
  | [] => []
  | t :: r => 44 :: (textT t ++ textM r)
end
def lowS (s : List UInt8) : Prop := s ≠ [] ∧ ∀ c ∈ s, 97 ≤ c.toNat ∧ c.toNat ≤ 122
mutual
def mdT : T → Prop
  | .mk k b _ l s n _ ks => n = 0 ∧ Limbs l ∧ mdK ks ∧ ((k = 1 ∧ chkN b l = true ∧ s = [] ∧ ks = []) ∨ (k = 2 ∧ lowS s ∧ s.length ≤ 40 ∧ b = false ∧ l = [] ∧ ks = []) ∨ (k = 3 ∧ b = false ∧ l = [] ∧ s = [] ∧ ks = []) ∨ (k = 4 ∧ b = false ∧ l = [] ∧ s = [] ∧ ks.length = 2) ∨ (k = 5 ∧ b = false ∧ l = [] ∧ s = [] ∧ ks.length ≤ 40) ∨ (k = 6 ∧ b = false ∧ l = [] ∧ s.length ≤ 400 ∧ ks = []))
def mdK : List T → Prop
  | [] => True
  | t :: r => mdT t ∧ mdK r
end
theorem span_eq (p : UInt8 → Bool) : ∀ (a b r q : List UInt8), (∀ c ∈ a, p c = true) → (∀ c ∈ b, p c = true) → (∀ c, r.head? = some c → p c = false) → (∀ c, q.head? = some c → p c = false) → a ++ r = b ++ q → a = b ∧ r = q
  | [], [], r, q, _, _, _, _, h => ⟨rfl, h⟩
  | [], y :: b, r, q, _, hb, hr, _, h => by
    have h1 := hr y (by rw [List.nil_append] at h; rw [h]; rfl)
    have h2 := hb y (List.mem_cons_self ..)
    rw [h2] at h1; cases h1
  | x :: a, [], r, q, ha, _, _, hq, h => by
    have h1 := hq x (by rw [List.nil_append] at h; rw [← h]; rfl)
    have h2 := ha x (List.mem_cons_self ..)
    rw [h2] at h1; cases h1
  | x :: a, y :: b, r, q, ha, hb, hr, hq, h => by
    simp only [List.cons_append, List.cons.injEq] at h
    obtain ⟨h1, h2⟩ := span_eq p a b r q (fun c hc => ha c (List.mem_cons_of_mem _ hc)) (fun c hc => hb c (List.mem_cons_of_mem _ hc)) hr hq h.2
    exact ⟨by rw [h.1, h1], h2⟩
def stopS (r : List UInt8) : Prop := ∀ c, r.head? = some c → c = 124 ∨ c = 93 ∨ c = 44 ∨ c = 125
def isNumC (c : UInt8) : Bool := c == 45 || (decide (48 ≤ c.toNat) && decide (c.toNat ≤ 57))
def isLowC (c : UInt8) : Bool := decide (97 ≤ c.toNat) && decide (c.toNat ≤ 122)
def isHexC (c : UInt8) : Bool := c != 62
theorem stop_num {r : List UInt8} (h : stopS r) : ∀ c, r.head? = some c → isNumC c = false := fun c hc => by
  rcases h c hc with rfl | rfl | rfl | rfl <;> decide
theorem stop_low {r : List UInt8} (h : stopS r) : ∀ c, r.head? = some c → isLowC c = false := fun c hc => by
  rcases h c hc with rfl | rfl | rfl | rfl <;> decide
theorem dg_num (n : Nat) : isNumC (dg n) = true := by
  have h := dg_nat n
  have := Nat.mod_lt n (show 0 < 10 by decide)
  unfold isNumC
  rw [h, decide_eq_true (by omega), decide_eq_true (by omega), Bool.and_true, Bool.or_true]
theorem decN_num (v : Nat) : ∀ c ∈ decN v, isNumC c = true := by
  induction v using Nat.strongRecOn with
  | _ v ih =>
    intro c hc
    by_cases h : v = 0
    · subst h; rw [decN_0] at hc; cases hc
    · rw [decN_pos v h, List.mem_append] at hc
      rcases hc with hc | hc
      · exact ih (v / 10) (Nat.div_lt_self (by omega) (by decide)) c hc
      · rw [List.mem_singleton] at hc; rw [hc]; exact dg_num v
theorem textZ_num (z : Int) : textZ z ≠ [] ∧ ∀ c ∈ textZ z, isNumC c = true := by
  unfold textZ
  split
  · exact ⟨by simp, fun c hc => by rw [List.mem_singleton] at hc; rw [hc]; decide⟩
  · rename_i h0
    split
    · exact ⟨by simp, fun c hc => by
        rcases List.mem_cons.1 hc with rfl | hc
        · decide
        · exact decN_num _ c hc⟩
    · exact ⟨fun h => by rw [decN_nil] at h; omega, decN_num _⟩
theorem textZ_inj {z w : Int} (hz : z.natAbs < B ^ 12) (hw : w.natAbs < B ^ 12) (h : textZ z = textZ w) : z = w := by
  have h1 := parse_text z hz
  rw [h, parse_text w hw] at h1
  exact (congrArg Prod.fst h1).symm
theorem hexD_ne (n : Nat) (h : n < 16) : isHexC (hexD n) = true := by
  have : ∀ n : Fin 16, isHexC (hexD n.1) = true := by decide
  exact this ⟨n, h⟩
theorem hexD_inj {n m : Nat} (hn : n < 16) (hm : m < 16) (h : hexD n = hexD m) : n = m := by
  have : ∀ n m : Fin 16, hexD n.1 = hexD m.1 → n = m := by decide
  exact congrArg Fin.val (this ⟨n, hn⟩ ⟨m, hm⟩ h)
theorem hexS_hex : ∀ s : List UInt8, ∀ c ∈ hexS s, isHexC c = true
  | [], c, hc => by cases hc
  | x :: r, c, hc => by
    simp only [hexS, List.mem_cons] at hc
    have := x.toNat_lt
    rcases hc with rfl | rfl | hc
    · exact hexD_ne _ (by omega)
    · exact hexD_ne _ (by omega)
    · exact hexS_hex r c hc
theorem hexS_inj : ∀ s t : List UInt8, hexS s = hexS t → s = t
  | [], [], _ => rfl
  | [], _ :: _, h => by simp [hexS] at h
  | _ :: _, [], h => by simp [hexS] at h
  | x :: s, y :: t, h => by
    simp only [hexS, List.cons.injEq] at h
    have hx := x.toNat_lt
    have hy := y.toNat_lt
    have h1 := hexD_inj (by omega) (by omega) h.1
    have h2 := hexD_inj (by omega) (by omega) h.2.1
    rw [hexS_inj s t h.2.2, UInt8.toNat_inj.1 (show x.toNat = y.toNat by omega)]
theorem hex_span {a b r q : List UInt8} (h : hexS a ++ 62 :: r = hexS b ++ 62 :: q) : a = b ∧ r = q := by
  obtain ⟨h1, h2⟩ := span_eq isHexC (hexS a) (hexS b) (62 :: r) (62 :: q) (hexS_hex a) (hexS_hex b) (fun c hc => by cases hc; rfl) (fun c hc => by cases hc; rfl) h
  exact ⟨hexS_inj a b h1, (List.cons.inj h2).2⟩
def clsT (k : Int) (c : UInt8) : Prop := (k = 1 ∧ isNumC c = true) ∨ (k = 2 ∧ isLowC c = true) ∨ ((k = 3 ∨ k = 4) ∧ c = 91) ∨ (k = 5 ∧ c = 123) ∨ (k = 6 ∧ c = 60)
theorem lowS_low {s : List UInt8} (h : lowS s) : ∀ c ∈ s, isLowC c = true := fun c hc => by
  have := h.2 c hc
  unfold isLowC
  rw [decide_eq_true this.1, decide_eq_true this.2]; rfl
theorem text_head (t : T) (h : mdT t) : ∃ c r, textT t = c :: r ∧ clsT (kindT t) c := by
  obtain ⟨k, b, lg, l, s, n, kg, ks⟩ := t
  simp only [mdT] at h
  simp only [textT, kindT]
  rcases h.2.2.2 with ⟨rfl, _⟩ | ⟨rfl, hl, _⟩ | ⟨rfl, _⟩ | ⟨rfl, _⟩ | ⟨rfl, _⟩ | ⟨rfl, _⟩
  · rw [if_pos rfl]
    obtain ⟨h1, h2⟩ := textZ_num (numZ b l)
    cases ht : textZ (numZ b l) with
    | nil => exact absurd ht h1
    | cons c r => exact ⟨c, r, rfl, .inl ⟨rfl, h2 c (by rw [ht]; exact List.mem_cons_self ..)⟩⟩
  · rw [if_neg (by decide), if_pos rfl]
    cases hs : s with
    | nil => exact absurd hs hl.1
    | cons c r => exact ⟨c, r, rfl, .inr (.inl ⟨rfl, lowS_low hl c (by rw [hs]; exact List.mem_cons_self ..)⟩)⟩
  · exact ⟨91, [93], rfl, .inr (.inr (.inl ⟨.inl rfl, rfl⟩))⟩
  · exact ⟨91, textC ks, rfl, .inr (.inr (.inl ⟨.inr rfl, rfl⟩))⟩
  · exact ⟨123, _, rfl, .inr (.inr (.inr (.inl ⟨rfl, rfl⟩)))⟩
  · exact ⟨60, _, rfl, .inr (.inr (.inr (.inr ⟨rfl, rfl⟩)))⟩
theorem cls_eq {k k' : Int} {c : UInt8} (h : clsT k c) (h' : clsT k' c) : k = k' ∨ ((k = 3 ∨ k = 4) ∧ (k' = 3 ∨ k' = 4)) := by
  rcases h with ⟨rfl, h⟩ | ⟨rfl, h⟩ | ⟨h0, rfl⟩ | ⟨rfl, rfl⟩ | ⟨rfl, rfl⟩ <;> rcases h' with ⟨rfl, h'⟩ | ⟨rfl, h'⟩ | ⟨h0', h'⟩ | ⟨rfl, h'⟩ | ⟨rfl, h'⟩ <;> first
    | exact .inl rfl
    | exact .inr ⟨h0, h0'⟩
    | (exfalso; revert h'; decide)
    | (exfalso; subst h'; revert h; decide)
    | (exfalso
       simp only [isNumC, isLowC, Bool.or_eq_true, beq_iff_eq, Bool.and_eq_true, decide_eq_true_eq] at h h'
       rcases h with rfl | h
       · revert h'; decide
       · omega)
    | (exfalso
       simp only [isNumC, isLowC, Bool.or_eq_true, beq_iff_eq, Bool.and_eq_true, decide_eq_true_eq] at h h'
       rcases h' with rfl | h'
       · revert h; decide
       · omega)
theorem head_not93 (t : T) (h : mdT t) (r : List UInt8) : ∀ q, textT t ++ r ≠ 93 :: q := fun q hh => by
  obtain ⟨c, r', h1, h2⟩ := text_head t h
  rw [h1, List.cons_append, List.cons.injEq] at hh
  obtain ⟨rfl, _⟩ := hh
  rcases h2 with ⟨_, h2⟩ | ⟨_, h2⟩ | ⟨_, h2⟩ | ⟨_, h2⟩ | ⟨_, h2⟩ <;> revert h2 <;> decide
theorem stop_cons {c : UInt8} {r : List UInt8} (h : c = 124 ∨ c = 93 ∨ c = 44 ∨ c = 125) : stopS (c :: r) := fun d hd => by
  cases hd; exact h
theorem textM_stop : ∀ (ks : List T) (r : List UInt8), stopS (textM ks ++ 125 :: r)
  | [], r => stop_cons (.inr (.inr (.inr rfl)))
  | t :: q, r => by simp only [textM, List.cons_append]; exact stop_cons (.inr (.inr (.inl rfl)))
mutual
theorem text_inj : ∀ (u v : T), mdT u → mdT v → ∀ r q : List UInt8, stopS r → stopS q → textT u ++ r = textT v ++ q → sameT u v = true ∧ r = q
  | .mk k b lg l s n kg ks, v, hu, hv, r, q, hr, hq, h => by
    obtain ⟨c, r1, c1, c2⟩ := text_head _ hu
    obtain ⟨c', r1', c1', c2'⟩ := text_head _ hv
    have hcc : c = c' := by rw [c1, c1', List.cons_append, List.cons_append, List.cons.injEq] at h; exact h.1
    subst hcc
    have hk := cls_eq c2 c2'
    clear c1 c1' c2 c2'
    obtain ⟨k', b', lg', l', s', n', kg', ks'⟩ := v
    simp only [mdT] at hu hv
    simp only [kindT] at hk
    simp only [textT] at h
    obtain ⟨hn, hL, hK, hu⟩ := hu
    obtain ⟨hn', hL', hK', hv⟩ := hv
    rcases hu with ⟨rfl, hc, rfl, rfl⟩ | ⟨rfl, hl, _, rfl, rfl, rfl⟩ | ⟨rfl, rfl, rfl, rfl, rfl⟩ | ⟨rfl, rfl, rfl, rfl, hl2⟩ | ⟨rfl, rfl, rfl, rfl, hl40⟩ | ⟨rfl, rfl, rfl, hl4, rfl⟩
    · have hk' : (1 : Int) = k' := by rcases hk with hk | ⟨hk, _⟩ <;> omega
      subst hk'
      rcases hv with ⟨_, hc', rfl, rfl⟩ | ⟨h0, _⟩ | ⟨h0, _⟩ | ⟨h0, _⟩ | ⟨h0, _⟩ | ⟨h0, _⟩ <;> first | omega | skip
      rw [if_pos rfl, if_pos rfl] at h
      obtain ⟨h1, h2⟩ := span_eq isNumC _ _ r q (textZ_num _).2 (textZ_num _).2 (stop_num hr) (stop_num hq) h
      obtain ⟨rfl, rfl⟩ := numZ_inj hL hL' hc hc' (textZ_inj (numZ_lt _ _ hL) (numZ_lt _ _ hL') h1)
      refine ⟨?_, h2⟩
      simp only [sameT, kindT, sgnT, limT, ↓reduceIte, decide_true, Bool.and_self]
    · have hk' : (2 : Int) = k' := by rcases hk with hk | ⟨hk, _⟩ <;> omega
      subst hk'
      rcases hv with ⟨h0, _⟩ | ⟨_, hl', _, rfl, rfl, rfl⟩ | ⟨h0, _⟩ | ⟨h0, _⟩ | ⟨h0, _⟩ | ⟨h0, _⟩ <;> first | omega | skip
      rw [if_neg (by decide), if_pos rfl, if_neg (by decide), if_pos rfl] at h
      obtain ⟨rfl, h2⟩ := span_eq isLowC _ _ r q (lowS_low hl) (lowS_low hl') (stop_low hr) (stop_low hq) h
      exact ⟨by simp [sameT, kindT, strT], h2⟩
    · have hk' : k' = 3 ∨ k' = 4 := by rcases hk with hk | ⟨_, hk⟩ <;> omega
      rcases hv with ⟨h0, _⟩ | ⟨h0, _⟩ | ⟨rfl, rfl, rfl, rfl, rfl⟩ | ⟨rfl, rfl, rfl, rfl, hl2'⟩ | ⟨h0, _⟩ | ⟨h0, _⟩ <;> first | omega | skip
      · refine ⟨by simp [sameT, kindT], ?_⟩
        simpa using h
      · exfalso
        match ks', hl2' with
        | [x, y], _ =>
          simp only [mdK] at hK'
          simp only [show ¬ (3 : Int) = 1 by decide, show ¬ (3 : Int) = 2 by decide, show ¬ (4 : Int) = 1 by decide, show ¬ (4 : Int) = 2 by decide, show ¬ (4 : Int) = 3 by decide, if_false, if_true, textC, List.cons_append, List.append_assoc, List.cons.injEq, true_and, List.nil_append] at h
          exact head_not93 x hK'.1 _ _ h.symm
    · have hk' : k' = 3 ∨ k' = 4 := by rcases hk with hk | ⟨_, hk⟩ <;> omega
      rcases hv with ⟨h0, _⟩ | ⟨h0, _⟩ | ⟨rfl, rfl, rfl, rfl, rfl⟩ | ⟨rfl, rfl, rfl, rfl, hl2'⟩ | ⟨h0, _⟩ | ⟨h0, _⟩ <;> first | omega | skip
      · exfalso
        match ks, hl2 with
        | [x, y], _ =>
          simp only [mdK] at hK
          simp only [show ¬ (3 : Int) = 1 by decide, show ¬ (3 : Int) = 2 by decide, show ¬ (4 : Int) = 1 by decide, show ¬ (4 : Int) = 2 by decide, show ¬ (4 : Int) = 3 by decide, if_false, if_true, textC, List.cons_append, List.append_assoc, List.cons.injEq, true_and, List.nil_append] at h
          exact head_not93 x hK.1 _ _ h
      · match ks, hl2, ks', hl2' with
        | [x, y], _, [x', y'], _ =>
          simp only [mdK] at hK hK'
          simp only [show ¬ (4 : Int) = 1 by decide, show ¬ (4 : Int) = 2 by decide, show ¬ (4 : Int) = 3 by decide, if_false, if_true, textC, textD, List.cons_append, List.append_assoc, List.cons.injEq, true_and, List.nil_append] at h
          obtain ⟨h1, h2⟩ := text_inj x x' hK.1 hK'.1 _ _ (stop_cons (.inl rfl)) (stop_cons (.inl rfl)) h
          obtain ⟨h3, h4⟩ := text_inj y y' hK.2.1 hK'.2.1 _ _ (stop_cons (.inr (.inl rfl))) (stop_cons (.inr (.inl rfl))) (List.cons.inj h2).2
          exact ⟨by simp [sameT, kindT, kidsT, sameK, h1, h3], (List.cons.inj h4).2⟩
    · have hk' : (5 : Int) = k' := by rcases hk with hk | ⟨hk, _⟩ <;> omega
      subst hk'
      rcases hv with ⟨h0, _⟩ | ⟨h0, _⟩ | ⟨h0, _⟩ | ⟨h0, _⟩ | ⟨_, rfl, rfl, rfl, hl40'⟩ | ⟨h0, _⟩ <;> first | omega | skip
      simp only [show ¬ (5 : Int) = 1 by decide, show ¬ (5 : Int) = 2 by decide, show ¬ (5 : Int) = 3 by decide, show ¬ (5 : Int) = 4 by decide, if_false, if_true, List.cons_append, List.append_assoc, List.cons.injEq, true_and, List.nil_append] at h
      obtain ⟨h1, h2⟩ := textL_inj ks ks' hK hK' r q h
      exact ⟨by simp [sameT, kindT, kidsT, h1], h2⟩
    · have hk' : (6 : Int) = k' := by rcases hk with hk | ⟨hk, _⟩ <;> omega
      subst hk'
      rcases hv with ⟨h0, _⟩ | ⟨h0, _⟩ | ⟨h0, _⟩ | ⟨h0, _⟩ | ⟨h0, _⟩ | ⟨_, rfl, rfl, hl4', rfl⟩ <;> first | omega | skip
      simp only [show ¬ (6 : Int) = 1 by decide, show ¬ (6 : Int) = 2 by decide, show ¬ (6 : Int) = 3 by decide, show ¬ (6 : Int) = 4 by decide, show ¬ (6 : Int) = 5 by decide, if_false, if_true, List.cons_append, List.append_assoc, List.cons.injEq, true_and, List.nil_append] at h
      obtain ⟨rfl, h2⟩ := hex_span h
      exact ⟨by simp [sameT, kindT, strT], (List.cons.inj h2).2⟩
theorem textL_inj : ∀ (ks ks' : List T), mdK ks → mdK ks' → ∀ r q : List UInt8, textL ks ++ 125 :: r = textL ks' ++ 125 :: q → sameK ks ks' = true ∧ r = q
  | [], [], _, _, r, q, h => ⟨by simp only [sameK], by simpa [textL] using h⟩
  | [], t :: ks', _, h', r, q, h => by
    simp only [mdK] at h'
    obtain ⟨c, r1, c1, c2⟩ := text_head t h'.1
    simp only [textL, List.nil_append, List.append_assoc, c1, List.cons_append, List.cons.injEq] at h
    rw [← h.1] at c2
    rcases c2 with ⟨_, h2⟩ | ⟨_, h2⟩ | ⟨_, h2⟩ | ⟨_, h2⟩ | ⟨_, h2⟩ <;> exact absurd h2 (by decide)
  | t :: ks, [], h', _, r, q, h => by
    simp only [mdK] at h'
    obtain ⟨c, r1, c1, c2⟩ := text_head t h'.1
    simp only [textL, List.nil_append, List.append_assoc, c1, List.cons_append, List.cons.injEq] at h
    rw [h.1] at c2
    rcases c2 with ⟨_, h2⟩ | ⟨_, h2⟩ | ⟨_, h2⟩ | ⟨_, h2⟩ | ⟨_, h2⟩ <;> exact absurd h2 (by decide)
  | t :: ks, t' :: ks', h1, h1', r, q, h => by
    simp only [mdK] at h1 h1'
    simp only [textL, List.append_assoc] at h
    obtain ⟨h2, h3⟩ := text_inj t t' h1.1 h1'.1 _ _ (textM_stop ks r) (textM_stop ks' q) h
    obtain ⟨h4, h5⟩ := textM_inj ks ks' h1.2 h1'.2 r q h3
    exact ⟨by simp only [sameK, h2, h4, Bool.and_self], h5⟩
theorem textM_inj : ∀ (ks ks' : List T), mdK ks → mdK ks' → ∀ r q : List UInt8, textM ks ++ 125 :: r = textM ks' ++ 125 :: q → sameK ks ks' = true ∧ r = q
  | [], [], _, _, r, q, h => ⟨by simp only [sameK], by simpa [textM] using h⟩
  | [], t :: ks', _, h', r, q, h => by
    simp only [textM, List.nil_append, List.cons_append, List.cons.injEq] at h
    exact absurd h.1 (by decide)
  | t :: ks, [], h', _, r, q, h => by
    simp only [textM, List.nil_append, List.cons_append, List.cons.injEq] at h
    exact absurd h.1 (by decide)
  | t :: ks, t' :: ks', h1, h1', r, q, h => by
    simp only [mdK] at h1 h1'
    simp only [textM, List.append_assoc, List.cons_append, List.cons.injEq, true_and] at h
    obtain ⟨h2, h3⟩ := text_inj t t' h1.1 h1'.1 _ _ (textM_stop ks r) (textM_stop ks' q) h
    obtain ⟨h4, h5⟩ := textM_inj ks ks' h1.2 h1'.2 r q h3
    exact ⟨by simp only [sameK, h2, h4, Bool.and_self], h5⟩
end
mutual
theorem text_same : ∀ (u v : T), mdT u → mdT v → sameT u v = true → textT u = textT v
  | .mk k b lg l s n kg ks, .mk k' b' lg' l' s' n' kg' ks', hu, hv, h => by
    simp only [mdT] at hu hv
    rw [sameT] at h
    by_cases hk : k = kindT (.mk k' b' lg' l' s' n' kg' ks')
    · rw [if_pos hk] at h
      simp only [sgnT, limT, strT, kidsT, nT] at h
      simp only [kindT] at hk
      subst hk
      simp only [textT]
      rcases hu.2.2.2 with ⟨rfl, _⟩ | ⟨rfl, _⟩ | ⟨rfl, _⟩ | ⟨rfl, _⟩ | ⟨rfl, _⟩ | ⟨rfl, _⟩
      · simp only [if_true, Bool.and_eq_true] at h
        rw [of_decide_eq_true h.1, of_decide_eq_true h.2]; rfl
      · simp at h
        rw [of_decide_eq_true h]; rfl
      · rfl
      · simp at h
        simp only [show ¬ (4 : Int) = 1 by decide, show ¬ (4 : Int) = 2 by decide, show ¬ (4 : Int) = 3 by decide, if_false, if_true]
        rw [textC_same ks ks' hu.2.2.1 hv.2.2.1 h]
      · simp at h
        simp only [show ¬ (5 : Int) = 1 by decide, show ¬ (5 : Int) = 2 by decide, show ¬ (5 : Int) = 3 by decide, show ¬ (5 : Int) = 4 by decide, if_false, if_true]
        rw [textL_same ks ks' hu.2.2.1 hv.2.2.1 h]
      · simp at h
        rw [of_decide_eq_true h]; rfl
    · rw [if_neg hk] at h; cases h
theorem textC_same : ∀ (ks ks' : List T), mdK ks → mdK ks' → sameK ks ks' = true → textC ks = textC ks'
  | [], [], _, _, _ => rfl
  | [], _ :: _, _, _, h => by simp only [sameK] at h; cases h
  | _ :: _, [], _, _, h => by simp only [sameK] at h; cases h
  | t :: r, t' :: r', h1, h1', h => by
    simp only [mdK] at h1 h1'
    simp only [sameK, Bool.and_eq_true] at h
    simp only [textC]
    rw [text_same t t' h1.1 h1'.1 h.1, textD_same r r' h1.2 h1'.2 h.2]
theorem textD_same : ∀ (ks ks' : List T), mdK ks → mdK ks' → sameK ks ks' = true → textD ks = textD ks'
  | [], [], _, _, _ => rfl
  | [], _ :: _, _, _, h => by simp only [sameK] at h; cases h
  | _ :: _, [], _, _, h => by simp only [sameK] at h; cases h
  | t :: r, t' :: r', h1, h1', h => by
    simp only [mdK] at h1 h1'
    simp only [sameK, Bool.and_eq_true] at h
    simp only [textD]
    rw [text_same t t' h1.1 h1'.1 h.1]
theorem textL_same : ∀ (ks ks' : List T), mdK ks → mdK ks' → sameK ks ks' = true → textL ks = textL ks'
  | [], [], _, _, _ => rfl
  | [], _ :: _, _, _, h => by simp only [sameK] at h; cases h
  | _ :: _, [], _, _, h => by simp only [sameK] at h; cases h
  | t :: r, t' :: r', h1, h1', h => by
    simp only [mdK] at h1 h1'
    simp only [sameK, Bool.and_eq_true] at h
    simp only [textL]
    rw [text_same t t' h1.1 h1'.1 h.1, textM_same r r' h1.2 h1'.2 h.2]
theorem textM_same : ∀ (ks ks' : List T), mdK ks → mdK ks' → sameK ks ks' = true → textM ks = textM ks'
  | [], [], _, _, _ => rfl
  | [], _ :: _, _, _, h => by simp only [sameK] at h; cases h
  | _ :: _, [], _, _, h => by simp only [sameK] at h; cases h
  | t :: r, t' :: r', h1, h1', h => by
    simp only [mdK] at h1 h1'
    simp only [sameK, Bool.and_eq_true] at h
    simp only [textM]
    rw [text_same t t' h1.1 h1'.1 h.1, textM_same r r' h1.2 h1'.2 h.2]
end
theorem text_iff (u v : T) (hu : mdT u) (hv : mdT v) : (textT u == textT v) = sameT u v := by
  cases h : sameT u v with
  | true => rw [text_same u v hu hv h]; simp
  | false =>
    cases h2 : textT u == textT v with
    | false => rfl
    | true =>
      have h3 := (text_inj u v hu hv [] [] (fun _ hc => by cases hc) (fun _ hc => by cases hc) (by rw [List.append_nil, List.append_nil]; exact eq_of_beq h2)).1
      rw [h] at h3; cases h3
end Go.Ab

/- term.Text of a binary, by the library's contracts for strings.Builder: its bytes, two signs each. Conditions: so many bytes at most. -/
namespace Go.Proofs.AbSh
open Go.Shelf
theorem lays167 : Lays.n167 Tryd.prog ren := { lays with
  f167 := Tryd.func29.trans (congrArg some (by kernel_rfl))
  t5 := Tryd.underlying5
  a5 := Tryd.isAgg5
  z5 := Tryd.sizeOf5
  v5 := Tryd.zeroValue5 }
theorem lays169 : Lays.n169 Tryd.prog ren := { lays with }
end Go.Proofs.AbSh
namespace Go.Ab
open Go.Proofs
open Go.RowKit Go.Shelf
theorem hexS_app : ∀ a b : List UInt8, hexS (a ++ b) = hexS a ++ hexS b
  | [], _ => rfl
  | c :: r, b => by simp only [List.cons_append, hexS, hexS_app r b]
theorem hexS_len : ∀ a : List UInt8, (hexS a).length = 2 * a.length
  | [] => rfl
  | c :: r => by simp only [hexS, List.length_cons, hexS_len r]; omega
theorem hexAt (n : Nat) (h : n < (ByteArray.mk #[48, 49, 50, 51, 52, 53, 54, 55, 56, 57, 97, 98, 99, 100, 101, 102]).size) : (ByteArray.mk #[48, 49, 50, 51, 52, 53, 54, 55, 56, 57, 97, 98, 99, 100, 101, 102])[n]'h = hexD n := by
  have : ∀ n : Fin 16, (ByteArray.mk #[48, 49, 50, 51, 52, 53, 54, 55, 56, 57, 97, 98, 99, 100, 101, 102])[n.1]'n.2 = hexD n.1 := by decide
  exact this ⟨n, h⟩
theorem takeStep (s : ByteArray) (k : Nat) (h : k < s.size) : s.data.toList.take (k + 1) = s.data.toList.take k ++ [s[k]] := by
  have h2 : k < s.data.toList.length := by simpa using h
  rw [List.take_succ_eq_append_getElem h2]
  rfl
set_option maxHeartbeats 4000000 in
set_option maxRecDepth 1000000 in
theorem textBin (k1 k2 k4 k5 : Value) (s : ByteArray) (w : World) (hs : s.size ≤ 1000) :
    Calls Tryd.prog 14 #[.agg #[.int .i64 6, k1, k2, .string s, k4, k5]] w fun e w' => e = .returned (.string ⟨(60 :: 60 :: (hexS s.data.toList ++ [62, 62])).toArray⟩) ∧ Below w.heap.size w w' := by
  go_enter Tryd.func14, Tryd.ntmps14
  go_wp2
  go_loopw [57] (fun i wr => ∃ k : Nat, k ≤ s.size ∧ i = .int .i64 k ∧ Lib.IsBuilder 60 5 (w.heap.size + 1) (w.heap.size + 1) (Lib.byteCells (hexS (s.data.toList.take k))) wr ∧ wr.heap[w.heap.size]? = some (.cells #[.int .i64 6, k1, k2, .string s, k4, k5] 28 (0, 0)) ∧ Below w.heap.size w wr ∧ w.heap.size + 1 < wr.heap.size) (fun i _ => s.size - (intOf i).toNat)
  case atStart =>
    refine ⟨0, Nat.zero_le _, rfl, ?_, ?_, ?_, ?_⟩
    · have := Lib.fresh_isBuilder 60 5 (w.alloc (.cells #[.int .i64 6, k1, k2, .string s, k4, k5] 28))
      rw [show (w.alloc (.cells #[.int .i64 6, k1, k2, .string s, k4, k5] 28)).heap.size = w.heap.size + 1 by simp] at this
      exact this
    · rw [Lib.alloc_old _ _ _ (by simp)]
      exact heap_alloc_new w _
    · exact ((Below.refl _ w).alloc (Nat.le_refl _) _).alloc (by simp) _
    · simp
  case round =>
    obtain ⟨k, hk, rfl, hB, hbx, hbw, hsz⟩ := hrel
    have c3 : wr.cell? ⟨w.heap.size, 3, none⟩ = some (.string s) := by rw [Lib.cell_of_heap hbx]; rfl
    by_cases hlt : k < s.size
    · have hq : 0 ≤ ((s[k]).toNat : Int) / 16 ∧ ((s[k]).toNat : Int) / 16 < 16 := by have := (s[k]).toNat_lt; omega
      have hlen : (Lib.byteCells (hexS (s.data.toList.take k))).length ≤ 3000 := by rw [Lib.byteCells_length, hexS_len, List.length_take]; simp; omega
      go_wp2_with (go_at_call 29; refine (Any.Builder_WriteByte AbSh.lays167 AbSh.ext _ _ _ _ _ hB (by omega) (by omega)).mono ?_)
      rintro e W1 ⟨rfl, h1, b1⟩
      rw [hexAt] at h1
      have hB1 : Lib.IsBuilder 60 5 (w.heap.size + 1) (w.heap.size + 1) (Lib.byteCells (hexS (s.data.toList.take k) ++ [hexD (s[k].toNat / 16)])) W1 := Or.inr (by rw [Lib.byteCells_append]; exact h1)
      have hbx1 : W1.heap[w.heap.size]? = some (.cells #[.int .i64 6, k1, k2, .string s, k4, k5] 28 (0, 0)) := by rw [b1.block _ (Nat.lt_succ_self _)]; exact hbx
      have c31 : W1.cell? ⟨w.heap.size, 3, none⟩ = some (.string s) := by rw [Lib.cell_of_heap hbx1]; rfl
      have hs1 := b1.size
      go_wp2_with (go_at_call 29; refine (Any.Builder_WriteByte AbSh.lays167 AbSh.ext _ _ _ _ _ hB1 (by rw [Lib.byteCells_length] at hlen ⊢; rw [List.length_append]; simp only [List.length_cons, List.length_nil]; omega) (by omega)).mono ?_)
      rintro e W2 ⟨rfl, h2, b2⟩
      rw [hexAt] at h2
      have hB2 : Lib.IsBuilder 60 5 (w.heap.size + 1) (w.heap.size + 1) (Lib.byteCells (hexS (s.data.toList.take (k + 1)))) W2 := Or.inr (by
        rw [takeStep s k hlt, hexS_app]
        show Lib.BuilderAt _ _ _ _ _ (Lib.byteCells (hexS (s.data.toList.take k) ++ ([hexD (s[k].toNat / 16)] ++ [hexD (s[k].toNat % 16)]))) _
        rw [← List.append_assoc, Lib.byteCells_append]; exact h2)
      have hbx2 : W2.heap[w.heap.size]? = some (.cells #[.int .i64 6, k1, k2, .string s, k4, k5] 28 (0, 0)) := by rw [b2.block _ (Nat.lt_succ_self _)]; exact hbx1
      have hs2 := b2.size
      have hbw2 : Below w.heap.size w W2 := (hbw.trans (b1.mono (Nat.le_succ _))).trans (b2.mono (Nat.le_succ _))
      go_wp2
      go_roundw
      case rel => exact ⟨k + 1, hlt, rfl, hB2, hbx2, hbw2, by omega⟩
      case measure =>
        simp only [intOf]
        omega
    · have hke : k = s.size := by omega
      subst hke
      have htk : s.data.toList.take s.size = s.data.toList := by
        apply List.take_of_length_le
        simp
      rw [htk] at hB
      go_wp2_with (go_at_call 30; refine (Any.Builder_String_any AbSh.lays169 AbSh.ext _ _ _ _ hB (by omega)).mono ?_)
      rintro e W1 ⟨rfl, b1⟩
      have hl := hexS_len s.data.toList
      have hl2 : s.data.toList.length = s.size := by simp
      have hz1 : ¬ 9223372036854775807 < 2 + (hexS s.data.toList).length := by omega
      have hz2 : ¬ 9223372036854775807 < 2 + (hexS s.data.toList).length + 2 := by omega
      go_wp2
      go_ret
      refine ⟨congrArg (fun b => Ending.returned (Value.string b)) (?_ : (ByteArray.mk #[60, 60] ++ ByteArray.mk (hexS s.data.toList).toArray ++ ByteArray.mk #[62, 62] : ByteArray) = _), hbw.trans (b1.mono (Nat.le_succ _))⟩
      apply ByteArray.ext
      rw [ByteArray.data_append, ByteArray.data_append]
      apply Array.toList_inj.1
      simp

def textP : List Arg → Option Out
  | [.tree (.agg [.int .i64 k, _, _, .str s, _, _])] => if k = 6 ∧ s.length ≤ 1000 then some (.tree (.str (60 :: 60 :: (hexS s ++ [62, 62]))), [[]]) else none
  | _ => none
theorem text_ok {as1 : List Arg} {r : Res} {os : List (List AV)} (h : textP as1 = some (r, os)) : (∃ fn c, Tryd.prog.funcs[14]? = some fn ∧ fn.name ≠ "runtime.NumGoroutine" ∧ fn.body = some c) ∧ ∀ (Γ : G) (vs : List Value), Inv Γ → ArgOk Γ as1 vs →
    Calls Tryd.prog 14 vs.toArray Γ.w fun e w' => ∃ v Γ', e = .returned v ∧ Γ'.w = w' ∧ Inv Γ' ∧ Ext Γ Γ' ∧ FinOk Γ' as1 r os v := by
  refine ⟨⟨_, _, Tryd.func14, by unfold Tryd.f14; decide, by unfold Tryd.f14; rfl⟩, ?_⟩
  unfold textP at h
  split at h
  · rename_i k x1 x2 s x4 x5
    split at h
    · rename_i hc
      obtain ⟨rfl, hs⟩ := hc
      cases h
      refine prim_plain (fun j a ha => by match j, ha with | 0, ha => cases ha; rfl) fun Γ vs hI hA => ?_
      have hl := hA.len
      obtain ⟨v0, rfl⟩ : ∃ v0, vs = [v0] := by
        match vs, hl with
        | [v0], _ => exact ⟨v0, rfl⟩
      have k0 := hA.val 0 v0 rfl
      have k0 : V Γ (.agg [.int .i64 6, x1, x2, .str s, x4, x5]) v0 := k0
      have k0 : V0 Γ.S Γ.w (.agg [.int .i64 6, x1, x2, .str s, x4, x5]) v0 := k0
      simp only [V0, VL] at k0
      obtain ⟨us, rfl, u0, r0, rfl, _, rfl, u1, r1, rfl, _, _, u2, r2, rfl, _, _, u3, r3, rfl, _, rfl, u4, r4, rfl, _, _, u5, r5, rfl, _, _, rfl⟩ := k0
      refine (textBin u1 u2 u4 u5 ⟨s.toArray⟩ Γ.w (by show s.toArray.size ≤ 1000; simpa using hs)).mono fun e w' ⟨he, hb⟩ => ⟨_, he, ?_, hb⟩
      simp only [V0]
    · cases h
  · cases h
end Go.Ab

/- The reference's Int, Neg, Bits; copies of numbers. Conditions: limbs in range. -/
namespace Go.Ab
open Go.Proofs
set_option maxRecDepth 100000
set_option linter.unusedSimpArgs false

set_option maxHeartbeats 4000000 in
theorem rint_eq (n d : Nat) (hn : 100000 ≤ n) {w : AV} {z : Int} (hw : IsN w z) : evalFn Tryd.prog cfg0 n (d+3) 105 [.tree w] = some (.tree (intZ z), [[]]) := by
  obtain ⟨g, c1⟩ := cRis n d hw
  have hlt := hw.lt
  obtain ⟨neg0, g0, l0, rfl, _, _⟩ := hw
  rw [evalFn_go _ Tryd.func105 (by unfold Tryd.f105; rfl) (by unfold Tryd.f105; decide) (Nat.le_of_ble_eq_true (by unfold Tryd.f105; rfl)) (by kernel_rfl)]
  have hl := limbs_digs z.natAbs
  have hv := val_digs z.natAbs
  have hdl : ∀ k, (digs z.natAbs).length ≤ k ↔ z.natAbs < B ^ k := digs_len_le z.natAbs
  obtain ⟨l, hle⟩ : ∃ l, digs z.natAbs = l := ⟨_, rfl⟩
  rw [hle] at hl hv hdl
  by_cases h2 : (l.length : Int) > 2
  · have hb : ¬ z.natAbs < B ^ 2 := fun h => by have := (hdl 2).mpr h; omega
    have e : B ^ 2 = 18446744073709551616 := by decide
    rw [e] at hb
    have hi : isI64 z = false := by
      unfold isI64
      by_cases hz : z < 0
      · rw [decide_eq_false (show ¬ -9223372036854775808 ≤ z by omega)]; rfl
      · rw [decide_eq_false (show ¬ z < 9223372036854775808 by omega), Bool.and_false]
    rw [intZ, if_neg (by rw [hi]; decide)]
    simp only [simB, zbo, Nat.reduceBEq, own0, ↓reduceIte, Nat.reduceEqDiff, Nat.reduceAdd, simA, simL, simN, Nat.zero_add, st0_1, c1, hle, h2]
    exact finish_ib _ _ _ _ _ _ _ _ _ (by simp only [zfk, ↓reduceIte, Nat.reduceEqDiff]) (by simp only [zfk, ↓reduceIte, Nat.reduceEqDiff]) rfl
  have hx64 : z.natAbs < 18446744073709551616 := by rw [← hv]; exact len2_val l hl (by omega)
  have b0 := i_sub Tryd.prog 3 (l.length : Int) 1 (by omega) (by omega)
  simp only [simB, zbo, Nat.reduceBEq, own0, ↓reduceIte, Nat.reduceEqDiff, Nat.reduceAdd, simA, simL, simN, Nat.zero_add, st0_1, c1, hle, h2, b0, den_loop]
  refine loop_ends (X := Nat) (fun j env s => env 4 = .ptr 4 1 0 ∧ s 4 = ⟨1, .buf [.bool (decide (z < 0)), encL g l]⟩ ∧ env 6 = .int .i64 ((j : Int) - 1) ∧ env 5 = .int .u64 (val (l.drop j) : Int) ∧ j ≤ l.length ∧ outsA s 0 [.tree (encA neg0 g0 l0)] = some [[]]) (fun j => j) (fun _ => (.tree (intZ z), [[]])) ?_ n l.length _ _ (by omega) ⟨by simp only [zfk, ↓reduceIte, Nat.reduceEqDiff], by simp only [zfk, ↓reduceIte, Nat.reduceEqDiff], by simp only [zfk, ↓reduceIte, Nat.reduceEqDiff], by rw [List.drop_length]; simp only [zfk, ↓reduceIte, Nat.reduceEqDiff]; rfl, Nat.le_refl _, rfl⟩
  intro k j hx ih env s ⟨e4, hs, e6, e5, hj, ho⟩
  by_cases hp : j = 0
  · subst hp
    have q1 : ¬ ((0 : Nat) : Int) - 1 ≥ 0 := by omega
    rw [List.drop_zero, hv] at e5
    by_cases hz : z < 0
    · by_cases hr : z.natAbs ≤ 9223372036854775808
      · have hr' : (z.natAbs : Int) ≤ 9223372036854775808 := by omega
        have u := un_neg64 z.natAbs (by omega)
        rw [Nat.mod_eq_of_lt (by omega)] at u
        have c2 := fun s => conv55_3 s (18446744073709551616 - z.natAbs) (by omega)
        simp only [if_neg (show ¬ 18446744073709551616 - z.natAbs < 9223372036854775808 by omega), show ((18446744073709551616 - z.natAbs : Nat) : Int) - 18446744073709551616 = z by omega] at c2
        have hi : isI64 z = true := by
          unfold isI64
          rw [decide_eq_true (show -9223372036854775808 ≤ z by omega), decide_eq_true (show z < 9223372036854775808 by omega)]; rfl
        rw [intZ, if_pos hi]
        simp only [simB, zbo, Nat.reduceBEq, own0, ↓reduceIte, Nat.reduceEqDiff, Nat.reduceAdd, simL, simN, Nat.zero_add, e4, hs, e6, e5, q1, hz, hr', u, c2]
        exact finish_ib _ _ _ _ _ _ _ _ _ (by simp only [zfk, ↓reduceIte, Nat.reduceEqDiff]) (by simp only [zfk, ↓reduceIte, Nat.reduceEqDiff]) ho
      · have hr' : ¬ (z.natAbs : Int) ≤ 9223372036854775808 := by omega
        have hi : isI64 z = false := by
          unfold isI64
          rw [decide_eq_false (show ¬ -9223372036854775808 ≤ z by omega)]; rfl
        rw [intZ, if_neg (by rw [hi]; decide)]
        simp only [simB, zbo, Nat.reduceBEq, own0, ↓reduceIte, Nat.reduceEqDiff, Nat.reduceAdd, simL, simN, Nat.zero_add, e4, hs, e6, e5, q1, hz, hr', unA_not', Bool.not_true, Bool.not_false]
        exact finish_ib _ _ _ _ _ _ _ _ _ (by simp only [zfk, ↓reduceIte, Nat.reduceEqDiff]) (by simp only [zfk, ↓reduceIte, Nat.reduceEqDiff]) ho
    · by_cases hr : z.natAbs < 9223372036854775808
      · have hr' : (z.natAbs : Int) < 9223372036854775808 := by omega
        have c2 := fun s => conv55_3 s z.natAbs (by omega)
        simp only [if_pos hr, show ((z.natAbs : Nat) : Int) = z by omega] at c2
        have hi : isI64 z = true := by
          unfold isI64
          rw [decide_eq_true (show -9223372036854775808 ≤ z by omega), decide_eq_true (show z < 9223372036854775808 by omega)]; rfl
        rw [intZ, if_pos hi]
        rw [show ((z.natAbs : Nat) : Int) = z by omega] at e5 hr'
        simp only [simB, zbo, Nat.reduceBEq, own0, ↓reduceIte, Nat.reduceEqDiff, Nat.reduceAdd, simL, simN, Nat.zero_add, e4, hs, e6, e5, q1, hz, hr', c2, unA_not', Bool.not_true, Bool.not_false]
        exact finish_ib _ _ _ _ _ _ _ _ _ (by simp only [zfk, ↓reduceIte, Nat.reduceEqDiff]) (by simp only [zfk, ↓reduceIte, Nat.reduceEqDiff]) ho
      · have hr' : ¬ (z.natAbs : Int) < 9223372036854775808 := by omega
        have hi : isI64 z = false := by
          unfold isI64
          rw [decide_eq_false (show ¬ z < 9223372036854775808 by omega), Bool.and_false]
        rw [intZ, if_neg (by rw [hi]; decide)]
        simp only [simB, zbo, Nat.reduceBEq, own0, ↓reduceIte, Nat.reduceEqDiff, Nat.reduceAdd, simL, simN, Nat.zero_add, e4, hs, e6, e5, q1, hz, hr', unA_not', Bool.not_true, Bool.not_false]
        exact finish_ib _ _ _ _ _ _ _ _ _ (by simp only [zfk, ↓reduceIte, Nat.reduceEqDiff]) (by simp only [zfk, ↓reduceIte, Nat.reduceEqDiff]) ho
  · obtain ⟨i, rfl⟩ : ∃ i, j = i + 1 := ⟨j - 1, by omega⟩
    have ei : ((i + 1 : Nat) : Int) - 1 = (i : Int) := by omega
    rw [ei] at e6
    have q1 : (i : Int) ≥ 0 := by omega
    have q2 : (0 : Int) ≤ (i : Int) := by omega
    have q3 : i < l.length := by omega
    have q4 : (i : Int) < (l.length : Int) := by omega
    have hxi := getD_lt l hl i
    have hd : l.drop i = l.getD i 0 :: l.drop (i + 1) := by
      rw [List.drop_eq_getElem_cons q3, List.getD_eq_getElem?_getD, List.getElem?_eq_getElem q3]; rfl
    have hvd : val (l.drop i) = l.getD i 0 + B * val (l.drop (i + 1)) := by rw [hd]; rfl
    have hB : B = 4294967296 := rfl
    have h64 : val (l.drop i) < 18446744073709551616 := len2_val _ (fun x hx => hl x (List.mem_of_mem_drop hx)) (by rw [List.length_drop]; omega)
    have m2 := u_shl Tryd.prog 111 (val (l.drop (i + 1))) .u64 32 (by decide) (by decide)
    rw [show (2 : Nat) ^ (32 : Int).toNat = 4294967296 from rfl, Nat.mod_eq_of_lt (by rw [hvd, hB] at h64; omega)] at m2
    have m3 := u_add Tryd.prog 111 (val (l.drop (i + 1)) * 4294967296) (l.getD i 0)
    rw [show val (l.drop (i + 1)) * 4294967296 + l.getD i 0 = val (l.drop i) by rw [hvd, hB]; omega, Nat.mod_eq_of_lt h64] at m3
    have f4 := i_sub Tryd.prog 3 (i : Int) 1 (by omega) (by omega)
    simp only [simB, zbo, Nat.reduceBEq, own0, ↓reduceIte, Nat.reduceEqDiff, Nat.reduceAdd, simL, simN, Nat.zero_add, e4, hs, e6, e5, q1, q2, q3, q4, Int.toNat_natCast, hxi, m2, m3, f4]
    refine ih i _ _ (by omega) rfl ⟨?_, hs, ?_, ?_, by omega, ho⟩
    · simp only [zfk, ↓reduceIte, Nat.reduceEqDiff, e4]
    · simp only [zfk, ↓reduceIte, Nat.reduceEqDiff]
    · simp only [zfk, ↓reduceIte, Nat.reduceEqDiff]
theorem cRint (n d : Nat) (hn : 100000 ≤ n) {w : AV} {z : Int} (hw : IsN w z) (D : Nat) (s : St) : callA cfg0 (evalFn Tryd.prog cfg0 n (d+3)) D s 105 [w] = some (intZ z, s) :=
  callA_trees (by simp [hw.tree]) (rint_eq n d hn hw)
end Go.Ab

/- The reference's Div. Conditions: limbs in range, not too many. -/
namespace Go.Ab
open Go.Proofs
set_option maxRecDepth 100000
set_option linter.unusedSimpArgs false

end Go.Ab

/- The reference's sums, products, quotients of numbers. Conditions: limbs in range. -/
namespace Go.Ab
open Go.Proofs
set_option maxRecDepth 100000
set_option linter.unusedSimpArgs false

theorem madeF_eq (z : Int) : madeF z = .tup [encA (decide ((mkZ z).1 < 0)) (gm z) (digs (mkZ z).1.natAbs), .bool (mkZ z).2] := rfl
section
variable (n d : Nat) (hn : 100000 ≤ n)
include hn
end
theorem encS_num (x y : Nat) (h : y ≤ x) : encS x y = encF (x - y) := if_neg (by omega)
section
variable (n d : Nat) (hn : 100000 ≤ n) {w w' : AV} {z z' : Int} (hw : IsN w z) (hw' : IsN w' z')
include hn hw hw'
set_option maxHeartbeats 8000000
end
end Go.Ab

/- The reference's bits: and, or, exclusive or, bit by bit. Conditions: limbs in range. -/
namespace Go.Ab
open Go.Proofs
set_option maxRecDepth 100000
set_option linter.unusedSimpArgs false

def lessG (g : Gk) (z : Int) : Gk := if z < 0 then .l else g
set_option maxHeartbeats 4000000 in
theorem rless_eq (n d : Nat) (hn : 100000 ≤ n) (g : Gk) (z : Int) (hlt : z.natAbs < B ^ 12) : evalFn Tryd.prog cfg0 n (d+4) 102 [.tree (canA g z)] = some (.tree (encL (lessG g z) (digs (lessN z))), [[]]) := by
  rw [evalFn_go _ Tryd.func102 (by unfold Tryd.f102; rfl) (by unfold Tryd.f102; decide) (Nat.le_of_ble_eq_true (by unfold Tryd.f102; rfl)) (by kernel_rfl)]
  by_cases hz : z < 0
  · have one1 : Num (.sl [.int .u32 1] 1 .tight) 1 := ⟨[1], ⟨_, rfl⟩, limbs_one (by decide), by decide, rfl⟩
    have c1 := fun D s => rcSub n d hn D s (num_can g z hlt) one1
    rw [encS_num _ _ (by omega)] at c1
    rw [lessG, if_pos hz, lessN, if_pos hz]
    simp only [simB, zbo, Nat.reduceBEq, own0, ↓reduceIte, Nat.reduceEqDiff, Nat.reduceAdd, simA, simL, simN, Nat.zero_add, st0_1, hz, opA_one, one22_int, c1]
    exact finish_F _ _ _ _ _ _ _ (by simp only [zfk, ↓reduceIte]) rfl
  · rw [lessG, if_neg hz, lessN, if_neg hz]
    simp only [simB, zbo, Nat.reduceBEq, own0, ↓reduceIte, Nat.reduceEqDiff, Nat.reduceAdd, simA, simL, simN, Nat.zero_add, st0_1, hz]
    exact finish_L _ _ _ _ _ _ _ _ (by simp only [zfk, ↓reduceIte]) rfl
end Go.Ab

/- The reference's bits: the walk. Conditions: limbs in range. -/
namespace Go.Ab
open Go.Proofs
set_option maxRecDepth 100000
set_option linter.unusedSimpArgs false

theorem less_le (z : Int) : lessN z ≤ z.natAbs := by unfold lessN; split <;> omega
end Go.Ab

/- The reference's shifts, and how far. Conditions: limbs in range. -/
namespace Go.Ab
open Go.Proofs
set_option maxRecDepth 100000
set_option linter.unusedSimpArgs false

theorem min_Z (a b : Int) : foldA min2A (.int .i64 a) [.int .i64 b] = some (.int .i64 (if b < a then b else a)) := by
  simp only [foldA, min2A, Option.bind_some]
theorem max_Z (a b : Int) : foldA max2A (.int .i64 a) [.int .i64 b] = some (.int .i64 (if a < b then b else a)) := by
  simp only [foldA, max2A, Option.bind_some]
def clZ (z : Int) : Int := if z < -10001 then -10001 else if 10001 < z then 10001 else z
theorem clZ_eq (z : Int) : (if (10001 : Int) < (if z < -10001 then -10001 else z) then 10001 else (if z < -10001 then -10001 else z)) = clZ z := by
  unfold clZ
  (repeat' split) <;> omega
set_option maxHeartbeats 4000000 in
theorem far_eq (n d : Nat) (hn : 100000 ≤ n) (g : Gk) (z : Int) (hlt : z.natAbs < B ^ 12) : evalFn Tryd.prog cfg0 n (d+4) 78 [.tree (canA g z)] = some (.tree (.int .i64 (clZ z)), [[]]) := by
  rw [evalFn_go _ Tryd.func78 (by unfold Tryd.f78; rfl) (by unfold Tryd.f78; decide) (Nat.le_of_ble_eq_true (by unfold Tryd.f78; rfl)) (by kernel_rfl)]
  have c1 := fun D s => cRint n d hn (isN_can g z hlt) D s
  unfold intZ at c1
  by_cases hi : isI64 z = true
  · rw [if_pos hi] at c1
    have m1 := max_Z z (-10001)
    have m2 := min_Z (if z < -10001 then -10001 else z) 10001
    rw [clZ_eq] at m2
    simp only [simB, zbo, Nat.reduceBEq, own0, ↓reduceIte, Nat.reduceEqDiff, Nat.reduceAdd, simA, simL, simN, Nat.zero_add, st0_1, c1, m1, m2]
    exact finish_i _ _ _ _ _ _ _ (by simp only [zfk, ↓reduceIte]) rfl
  · rw [if_neg hi] at c1
    have hz : z < -9223372036854775808 ∨ 9223372036854775808 ≤ z := by
      unfold isI64 at hi
      rw [Bool.and_eq_true, decide_eq_true_eq, decide_eq_true_eq] at hi
      omega
    by_cases h0 : z < 0
    · simp only [canA, encA, h0, decide_true] at c1
      have hc : clZ z = -10001 := by unfold clZ; rw [if_pos (by omega)]
      rw [hc]
      simp only [simB, zbo, Nat.reduceBEq, own0, ↓reduceIte, Nat.reduceEqDiff, Nat.reduceAdd, simA, simL, simN, Nat.zero_add, st0_1, c1, h0]
      exact finish_i _ _ _ _ _ _ _ (by simp only [zfk, ↓reduceIte]) rfl
    · simp only [canA, encA, h0, decide_false] at c1
      have hc : clZ z = 10001 := by unfold clZ; rw [if_neg (by omega), if_pos (by omega)]
      rw [hc]
      simp only [simB, zbo, Nat.reduceBEq, own0, ↓reduceIte, Nat.reduceEqDiff, Nat.reduceAdd, simA, simL, simN, Nat.zero_add, st0_1, c1, h0]
      exact finish_i _ _ _ _ _ _ _ (by simp only [zfk, ↓reduceIte]) rfl
theorem madeF_not {z : Int} (h : ¬ z.natAbs < B ^ 12) : madeF z = .tup [encA false .n [], .bool false] := by
  rw [madeF, mkZ_not h, gm, if_neg h]
  simp [canA, digs_0]
theorem down_cut (z : Int) (N : Nat) (h : z.natAbs < B ^ 12) (hN : 10000 < N) : shZ z (-(N : Int)) = shZ z (-((10000 : Nat) : Int)) := by
  have h1 : B ^ 12 ≤ 2 ^ N := B_le 12 N (by omega)
  obtain ⟨m, hm⟩ : ∃ m, m = 10000 := ⟨_, rfl⟩
  have h2 : B ^ 12 ≤ 2 ^ m := B_le 12 m (by omega)
  rw [← hm]
  by_cases hz : z < 0
  · rw [← down_neg z N hz, ← down_neg z m hz, Nat.div_eq_of_lt (by omega), Nat.div_eq_of_lt (by omega)]
  · rw [← down_pos z N hz, ← down_pos z m hz, Nat.div_eq_of_lt (by omega), Nat.div_eq_of_lt (by omega)]
-- Down.
set_option maxHeartbeats 8000000 in
theorem rdown_eq (n d : Nat) (hn : 100000 ≤ n) (g : Gk) (z : Int) (hlt : z.natAbs < B ^ 12) (N c : Nat) (hc : c = min N 10001) : evalFn Tryd.prog cfg0 n (d+5) 79 [.tree (canA g z), .tree (.int .i64 (c : Int)), .tree (.bool false)] = some (.tree (madeF (shZ z (-(N : Int)))), [[], [], []]) := by
  obtain ⟨m, hm, hm'⟩ : ∃ m : Nat, shZ z (-(N : Int)) = shZ z (-(m : Int)) ∧ ((c ≤ 10000 ∧ m = c) ∨ (10000 < c ∧ m = 10000)) := by
    by_cases h : N ≤ 10000
    · exact ⟨N, rfl, .inl (by omega)⟩
    · exact ⟨10000, down_cut z N hlt (by omega), .inr (by omega)⟩
  rw [hm]
  clear hm
  rw [evalFn_go _ Tryd.func79 (by unfold Tryd.f79; rfl) (by unfold Tryd.f79; decide) (Nat.le_of_ble_eq_true (by unfold Tryd.f79; rfl)) (by kernel_rfl)]
  have one1 : Num (.sl [.int .u32 1] 1 .tight) 1 := ⟨[1], ⟨_, rfl⟩, limbs_one (by decide), by decide, rfl⟩
  have hle := Nat.div_le_self (lessN z) (2 ^ m)
  have hle' := Nat.div_le_self z.natAbs (2 ^ m)
  have hll := less_le z
  have b1 := fun D s => callA_trees (cfg := cfg0) (d := D) (s := s) (f := 102) (vs := [canA g z]) rfl (rless_eq n d hn g z hlt)
  have nl : Num (encL (lessG g z) (digs (lessN z))) (lessN z) := by
    have := num_L (lessG g z) (digs (lessN z)) (limbs_digs _) (by have := digs_len (lessN z) 12 (by omega); omega)
    rw [val_digs] at this; exact this
  have c1 := fun D s => rcShr n (d + 2) hn D s nl (m : Int) (by omega)
  have c2 := fun D s => rcShr n (d + 2) hn D s (num_can g z hlt) (m : Int) (by omega)
  rw [Int.toNat_natCast] at c1 c2
  have c3 := fun D s => rcAdd n (d + 2) hn D s (num_F (lessN z / 2 ^ m) 12 (by decide) (by omega)) one1
  have c4 := fun D s => cRmade n (d + 2) hn D s (num_F (lessN z / 2 ^ m + 1) 13 (by decide) (by
    have h1 : B ^ 12 < B ^ 13 := Nat.pow_lt_pow_right (by decide) (by decide)
    omega)) true
  have c5 := fun D s => cRmade n (d + 2) hn D s (num_F (z.natAbs / 2 ^ m) 12 (by decide) (by omega)) false
  by_cases hz : z < 0
  · have e : lessN z = z.natAbs - 1 := by unfold lessN; rw [if_pos hz]
    rw [e, down_neg z m hz] at c4
    rw [e] at c1 c3
    simp only [canA, encA, e, hz, decide_true] at b1
    rcases hm' with ⟨h1, rfl⟩ | ⟨h1, h2⟩
    · have q1 : ¬ (m : Int) > 10000 := by omega
      simp only [simB, zbo, Nat.reduceBEq, own0, ↓reduceIte, Nat.reduceEqDiff, Nat.reduceAdd, simA, simL, simN, Nat.zero_add, st0_3', q1, hz, b1, c1, opA_one, one22_int, c3, c4, madeF_eq, ext_0, ext_1, zes]
      exact finish_ct _ _ 6 6 1 _ _ _ _ _ _ _ (by simp only [zfk, ↓reduceIte, Nat.reduceEqDiff]) (by simp only [zfk, ↓reduceIte, Nat.reduceEqDiff]) (by simp only [zfk, ↓reduceIte, Nat.reduceEqDiff]) rfl
    · have q1 : (c : Int) > 10000 := by omega
      have q2 : (m : Int) = 10000 := by omega
      rw [q2] at c1
      simp only [simB, zbo, Nat.reduceBEq, own0, ↓reduceIte, Nat.reduceEqDiff, Nat.reduceAdd, simA, simL, simN, Nat.zero_add, st0_3', q1, hz, b1, c1, opA_one, one22_int, c3, c4, madeF_eq, ext_0, ext_1, zes]
      exact finish_ct _ _ 6 6 1 _ _ _ _ _ _ _ (by simp only [zfk, ↓reduceIte, Nat.reduceEqDiff]) (by simp only [zfk, ↓reduceIte, Nat.reduceEqDiff]) (by simp only [zfk, ↓reduceIte, Nat.reduceEqDiff]) rfl
  · rw [down_pos z m hz] at c5
    rcases hm' with ⟨h1, rfl⟩ | ⟨h1, h2⟩
    · have q1 : ¬ (m : Int) > 10000 := by omega
      simp only [simB, zbo, Nat.reduceBEq, own0, ↓reduceIte, Nat.reduceEqDiff, Nat.reduceAdd, simA, simL, simN, Nat.zero_add, st0_3', q1, hz, c2, c5, madeF_eq, ext_0, ext_1, zes]
      exact finish_ct _ _ 6 6 1 _ _ _ _ _ _ _ (by simp only [zfk, ↓reduceIte, Nat.reduceEqDiff]) (by simp only [zfk, ↓reduceIte, Nat.reduceEqDiff]) (by simp only [zfk, ↓reduceIte, Nat.reduceEqDiff]) rfl
    · have q1 : (c : Int) > 10000 := by omega
      have q2 : (m : Int) = 10000 := by omega
      rw [q2] at c2
      simp only [simB, zbo, Nat.reduceBEq, own0, ↓reduceIte, Nat.reduceEqDiff, Nat.reduceAdd, simA, simL, simN, Nat.zero_add, st0_3', q1, hz, c2, c5, madeF_eq, ext_0, ext_1, zes]
      exact finish_ct _ _ 6 6 1 _ _ _ _ _ _ _ (by simp only [zfk, ↓reduceIte, Nat.reduceEqDiff]) (by simp only [zfk, ↓reduceIte, Nat.reduceEqDiff]) (by simp only [zfk, ↓reduceIte, Nat.reduceEqDiff]) rfl
-- Up.
set_option maxHeartbeats 8000000 in
theorem rup_eq (n d : Nat) (hn : 100000 ≤ n) (g : Gk) (z : Int) (hlt : z.natAbs < B ^ 12) (N c : Nat) (hc : c = min N 10001) : evalFn Tryd.prog cfg0 n (d+5) 79 [.tree (canA g z), .tree (.int .i64 (c : Int)), .tree (.bool true)] = some (.tree (madeF (shZ z (N : Int))), [[], [], []]) := by
  rw [evalFn_go _ Tryd.func79 (by unfold Tryd.f79; rfl) (by unfold Tryd.f79; decide) (Nat.le_of_ble_eq_true (by unfold Tryd.f79; rfl)) (by kernel_rfl)]
  have p0 : (((digs z.natAbs).length : Nat) : Int) > 0 ↔ z ≠ 0 := by
    have := digs_len0 z.natAbs
    omega
  by_cases hfar : 10000 < c ∧ z ≠ 0
  · have q1 : (c : Int) > 10000 := by omega
    have q2 := p0.mpr hfar.2
    rw [madeF_not (far_up0 z N hfar.2 (by omega))]
    simp only [simB, zbo, Nat.reduceBEq, own0, ↓reduceIte, Nat.reduceEqDiff, Nat.reduceAdd, simA, simL, simN, Nat.zero_add, st0_3', q1, q2]
    exact finish_ct _ _ 6 6 1 _ _ _ _ _ _ _ (by simp only [zfk, ↓reduceIte, Nat.reduceEqDiff]) (by simp only [zfk, ↓reduceIte, Nat.reduceEqDiff]) (by simp only [zfk, ↓reduceIte, Nat.reduceEqDiff]) rfl
  · obtain ⟨M, hM, hMe, hM4⟩ : ∃ M : Nat, (if (10000 : Int) < (c : Int) then 10000 else (c : Int)) = (M : Int) ∧ shZ z (N : Int) = shZ z (M : Int) ∧ M ≤ 10000 := by
      by_cases h : 10000 < c
      · have h0 : z = 0 := Classical.byContradiction fun h0 => hfar ⟨h, h0⟩
        refine ⟨10000, by rw [if_pos (by omega)]; rfl, by rw [h0, shZ_0, shZ_0], by omega⟩
      · exact ⟨c, by rw [if_neg (by omega)], by rw [show N = c by omega], by omega⟩
    have mn := min_Z (c : Int) 10000
    rw [hM] at mn
    rw [hMe]
    clear hMe hM
    have hq : ¬ (c : Int) > 10000 ∨ ((c : Int) > 10000 ∧ ¬ ((digs z.natAbs).length : Int) > 0) := by
      by_cases h : (c : Int) > 10000
      · exact .inr ⟨h, fun h' => hfar ⟨by omega, p0.mp h'⟩⟩
      · exact .inl h
    rcases hq with q1 | ⟨q1, q2⟩
    · simp only [simB, zbo, Nat.reduceBEq, own0, ↓reduceIte, Nat.reduceEqDiff, Nat.reduceAdd, simA, simL, simN, Nat.zero_add, st0_3', q1, mn, den_loop]
      refine loop_ends (X := Nat × Int × Gk) (fun x env s => env 3 = .ptr 3 1 0 ∧ env 6 = .ptr 6 1 0 ∧ env 9 = .int .i64 x.2.1 ∧ env 8 = encL x.2.2 (digs (z.natAbs * 2 ^ x.1)) ∧ s 3 = ⟨1, .buf [.bool (decide (z < 0)), encL g (digs z.natAbs)]⟩ ∧ s 6 = ⟨1, .buf [.bool false, .sl [] 0 .nil]⟩ ∧ x.1 ≤ M ∧ ((0 < x.2.1 ∧ x.2.1 = (M : Int) - (x.1 : Int)) ∨ (x.2.1 ≤ 0 ∧ -10000 ≤ x.2.1 ∧ x.1 = M)) ∧ z.natAbs * 2 ^ x.1 < B ^ 12) (fun x => M - x.1) (fun _ => (.tree (madeF (shZ z (M : Int))), [[], [], []])) ?_ n (0, (M : Int), g) _ _ (by simp only; omega) ⟨by simp only [zfk, ↓reduceIte, Nat.reduceEqDiff], by simp only [zfk, ↓reduceIte, Nat.reduceEqDiff], by simp only [zfk, ↓reduceIte, Nat.reduceEqDiff], by rw [Nat.pow_zero, Nat.mul_one]; simp only [zfk, ↓reduceIte, Nat.reduceEqDiff], by simp only [zfk, ↓reduceIte, Nat.reduceEqDiff], by simp only [zfk, ↓reduceIte, Nat.reduceEqDiff], Nat.zero_le _, by simp only; omega, by rw [Nat.pow_zero, Nat.mul_one]; exact hlt⟩
      intro k ⟨j, i, gg⟩ hxk ih env s ⟨e3, e6, e9, e8, j3, j6, hj, hi, hv⟩
      simp only at e9 e8 hj hi hv hxk
      by_cases hp : i > 0
      · have hi' : i = (M : Int) - (j : Int) := by omega
        obtain ⟨cc, hcc, hc1, hc2, hc3⟩ : ∃ cc : Nat, (if (32 : Int) < i then 32 else i) = (cc : Int) ∧ 1 ≤ cc ∧ cc ≤ 32 ∧ j + cc ≤ M ∧ ((0 < i - 32 ∧ i - 32 = (M : Int) - ((j + cc : Nat) : Int)) ∨ (i - 32 ≤ 0 ∧ -10000 ≤ i - 32 ∧ j + cc = M)) := by
          by_cases h : (32 : Int) < i
          · exact ⟨32, by rw [if_pos h]; rfl, by omega, by omega, by omega, by omega⟩
          · exact ⟨i.toNat, by rw [if_neg h]; omega, by omega, by omega, by omega, by omega⟩
        have m1 := min_Z i 32
        rw [hcc] at m1
        have nv := num_L gg (digs (z.natAbs * 2 ^ j)) (limbs_digs _) (by have := digs_len _ 12 hv; omega)
        rw [val_digs] at nv
        have c1 := fun D s => rcShl n (d + 2) hn D s nv (cc : Int)
        have hsh : shn (cc : Int) = cc := by unfold shn; rw [if_neg (by omega)]; exact Int.toNat_natCast cc
        rw [hsh, Nat.mul_assoc, ← Nat.pow_add] at c1
        have a1 := i_sub Tryd.prog 3 i 32 (by omega) (by omega)
        have hln := digs_len_le (z.natAbs * 2 ^ (j + cc)) 12
        by_cases hf : z.natAbs * 2 ^ (j + cc) < B ^ 12
        · have q3 : ¬ ((digs (z.natAbs * 2 ^ (j + cc))).length : Int) > 12 := by have := hln.mpr hf; omega
          simp only [simB, zbo, Nat.reduceBEq, own0, ↓reduceIte, Nat.reduceEqDiff, Nat.reduceAdd, simA, simL, simN, Nat.zero_add, e3, e6, e9, e8, j3, j6, hp, m1, c1, lenF, q3, a1]
          refine ih (j + cc, i - 32, .l) _ _ (by simp only; omega) rfl ⟨?_, ?_, ?_, ?_, j3, j6, hc3.1, hc3.2, hf⟩
          · simp only [zfk, ↓reduceIte, Nat.reduceEqDiff, e3]
          · simp only [zfk, ↓reduceIte, Nat.reduceEqDiff, e6]
          · simp only [zfk, ↓reduceIte, Nat.reduceEqDiff]
          · simp only [zfk, ↓reduceIte, Nat.reduceEqDiff]; rfl
        · have q3 : ((digs (z.natAbs * 2 ^ (j + cc))).length : Int) > 12 := by
            have : ¬ (digs (z.natAbs * 2 ^ (j + cc))).length ≤ 12 := fun h => hf (hln.mp h)
            omega
          have hbig : ¬ (shZ z (M : Int)).natAbs < B ^ 12 := by
            rw [← up_sgn, sgn_abs]
            have h1 : 2 ^ (j + cc) ≤ 2 ^ M := Nat.pow_le_pow_right (by decide) hc3.1
            have h2 := Nat.mul_le_mul_left z.natAbs h1
            omega
          rw [madeF_not hbig]
          simp only [simB, zbo, Nat.reduceBEq, own0, ↓reduceIte, Nat.reduceEqDiff, Nat.reduceAdd, simA, simL, simN, Nat.zero_add, e3, e6, e9, e8, j3, j6, hp, m1, c1, lenF, q3, a1]
          exact finish_ct _ _ 6 6 1 _ _ _ _ _ _ _ (by simp only [zfk, ↓reduceIte, Nat.reduceEqDiff, e6]) (by simp only [zfk, ↓reduceIte, Nat.reduceEqDiff]) (by simp only [zfk, ↓reduceIte, Nat.reduceEqDiff]) rfl
      · obtain rfl : j = M := by omega
        have nv := num_L gg (digs (z.natAbs * 2 ^ j)) (limbs_digs _) (by have := digs_len _ 12 hv; omega)
        rw [val_digs] at nv
        have c2 := fun D s => cRmade n (d + 2) hn D s nv (decide (z < 0))
        rw [up_sgn] at c2
        simp only [simB, zbo, Nat.reduceBEq, own0, ↓reduceIte, Nat.reduceEqDiff, Nat.reduceAdd, simA, simL, simN, Nat.zero_add, e3, e6, e9, e8, j3, j6, hp, c2, madeF_eq, ext_0, ext_1, zes]
        exact finish_ct _ _ 6 6 1 _ _ _ _ _ _ _ (by simp only [zfk, ↓reduceIte, Nat.reduceEqDiff, e6]) (by simp only [zfk, ↓reduceIte, Nat.reduceEqDiff]) (by simp only [zfk, ↓reduceIte, Nat.reduceEqDiff]) rfl
    · simp only [simB, zbo, Nat.reduceBEq, own0, ↓reduceIte, Nat.reduceEqDiff, Nat.reduceAdd, simA, simL, simN, Nat.zero_add, st0_3', q1, q2, mn, den_loop]
      refine loop_ends (X := Nat × Int × Gk) (fun x env s => env 3 = .ptr 3 1 0 ∧ env 6 = .ptr 6 1 0 ∧ env 9 = .int .i64 x.2.1 ∧ env 8 = encL x.2.2 (digs (z.natAbs * 2 ^ x.1)) ∧ s 3 = ⟨1, .buf [.bool (decide (z < 0)), encL g (digs z.natAbs)]⟩ ∧ s 6 = ⟨1, .buf [.bool false, .sl [] 0 .nil]⟩ ∧ x.1 ≤ M ∧ ((0 < x.2.1 ∧ x.2.1 = (M : Int) - (x.1 : Int)) ∨ (x.2.1 ≤ 0 ∧ -10000 ≤ x.2.1 ∧ x.1 = M)) ∧ z.natAbs * 2 ^ x.1 < B ^ 12) (fun x => M - x.1) (fun _ => (.tree (madeF (shZ z (M : Int))), [[], [], []])) ?_ n (0, (M : Int), g) _ _ (by simp only; omega) ⟨by simp only [zfk, ↓reduceIte, Nat.reduceEqDiff], by simp only [zfk, ↓reduceIte, Nat.reduceEqDiff], by simp only [zfk, ↓reduceIte, Nat.reduceEqDiff], by rw [Nat.pow_zero, Nat.mul_one]; simp only [zfk, ↓reduceIte, Nat.reduceEqDiff], by simp only [zfk, ↓reduceIte, Nat.reduceEqDiff], by simp only [zfk, ↓reduceIte, Nat.reduceEqDiff], Nat.zero_le _, by simp only; omega, by rw [Nat.pow_zero, Nat.mul_one]; exact hlt⟩
      intro k ⟨j, i, gg⟩ hxk ih env s ⟨e3, e6, e9, e8, j3, j6, hj, hi, hv⟩
      simp only at e9 e8 hj hi hv hxk
      by_cases hp : i > 0
      · have hi' : i = (M : Int) - (j : Int) := by omega
        obtain ⟨cc, hcc, hc1, hc2, hc3⟩ : ∃ cc : Nat, (if (32 : Int) < i then 32 else i) = (cc : Int) ∧ 1 ≤ cc ∧ cc ≤ 32 ∧ j + cc ≤ M ∧ ((0 < i - 32 ∧ i - 32 = (M : Int) - ((j + cc : Nat) : Int)) ∨ (i - 32 ≤ 0 ∧ -10000 ≤ i - 32 ∧ j + cc = M)) := by
          by_cases h : (32 : Int) < i
          · exact ⟨32, by rw [if_pos h]; rfl, by omega, by omega, by omega, by omega⟩
          · exact ⟨i.toNat, by rw [if_neg h]; omega, by omega, by omega, by omega, by omega⟩
        have m1 := min_Z i 32
        rw [hcc] at m1
        have nv := num_L gg (digs (z.natAbs * 2 ^ j)) (limbs_digs _) (by have := digs_len _ 12 hv; omega)
        rw [val_digs] at nv
        have c1 := fun D s => rcShl n (d + 2) hn D s nv (cc : Int)
        have hsh : shn (cc : Int) = cc := by unfold shn; rw [if_neg (by omega)]; exact Int.toNat_natCast cc
        rw [hsh, Nat.mul_assoc, ← Nat.pow_add] at c1
        have a1 := i_sub Tryd.prog 3 i 32 (by omega) (by omega)
        have hln := digs_len_le (z.natAbs * 2 ^ (j + cc)) 12
        by_cases hf : z.natAbs * 2 ^ (j + cc) < B ^ 12
        · have q3 : ¬ ((digs (z.natAbs * 2 ^ (j + cc))).length : Int) > 12 := by have := hln.mpr hf; omega
          simp only [simB, zbo, Nat.reduceBEq, own0, ↓reduceIte, Nat.reduceEqDiff, Nat.reduceAdd, simA, simL, simN, Nat.zero_add, e3, e6, e9, e8, j3, j6, hp, m1, c1, lenF, q3, a1]
          refine ih (j + cc, i - 32, .l) _ _ (by simp only; omega) rfl ⟨?_, ?_, ?_, ?_, j3, j6, hc3.1, hc3.2, hf⟩
          · simp only [zfk, ↓reduceIte, Nat.reduceEqDiff, e3]
          · simp only [zfk, ↓reduceIte, Nat.reduceEqDiff, e6]
          · simp only [zfk, ↓reduceIte, Nat.reduceEqDiff]
          · simp only [zfk, ↓reduceIte, Nat.reduceEqDiff]; rfl
        · have q3 : ((digs (z.natAbs * 2 ^ (j + cc))).length : Int) > 12 := by
            have : ¬ (digs (z.natAbs * 2 ^ (j + cc))).length ≤ 12 := fun h => hf (hln.mp h)
            omega
          have hbig : ¬ (shZ z (M : Int)).natAbs < B ^ 12 := by
            rw [← up_sgn, sgn_abs]
            have h1 : 2 ^ (j + cc) ≤ 2 ^ M := Nat.pow_le_pow_right (by decide) hc3.1
            have h2 := Nat.mul_le_mul_left z.natAbs h1
            omega
          rw [madeF_not hbig]
          simp only [simB, zbo, Nat.reduceBEq, own0, ↓reduceIte, Nat.reduceEqDiff, Nat.reduceAdd, simA, simL, simN, Nat.zero_add, e3, e6, e9, e8, j3, j6, hp, m1, c1, lenF, q3, a1]
          exact finish_ct _ _ 6 6 1 _ _ _ _ _ _ _ (by simp only [zfk, ↓reduceIte, Nat.reduceEqDiff, e6]) (by simp only [zfk, ↓reduceIte, Nat.reduceEqDiff]) (by simp only [zfk, ↓reduceIte, Nat.reduceEqDiff]) rfl
      · obtain rfl : j = M := by omega
        have nv := num_L gg (digs (z.natAbs * 2 ^ j)) (limbs_digs _) (by have := digs_len _ 12 hv; omega)
        rw [val_digs] at nv
        have c2 := fun D s => cRmade n (d + 2) hn D s nv (decide (z < 0))
        rw [up_sgn] at c2
        simp only [simB, zbo, Nat.reduceBEq, own0, ↓reduceIte, Nat.reduceEqDiff, Nat.reduceAdd, simA, simL, simN, Nat.zero_add, e3, e6, e9, e8, j3, j6, hp, c2, madeF_eq, ext_0, ext_1, zes]
        exact finish_ct _ _ 6 6 1 _ _ _ _ _ _ _ (by simp only [zfk, ↓reduceIte, Nat.reduceEqDiff, e6]) (by simp only [zfk, ↓reduceIte, Nat.reduceEqDiff]) (by simp only [zfk, ↓reduceIte, Nat.reduceEqDiff]) rfl
end Go.Ab

/- And, or, exclusive or of limbs; a number's bits. Conditions: numbers that are shown. -/
namespace Go.Ab
open Go.Proofs
set_option maxRecDepth 100000
set_option linter.unusedSimpArgs false

end Go.Ab

/- A number's bits. Conditions: numbers that are shown. -/
namespace Go.Ab
open Go.Proofs
set_option maxRecDepth 100000
set_option linter.unusedSimpArgs false

end Go.Ab

/- Logic of numbers. Conditions: numbers that are shown. -/
namespace Go.Ab
open Go.Proofs
set_option maxRecDepth 100000
set_option linter.unusedSimpArgs false

end Go.Ab

/- Op: logic; the statements' own way to call it. Conditions: numbers that are shown. -/
namespace Go.Ab
open Go.Proofs
set_option maxRecDepth 100000
set_option linter.unusedSimpArgs false
section
variable (n d : Nat) (hn : 100000 ≤ n) {w w' : AV} {z z' : Int} (hw : IsN w z) (hw' : IsN w' z')
include hn hw hw'
set_option maxHeartbeats 8000000
end
end Go.Ab

/- Op: shifts. Conditions: numbers that are shown. -/
namespace Go.Ab
open Go.Proofs
set_option maxRecDepth 100000
set_option linter.unusedSimpArgs false
section
variable (n d : Nat) (hn : 100000 ≤ n) {w w' : AV} {z z' : Int} (hw : IsN w z) (hw' : IsN w' z')
include hn hw hw'
set_option maxHeartbeats 8000000
end
end Go.Ab

/- The reference's Op, any op; the program's, of an op that is none. Conditions: limbs in range. -/
namespace Go.Ab
open Go.Proofs
set_option maxRecDepth 100000
set_option linter.unusedSimpArgs false

section
variable (n d : Nat) (hn : 100000 ≤ n) {w w' : AV} {z z' : Int} (hw : IsN w z) (hw' : IsN w' z')
include hn hw hw'
set_option maxHeartbeats 8000000
theorem rop9_eq : evalFn Tryd.prog cfg0 n (d+6) 48 [.tree (.int .i64 9), .tree w, .tree w'] = some (.tree (madeF (shZ z z')), [[], [], []]) := by
  obtain ⟨g, c1⟩ := qRis n (d + 3) hw
  obtain ⟨g', c2⟩ := qRis n (d + 3) hw'
  have hlt := hw.lt
  have hlt' := hw'.lt
  obtain ⟨neg, g0, l, rfl, hl, hz⟩ := hw
  obtain ⟨neg', g0', l', rfl, hl', hz'⟩ := hw'
  rw [evalFn_go _ Tryd.func48 (by unfold Tryd.f48; rfl) (by unfold Tryd.f48; decide) (Nat.le_of_ble_eq_true (by unfold Tryd.f48; rfl)) (by kernel_rfl)]
  have c4 := fun D s => callA_trees (cfg := cfg0) (d := D) (s := s) (f := 78) (vs := [canA g' z']) rfl (far_eq n (d + 1) hn g' z' hlt')
  have e9 : ((9 : Int) == 9) = true := rfl
  have e10 : ((10 : Int) == 10) = true := rfl
  by_cases hs : z' < 0
  · have hc : clZ z' = -((min z'.natAbs 10001 : Nat) : Int) := by unfold clZ; (repeat' split) <;> omega
    have hc2 : clZ z' < 0 := by omega
    have hc3 : -clZ z' = ((min z'.natAbs 10001 : Nat) : Int) := by omega
    have un := un_negi (clZ z') (by omega) (by omega)
    rw [hc3] at un
    have c3 := fun D s => callA_trees (cfg := cfg0) (d := D) (s := s) (f := 79) (vs := [canA g z, .int .i64 ((min z'.natAbs 10001 : Nat) : Int), .bool false]) rfl (rdown_eq n d hn g z hlt z'.natAbs _ rfl)
    rw [show -((z'.natAbs : Nat) : Int) = z' by omega] at c3
    simp only [simB, zbo, Nat.reduceBEq, own0, ↓reduceIte, Nat.reduceEqDiff, Nat.reduceAdd, simA, simL, simN, Nat.zero_add, st0_3', c1, c2, Int.reduceBEq, c4, hc2, un, c3, madeF_eq, ext_0, ext_1, zes]
    exact finish_ct _ _ 6 6 1 _ _ _ _ _ _ _ (by simp only [zfk, ↓reduceIte, Nat.reduceEqDiff]) (by simp only [zfk, ↓reduceIte, Nat.reduceEqDiff]) (by simp only [zfk, ↓reduceIte, Nat.reduceEqDiff]) rfl
  · have hc : clZ z' = ((min z'.natAbs 10001 : Nat) : Int) := by unfold clZ; (repeat' split) <;> omega
    have hc2 : ¬ clZ z' < 0 := by omega
    have c3 := fun D s => callA_trees (cfg := cfg0) (d := D) (s := s) (f := 79) (vs := [canA g z, .int .i64 ((min z'.natAbs 10001 : Nat) : Int), .bool true]) rfl (rup_eq n d hn g z hlt z'.natAbs _ rfl)
    rw [show ((z'.natAbs : Nat) : Int) = z' by omega, ← hc] at c3
    simp only [simB, zbo, Nat.reduceBEq, own0, ↓reduceIte, Nat.reduceEqDiff, Nat.reduceAdd, simA, simL, simN, Nat.zero_add, st0_3', c1, c2, Int.reduceBEq, c4, hc2, c3, madeF_eq, ext_0, ext_1, zes]
    exact finish_ct _ _ 6 6 1 _ _ _ _ _ _ _ (by simp only [zfk, ↓reduceIte, Nat.reduceEqDiff]) (by simp only [zfk, ↓reduceIte, Nat.reduceEqDiff]) (by simp only [zfk, ↓reduceIte, Nat.reduceEqDiff]) rfl
end
end Go.Ab

/- The statement NumRooms, abstractly. Conditions: an int. -/
namespace Go.Ab
open Go.Proofs
set_option maxRecDepth 100000
set_option linter.unusedSimpArgs false

end Go.Ab

/- Op, any op: the program's and the reference's give the same number. Conditions: numbers that are shown. -/
namespace Go.Ab
open Go.Proofs
set_option maxRecDepth 100000
set_option linter.unusedSimpArgs false

section
variable (n d : Nat) (hn : 100000 ≤ n) {w w' : AV} {z z' : Int} (hw : IsN w z) (hw' : IsN w' z')
include hn hw hw'
set_option maxHeartbeats 8000000
end
end Go.Ab

/- The number statements' own example, by the kernel's own reckoning. No conditions. -/
namespace Go.Ab
open Go.Proofs
end Go.Ab

/- The statement NumOrders, abstractly. Conditions: limbs in range. -/
namespace Go.Ab
open Go.Proofs
set_option maxRecDepth 100000
set_option linter.unusedSimpArgs false

end Go.Ab

/- The statement NumAll, abstractly. Conditions: limbs in range, an int in range. -/
namespace Go.Ab
open Go.Proofs
set_option maxRecDepth 100000
set_option linter.unusedSimpArgs false

end Go.Ab

/- Strings: what the library's functions upon them give. Conditions: lengths in range. -/
namespace Go.Ab
open Go.Proofs
set_option maxRecDepth 100000
set_option linter.unusedSimpArgs false

set_option maxHeartbeats 4000000 in
theorem trimLB_eq (n d : Nat) (l : List UInt8) (c : UInt8) (hn : l.length < n) : evalFn Tryd.prog cfg0 n (d+1) 85 [.tree (.str l), .tree (.int .u8 (c.toNat : Int))] = some (.tree (.str (l.dropWhile (· == c))), [[], []]) := by
  rw [evalFn_go _ Tryd.func85 (by unfold Tryd.f85; rfl) (by unfold Tryd.f85; decide) (Nat.le_of_ble_eq_true (by unfold Tryd.f85; rfl)) (by kernel_rfl)]
  simp only [simB, zbo, Nat.reduceBEq, own0, ↓reduceIte, Nat.reduceEqDiff, Nat.reduceAdd, simA, simL, zex, List.toList_toArray, len9, ix9, zey, zez, zfa, zfb, zfc, den_loop]
  refine loop_ends (X := List UInt8) (fun x env s => env 0 = .str x ∧ env 1 = .int .u8 (c.toNat : Int) ∧ x.dropWhile (· == c) = l.dropWhile (· == c)) (fun x => x.length) (fun _ => (.tree (.str (l.dropWhile (· == c))), [[], []])) ?_ n l _ _ (by omega) ⟨rfl, rfl, rfl⟩
  intro k x hx ih env s ⟨e0, e1, hd⟩
  cases x with
  | nil =>
    have q0 : ¬ (((([] : List UInt8)).length : Nat) : Int) > 0 := by decide
    simp only [simB, zbo, Nat.reduceBEq, own0, ↓reduceIte, Nat.reduceEqDiff, Nat.reduceAdd, simL, zex, List.toList_toArray, len9, ix9, zey, zez, zfa, zfb, zfc, e0, e1, q0]
    rw [← hd]
    exact finish_s _ _ _ _ _ _ _ (by simp only [zfk, ↓reduceIte, Nat.reduceEqDiff]; rfl) rfl
  | cons a r =>
    have q0 : (((a :: r).length : Nat) : Int) > 0 := by simp only [List.length_cons]; omega
    have q1 : (0 : Int) ≤ 0 ∧ (0 : Int) < (((a :: r).length : Nat) : Int) := ⟨Int.le_refl _, q0⟩
    have q2 : (a :: r).getD (0 : Int).toNat 0 = a := rfl
    have q3 : ((a.toNat : Int) == (c.toNat : Int)) = (a == c) := by
      rw [Bool.eq_iff_iff, beq_iff_eq, beq_iff_eq]
      exact ⟨fun h => UInt8.toNat_inj.mp (by omega), fun h => by rw [h]⟩
    by_cases hc : (a == c) = true
    · have q4 : (0 : Int) ≤ 1 ∧ (1 : Int) ≤ (((a :: r).length : Nat) : Int) := by omega
      have q5 : (a :: r).drop (1 : Int).toNat = r := rfl
      simp only [simB, zbo, Nat.reduceBEq, own0, ↓reduceIte, Nat.reduceEqDiff, Nat.reduceAdd, simL, zex, List.toList_toArray, len9, ix9, zey, zez, zfa, zfb, zfc, e0, e1, q0, q1, and_self, q2, q3, hc, q4, q5]
      refine ih r _ _ (by simp only [List.length_cons]; omega) rfl ⟨?_, ?_, ?_⟩
      · simp only [zfk, ↓reduceIte, Nat.reduceEqDiff]
      · simp only [zfk, ↓reduceIte, Nat.reduceEqDiff, e1]
      · rw [← hd, List.dropWhile_cons, if_pos hc]
    · rw [Bool.not_eq_true] at hc
      simp only [simB, zbo, Nat.reduceBEq, own0, ↓reduceIte, Nat.reduceEqDiff, Nat.reduceAdd, simL, zex, List.toList_toArray, len9, ix9, zey, zez, zfa, zfb, zfc, e0, e1, q0, q1, and_self, q2, q3, hc]
      rw [← hd, List.dropWhile_cons, hc]
      exact finish_s _ _ _ _ _ _ _ (by simp only [zfk, ↓reduceIte, Nat.reduceEqDiff]; rfl) rfl
set_option maxHeartbeats 4000000 in
theorem trimL0_eq (n d : Nat) (l : List UInt8) (hn : l.length < n) : evalFn Tryd.prog cfg0 n (d+2) 53 [.tree (.str l), .tree (.str [48])] = some (.tree (.str (l.dropWhile (· == 48))), [[], []]) := by
  rw [evalFn_go _ Tryd.func53 (by unfold Tryd.f53; rfl) (by unfold Tryd.f53; decide) (Nat.le_of_ble_eq_true (by unfold Tryd.f53; rfl)) (by kernel_rfl)]
  have c1 := fun D s => callA_trees (cfg := cfg0) (d := D) (s := s) (f := 85) (vs := [.str l, .int .u8 (((48 : UInt8).toNat : Nat) : Int)]) rfl (trimLB_eq n d l 48 hn)
  have q1 : (([48] : List UInt8) == []) = false := rfl
  have q2 : ((([48] : List UInt8).length : Int) == 1) = true := rfl
  have q3 : (0 : Int) ≤ 0 ∧ (0 : Int) < ((([48] : List UInt8).length : Nat) : Int) := by decide
  have q4 : ([48] : List UInt8).getD (0 : Int).toNat 0 = 48 := rfl
  have q5 : (((48 : UInt8).toNat : Nat) : Int) < 128 := by decide
  cases l with
  | nil =>
    have q0 : (([] : List UInt8) == []) = true := rfl
    simp only [simB, zbo, Nat.reduceBEq, own0, ↓reduceIte, Nat.reduceEqDiff, Nat.reduceAdd, simA, simL, zex, List.toList_toArray, len9, ix9, zey, zez, zfa, zfb, zfc, q0]
    exact finish_s _ _ _ _ _ _ _ (by simp only [zfk, ↓reduceIte, Nat.reduceEqDiff]; rfl) rfl
  | cons a r =>
    have q0 : ((a :: r : List UInt8) == []) = false := rfl
    simp only [simB, zbo, Nat.reduceBEq, own0, ↓reduceIte, Nat.reduceEqDiff, Nat.reduceAdd, simA, simL, zex, List.toList_toArray, len9, ix9, zey, zez, zfa, zfb, zfc, q0, q1, q2, q3, and_self, q4, q5, c1]
    exact finish_s _ _ _ _ _ _ _ (by simp only [zfk, ↓reduceIte, Nat.reduceEqDiff]) rfl
end Go.Ab

/- strings.Trim by the digits. Conditions: lengths in range. -/
namespace Go.Ab
open Go.Proofs
set_option maxRecDepth 100000
set_option linter.unusedSimpArgs false

end Go.Ab

/- The statement NumInts, abstractly. Conditions: two ints. -/
namespace Go.Ab
open Go.Proofs
set_option maxRecDepth 100000
set_option linter.unusedSimpArgs false

def stB (e : Ent) (p k off : Nat) (s : St) (v : AV) : Option St := match e with | ⟨t', .buf xs⟩ => if t' = k then (if off < xs.length then some (upd s p ⟨t', .buf (xs.set off v)⟩) else none) else none | _ => none
theorem stB_buf (t k p off : Nat) (s : St) (v : AV) (xs : List AV) : stB ⟨t, .buf xs⟩ p k off s v = if t = k then (if off < xs.length then some (upd s p ⟨t, .buf (xs.set off v)⟩) else none) else none := rfl
section
variable (a b : Int)
variable (ha : a.natAbs ≤ 2147483648) (hb : b.natAbs ≤ 2147483648)
include ha hb
end
end Go.Ab
