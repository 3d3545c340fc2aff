/- Several texts put together: AbtT6, AbtX0, AbtT7, AbtT8, AbtT9, AbtT10, AbtT12. Conditions: as each part says. -/
import Derived.Test.YtaifnpbgamookaaDoorAbTListsZ05
/- Terms as trees: their cells; how deep, how many; what term.check asks. No conditions. -/
namespace Go.Ab
open Go.Proofs
set_option maxRecDepth 100000
set_option linter.unusedSimpArgs false

inductive T where
  | mk (k : Int) (b : Bool) (lg : Gk) (l : List Nat) (s : List UInt8) (n : Int) (kg : Gk) (ks : List T)
mutual
def cellsT : T → List AV
  | .mk k b lg l s n kg ks => [.int .i64 k, .bool b, encL lg l, .str s, .int .i64 n, .sl (cellsK ks) ks.length (gr kg)]
def cellsK : List T → List AV
  | [] => []
  | t :: r => cellsT t ++ cellsK r
end
def encT (t : T) : AV := .agg (cellsT t)
mutual
def nodT : T → Nat
  | .mk _ _ _ _ _ _ _ ks => nodK ks + 1
def nodK : List T → Nat
  | [] => 0
  | t :: r => nodT t + nodK r
end
mutual
def htT : T → Nat
  | .mk _ _ _ _ _ _ _ ks => htK ks + 1
def htK : List T → Nat
  | [] => 0
  | t :: r => max (htT t) (htK r)
end
theorem cellsT_len (t : T) : (cellsT t).length = 6 := by cases t; simp only [cellsT]; rfl
theorem cellsK_len : ∀ ks : List T, (cellsK ks).length = ks.length * 6
  | [] => rfl
  | t :: r => by simp only [cellsK, List.length_append, cellsT_len, cellsK_len r, List.length_cons]; omega
theorem cellsK_drop : ∀ (ks : List T) (i : Nat), (cellsK ks).drop (i * 6) = cellsK (ks.drop i)
  | [], i => by simp [cellsK]
  | t :: r, 0 => by simp
  | t :: r, i + 1 => by
    have h : (i + 1) * 6 = (cellsT t).length + i * 6 := by rw [cellsT_len]; omega
    simp only [cellsK, List.drop_succ_cons]
    rw [h, ← List.drop_drop, List.drop_left, cellsK_drop r i]
theorem cellsK_take : ∀ (ks : List T) (i : Nat), (cellsK ks).take (i * 6) = cellsK (ks.take i)
  | [], i => by simp [cellsK]
  | t :: r, 0 => by simp [cellsK]
  | t :: r, i + 1 => by
    have h : (i + 1) * 6 = (cellsT t).length + i * 6 := by rw [cellsT_len]; omega
    simp only [cellsK, List.take_succ_cons]
    rw [h, List.take_length_add_append, cellsK_take r i]
theorem cellsK_append (a b : List T) : cellsK (a ++ b) = cellsK a ++ cellsK b := by
  induction a with
  | nil => rfl
  | cons t r ih => simp only [List.cons_append, cellsK, ih, List.append_assoc]
theorem ia_K (s : St) (ks : List T) (g : Grip) (i : Nat) (h : i < ks.length) : indexAddrA Tryd.prog 26 s (.sl (cellsK ks) ks.length g) (.int .i64 (i : Int)) = some (.rptr (cellsK (ks.drop i))) := by
  simp only [indexAddrA, tkTk, eszT, Option.bind_some, Int.toNat_natCast]
  rw [if_pos ⟨by omega, by omega⟩, cellsK_drop]
theorem ld_K (s : St) (t : T) (r : List T) : loadA Tryd.prog 28 s (.rptr (cellsK (t :: r))) = some (encT t) := by
  have h : (cellsT t ++ cellsK r).take 6 = cellsT t := by rw [← cellsT_len t]; simp
  have h2 : 6 ≤ (cellsT t ++ cellsK r).length := by rw [List.length_append, cellsT_len]; omega
  simp only [loadA, partA, shT, cellsK, Nat.zero_add, h2, ↓reduceIte, List.drop_zero, h, encT]
theorem nod_pos (t : T) : 0 < nodT t := by cases t; simp [nodT]
mutual
/-- Limbs in range, everywhere. -/
def wfT : T → Prop
  | .mk _ _ _ l _ _ _ ks => Limbs l ∧ wfK ks
def wfK : List T → Prop
  | [] => True
  | t :: r => wfT t ∧ wfK r
end
theorem nodK_len : ∀ ks : List T, ks.length ≤ nodK ks
  | [] => Nat.le_refl _
  | t :: r => by have := nod_pos t; have := nodK_len r; simp only [nodK, List.length_cons]; omega
theorem kids_ht : ∀ (ks : List T) (i : Nat) (t : T) (r : List T), ks.drop i = t :: r → htT t ≤ htK ks
  | [], i, t, r, h => by simp at h
  | a :: q, 0, t, r, h => by simp only [List.drop_zero, List.cons.injEq] at h; obtain ⟨rfl, rfl⟩ := h; simp only [htK]; omega
  | a :: q, i + 1, t, r, h => by have := kids_ht q i t r (by simpa using h); simp only [htK]; omega
theorem kids_nod : ∀ (ks : List T) (i : Nat) (t : T) (r : List T), ks.drop i = t :: r → nodT t ≤ nodK ks
  | [], i, t, r, h => by simp at h
  | a :: q, 0, t, r, h => by simp only [List.drop_zero, List.cons.injEq] at h; obtain ⟨rfl, rfl⟩ := h; simp only [nodK]; omega
  | a :: q, i + 1, t, r, h => by have := kids_nod q i t r (by simpa using h); simp only [nodK]; omega
theorem kids_wf : ∀ (ks : List T) (i : Nat) (t : T) (r : List T), ks.drop i = t :: r → wfK ks → wfT t
  | [], i, t, r, h, _ => by simp at h
  | a :: q, 0, t, r, h, hw => by simp only [List.drop_zero, List.cons.injEq] at h; obtain ⟨rfl, rfl⟩ := h; simp only [wfK] at hw; exact hw.1
  | a :: q, i + 1, t, r, h, hw => by simp only [wfK] at hw; exact kids_wf q i t r (by simpa using h) hw.2
theorem drop_next {α : Type} {ks : List α} {i : Nat} {t : α} {r : List α} (h : ks.drop i = t :: r) : ks.drop (i + 1) = r := by
  rw [← List.drop_drop, h]; rfl
theorem nodK_app : ∀ a b : List T, nodK (a ++ b) = nodK a + nodK b
  | [], b => by simp only [List.nil_append, nodK]; omega
  | t :: r, b => by simp only [List.cons_append, nodK, nodK_app r b]; omega
theorem nodK_take (ks : List T) (i : Nat) : nodK (ks.take i) ≤ nodK ks := by
  have := nodK_app (ks.take i) (ks.drop i)
  rw [List.take_append_drop] at this
  omega
end Go.Ab

/- Strings: short things. No conditions. -/
namespace Go.Ab
open Go.Proofs
set_option maxRecDepth 100000
set_option linter.unusedSimpArgs false

theorem len9 (s : St) (b : List UInt8) : lenA Tryd.prog 9 s (.str b) = some (.int .i64 (b.length : Int)) := by simp only [lenA, tk9]
theorem ix9 (b : List UInt8) (k : IntKind) (i : Int) : indexA Tryd.prog 9 (.str b) (.int k i) = if 0 ≤ i ∧ i < b.length then some (.int .u8 ((b.getD i.toNat 0).toNat : Int)) else none := by simp only [indexA, tk9]
theorem zeh (P : Program) (t : TypeId) (a b : List UInt8) : binA P .eql t (.str a) (.str b) = some (.bool (a == b)) := rfl
theorem zei (P : Program) (t : TypeId) (a b : List UInt8) : binA P .neq t (.str a) (.str b) = some (.bool (!(a == b))) := rfl
theorem s_addS (P : Program) (t : TypeId) (a b : List UInt8) (h : a.length + b.length ≤ 9223372036854775807) : binA P .add t (.str a) (.str b) = some (.str (a ++ b)) := if_pos h
theorem zej (s : St) (b : List UInt8) (k : IntKind) (i : Int) : sliceA Tryd.prog 9 s (.str b) (some (.int k i)) none none = if 0 ≤ i ∧ i ≤ b.length then some (.str (b.drop i.toNat)) else none := by
  simp only [sliceA, tk9, boundA, Option.isSome_none, Bool.false_eq_true, if_false, Option.bind_some]
  split
  · rw [Option.bind_some, List.take_length]
  · rfl
theorem zek (s : St) (b : List UInt8) (k : IntKind) (i : Int) : sliceA Tryd.prog 9 s (.str b) none (some (.int k i)) none = if 0 ≤ i ∧ i ≤ b.length then some (.str (b.take i.toNat)) else none := by
  simp only [sliceA, tk9, boundA, Option.isSome_none, Bool.false_eq_true, if_false, Option.bind_some]
  split
  · rfl
  · rfl
theorem finish_s (k : Bool) (xs : List Arg) (t : Nat) (env : Env) (s : St) (v : List UInt8) (os : List (List AV)) (hv : env t = .str v) (ho : outsA s 0 xs = some os) :
    finishP Tryd.prog k xs #[.tmp t] env s = some (.tree (.str v), os) := finish_tree _ _ _ _ _ _ (.str v) _ _ hv rfl ho
def nilE (s : St) : AV → Option (AV × St)
  | .ptr p t off => if live s p t then some (.ptr p t off, s) else none
  | .rptr xs => some (.rptr xs, s)
  | _ => none
theorem opA_nilc {P : Program} {cfg : Cfg} {call : FuncId → List Arg → Option Out} {q : Bool} {d : Option Tmp} {ty : TypeId} {pos : String} {af : Array Edge} {g : Option (Nat × Bool)} {t : Nat} {env : Env} {s : St} (x : Operand) : opA P cfg call q ⟨d, .nilCheck x, ty, pos, af, g⟩ t env s = nilE s (ev env x) := by
  simp only [opA, nilE]
  cases ev env x <;> rfl
theorem nilE_ptr (s : St) (p t off : Nat) : nilE s (.ptr p t off) = if (cellsE (s p) t).isSome = true then some (.ptr p t off, s) else none := by simp only [nilE, live, cellsAt_E]
theorem upd_eqv {α : Type} (f : Nat → α) (p : Nat) (v : α) (h : f p = v) : upd f p v = f := by
  funext j
  unfold upd
  split
  · rename_i hj; rw [hj, h]
  · rfl
end Go.Ab

/- Of a term by itself: is it right? No conditions but limbs in range. -/
namespace Go.Ab
open Go.Proofs
set_option maxRecDepth 100000
set_option linter.unusedSimpArgs false

def zeroB (b : Bool) (l : List Nat) : Bool := !b && decide (l.length = 0)
theorem len23 (s : St) (g : Gk) (l : List Nat) : lenA Tryd.prog 23 s (encL g l) = some (.int .i64 (l.length : Int)) := zdg s g l
theorem zeroN_eq (n d : Nat) (b : Bool) (g : Gk) (l : List Nat) : evalFn Tryd.prog cfg0 n (d+1) 68 [.tree (encA b g l)] = some (.tree (.bool (zeroB b l)), [[]]) := by
  rw [evalFn_go _ Tryd.func68 (by unfold Tryd.f68; rfl) (by unfold Tryd.f68; decide) (Nat.le_of_ble_eq_true (by unfold Tryd.f68; rfl)) (by kernel_rfl)]
  have e : ((l.length : Int) == 0) = decide (l.length = 0) := by rw [Bool.eq_iff_iff, beq_iff_eq, decide_eq_true_eq]; omega
  cases b
  · simp only [zaa, zab, zac, zad, zae, zaf, zag, zah, zai, zaj, zak, zal, zam, zan, zao, zap, zaq, zar, zas, zat, zau, zav, zaw, zax, zay, zaz, zba, zbb, zbc, zbd, zbe, zbf, zbg, zbh, zbi, zbj, Nat.reduceBEq, Bool.or_self, Bool.or_false, Bool.or_true, Bool.and_true, Bool.and_false, Bool.true_and, Bool.false_and, Option.isNone_none, Option.isNone_some, Option.isSome_some, Option.isSome_none, zbk, zbl, zbm, zbn, zbo, zbp, zbq, zbr, zbs, zbt, zbu, zbv, zbw, zbx, zby, zbz, zca, zcb, zcc, zcd, zce, zcf, zcg, zch, zci, zcj, zck, zcl, zcm, zcn, zco, zcp, zcq, zcr, zcs, zct, zcu, zcv, zcw, zcx, zcy, zcz, zda, zdb, zdc, zdd, zde, zdf, Option.getD_some, Option.getD_none, zet, zeu, zev, zew, zex, zey, zez, zfa, Option.map_some, Option.map_none, Option.bind_some, List.map_cons, List.map_nil, List.cons_append, List.nil_append, ↓reduceIte, Nat.reduceEqDiff, Nat.reduceAdd, decide_true, decide_false, Bool.true_eq_false, Bool.false_eq_true, env0, List.getElem?_cons_zero, List.getElem?_cons_succ, zdg, zdh, zdi, zdj, zdk, zdl, zdm, zdn, ia22, ld31, zdo, zdp, zdq, zdr, zds, zdt, zdu, zdv, zdw, zdx, zdy, zdz, zea, zeb, zec, fa_0, fa_1, zed, bd_0, bd_2, zee, fd_1, zef, Nat.zero_add, encA, unA_not', Bool.not_false, Bool.not_true, e]
    exact finish_b _ _ _ _ _ _ _ ((by first | (simp only [zfa, ↓reduceIte, Nat.reduceEqDiff]; done) | (simp only [zfa, ↓reduceIte, Nat.reduceEqDiff]; rfl))) rfl
  · simp only [zaa, zab, zac, zad, zae, zaf, zag, zah, zai, zaj, zak, zal, zam, zan, zao, zap, zaq, zar, zas, zat, zau, zav, zaw, zax, zay, zaz, zba, zbb, zbc, zbd, zbe, zbf, zbg, zbh, zbi, zbj, Nat.reduceBEq, Bool.or_self, Bool.or_false, Bool.or_true, Bool.and_true, Bool.and_false, Bool.true_and, Bool.false_and, Option.isNone_none, Option.isNone_some, Option.isSome_some, Option.isSome_none, zbk, zbl, zbm, zbn, zbo, zbp, zbq, zbr, zbs, zbt, zbu, zbv, zbw, zbx, zby, zbz, zca, zcb, zcc, zcd, zce, zcf, zcg, zch, zci, zcj, zck, zcl, zcm, zcn, zco, zcp, zcq, zcr, zcs, zct, zcu, zcv, zcw, zcx, zcy, zcz, zda, zdb, zdc, zdd, zde, zdf, Option.getD_some, Option.getD_none, zet, zeu, zev, zew, zex, zey, zez, zfa, Option.map_some, Option.map_none, Option.bind_some, List.map_cons, List.map_nil, List.cons_append, List.nil_append, ↓reduceIte, Nat.reduceEqDiff, Nat.reduceAdd, decide_true, decide_false, Bool.true_eq_false, Bool.false_eq_true, env0, List.getElem?_cons_zero, List.getElem?_cons_succ, zdg, zdh, zdi, zdj, zdk, zdl, zdm, zdn, ia22, ld31, zdo, zdp, zdq, zdr, zds, zdt, zdu, zdv, zdw, zdx, zdy, zdz, zea, zeb, zec, fa_0, fa_1, zed, bd_0, bd_2, zee, fd_1, zef, Nat.zero_add, encA, unA_not', Bool.not_false, Bool.not_true]
    exact finish_b _ _ _ _ _ _ _ ((by first | (simp only [zfa, ↓reduceIte, Nat.reduceEqDiff]; done) | (simp only [zfa, ↓reduceIte, Nat.reduceEqDiff]; rfl))) rfl
def okC (c : UInt8) : Bool := decide (33 ≤ c.toNat) && decide (c.toNat ≤ 126)
def nameB (s : List UInt8) : Bool := decide (1 ≤ s.length) && decide (s.length ≤ 40) && s.all okC
theorem name_eq (n d : Nat) (hn : 100 ≤ n) (s : List UInt8) : evalFn Tryd.prog cfg0 n (d+1) 70 [.tree (.str s)] = some (.tree (.bool (nameB s)), [[]]) := by
  rw [evalFn_go _ Tryd.func70 (by unfold Tryd.f70; rfl) (by unfold Tryd.f70; decide) (Nat.le_of_ble_eq_true (by unfold Tryd.f70; rfl)) (by kernel_rfl)]
  by_cases h1 : (s.length : Int) < 1
  · have e : nameB s = false := by unfold nameB; rw [decide_eq_false (by omega)]; rfl
    rw [e]
    simp only [zaa, zab, zac, zad, zae, zaf, zag, zah, zai, zaj, zak, zal, zam, zan, zao, zap, zaq, zar, zas, zat, zau, zav, zaw, zax, zay, zaz, zba, zbb, zbc, zbd, zbe, zbf, zbg, zbh, zbi, zbj, Nat.reduceBEq, Bool.or_self, Bool.or_false, Bool.or_true, Bool.and_true, Bool.and_false, Bool.true_and, Bool.false_and, Option.isNone_none, Option.isNone_some, Option.isSome_some, Option.isSome_none, zbk, zbl, zbm, zbn, zbo, zbp, zbq, zbr, zbs, zbt, zbu, zbv, zbw, zbx, zby, zbz, zca, zcb, zcc, zcd, zce, zcf, zcg, zch, zci, zcj, zck, zcl, zcm, zcn, zco, zcp, zcq, zcr, zcs, zct, zcu, zcv, zcw, zcx, zcy, zcz, zda, zdb, zdc, zdd, zde, zdf, Option.getD_some, Option.getD_none, zet, zeu, zev, zew, zex, zey, zez, zfa, Option.map_some, Option.map_none, Option.bind_some, List.map_cons, List.map_nil, List.cons_append, List.nil_append, ↓reduceIte, Nat.reduceEqDiff, Nat.reduceAdd, decide_true, decide_false, Bool.true_eq_false, Bool.false_eq_true, env0, List.getElem?_cons_zero, List.getElem?_cons_succ, zdg, zdh, zdi, zdj, zdk, zdl, zdm, zdn, ia22, ld31, zdo, zdp, zeg, List.toList_toArray, len9, ix9, zeh, zei, zej, zek, zel, h1]
    exact finish_b _ _ _ _ _ _ _ ((by first | (simp only [zfa, ↓reduceIte, Nat.reduceEqDiff]; done) | (simp only [zfa, ↓reduceIte, Nat.reduceEqDiff]; rfl))) rfl
  by_cases h2 : (s.length : Int) > 40
  · have e : nameB s = false := by unfold nameB; rw [decide_eq_false (p := s.length ≤ 40) (by omega)]; simp
    rw [e]
    simp only [zaa, zab, zac, zad, zae, zaf, zag, zah, zai, zaj, zak, zal, zam, zan, zao, zap, zaq, zar, zas, zat, zau, zav, zaw, zax, zay, zaz, zba, zbb, zbc, zbd, zbe, zbf, zbg, zbh, zbi, zbj, Nat.reduceBEq, Bool.or_self, Bool.or_false, Bool.or_true, Bool.and_true, Bool.and_false, Bool.true_and, Bool.false_and, Option.isNone_none, Option.isNone_some, Option.isSome_some, Option.isSome_none, zbk, zbl, zbm, zbn, zbo, zbp, zbq, zbr, zbs, zbt, zbu, zbv, zbw, zbx, zby, zbz, zca, zcb, zcc, zcd, zce, zcf, zcg, zch, zci, zcj, zck, zcl, zcm, zcn, zco, zcp, zcq, zcr, zcs, zct, zcu, zcv, zcw, zcx, zcy, zcz, zda, zdb, zdc, zdd, zde, zdf, Option.getD_some, Option.getD_none, zet, zeu, zev, zew, zex, zey, zez, zfa, Option.map_some, Option.map_none, Option.bind_some, List.map_cons, List.map_nil, List.cons_append, List.nil_append, ↓reduceIte, Nat.reduceEqDiff, Nat.reduceAdd, decide_true, decide_false, Bool.true_eq_false, Bool.false_eq_true, env0, List.getElem?_cons_zero, List.getElem?_cons_succ, zdg, zdh, zdi, zdj, zdk, zdl, zdm, zdn, ia22, ld31, zdo, zdp, zeg, List.toList_toArray, len9, ix9, zeh, zei, zej, zek, zel, h1, h2]
    exact finish_b _ _ _ _ _ _ _ ((by first | (simp only [zfa, ↓reduceIte, Nat.reduceEqDiff]; done) | (simp only [zfa, ↓reduceIte, Nat.reduceEqDiff]; rfl))) rfl
  have e : nameB s = s.all okC := by unfold nameB; rw [decide_eq_true (by omega), decide_eq_true (by omega)]; rfl
  rw [e]
  simp only [zaa, zab, zac, zad, zae, zaf, zag, zah, zai, zaj, zak, zal, zam, zan, zao, zap, zaq, zar, zas, zat, zau, zav, zaw, zax, zay, zaz, zba, zbb, zbc, zbd, zbe, zbf, zbg, zbh, zbi, zbj, Nat.reduceBEq, Bool.or_self, Bool.or_false, Bool.or_true, Bool.and_true, Bool.and_false, Bool.true_and, Bool.false_and, Option.isNone_none, Option.isNone_some, Option.isSome_some, Option.isSome_none, zbk, zbl, zbm, zbn, zbo, zbp, zbq, zbr, zbs, zbt, zbu, zbv, zbw, zbx, zby, zbz, zca, zcb, zcc, zcd, zce, zcf, zcg, zch, zci, zcj, zck, zcl, zcm, zcn, zco, zcp, zcq, zcr, zcs, zct, zcu, zcv, zcw, zcx, zcy, zcz, zda, zdb, zdc, zdd, zde, zdf, Option.getD_some, Option.getD_none, zet, zeu, zev, zew, zex, zey, zez, zfa, Option.map_some, Option.map_none, Option.bind_some, List.map_cons, List.map_nil, List.cons_append, List.nil_append, ↓reduceIte, Nat.reduceEqDiff, Nat.reduceAdd, decide_true, decide_false, Bool.true_eq_false, Bool.false_eq_true, env0, List.getElem?_cons_zero, List.getElem?_cons_succ, zdg, zdh, zdi, zdj, zdk, zdl, zdm, zdn, ia22, ld31, zdo, zdp, zeg, List.toList_toArray, len9, ix9, zeh, zei, zej, zek, zel, h1, h2, den_loop]
  refine loop_ends (X := Nat) (fun i env s' => env 0 = .str s ∧ env 13 = .int .i64 (s.length : Int) ∧ env 14 = .int .i64 (i : Int) ∧ i ≤ s.length ∧ (s.take i).all okC = true) (fun i => s.length - i) (fun _ => (.tree (.bool (s.all okC)), [[]])) ?_ n 0 _ _ (by omega) ⟨by simp only [zfa, ↓reduceIte, Nat.reduceEqDiff, env0, List.getElem?_cons_zero, List.getElem?_cons_succ], by simp only [zfa, ↓reduceIte, Nat.reduceEqDiff], by simp only [zfa, ↓reduceIte, Nat.reduceEqDiff]; rfl, Nat.zero_le _, rfl⟩
  intro k i hx ih env st ⟨e0, e1, e2, hi, ha⟩
  by_cases hp : i = s.length
  · subst hp
    have q1 : ¬ ((s.length : Int) < (s.length : Int)) := by omega
    rw [List.take_length] at ha
    rw [ha]
    simp only [zaa, zab, zac, zad, zae, zaf, zag, zah, zai, zaj, zak, zal, zam, zan, zao, zap, zaq, zar, zas, zat, zau, zav, zaw, zax, zay, zaz, zba, zbb, zbc, zbd, zbe, zbf, zbg, zbh, zbi, zbj, Nat.reduceBEq, Bool.or_self, Bool.or_false, Bool.or_true, Bool.and_true, Bool.and_false, Bool.true_and, Bool.false_and, Option.isNone_none, Option.isNone_some, Option.isSome_some, Option.isSome_none, zbk, zbl, zbm, zbn, zbo, zbp, zbq, zbr, zbs, zbt, zbu, zbv, zbw, zbx, zby, zbz, zca, zcb, zcc, zcd, zce, zcf, zcg, zch, zci, zcj, zck, zcl, zcm, zcn, zco, zcp, zcq, zcr, zcs, zct, zcu, zcv, zcw, zcx, zcy, zcz, zda, zdb, zdc, zdd, zde, zdf, Option.getD_some, Option.getD_none, zet, zeu, zev, zew, zex, zey, zez, zfa, Option.map_some, Option.map_none, Option.bind_some, List.map_cons, List.map_nil, List.cons_append, List.nil_append, ↓reduceIte, Nat.reduceEqDiff, Nat.reduceAdd, decide_true, decide_false, Bool.true_eq_false, Bool.false_eq_true, zdg, zdh, zdi, zdj, zdk, zdl, zdm, zdn, ia22, ld31, zdo, zdp, zeg, List.toList_toArray, len9, ix9, zeh, zei, zej, zek, zel, e0, e1, e2, q1]
    exact finish_b _ _ _ _ _ _ _ ((by first | (simp only [zfa, ↓reduceIte, Nat.reduceEqDiff]; done) | (simp only [zfa, ↓reduceIte, Nat.reduceEqDiff]; rfl))) rfl
  · have q1 : (i : Int) < (s.length : Int) := by omega
    have q2 : (0 : Int) ≤ (i : Int) ∧ (i : Int) < (s.length : Int) := by omega
    have f4 := i_add Tryd.prog 3 (i : Int) 1 (by omega) (by omega)
    have hs : s.take (i + 1) = s.take i ++ [s.getD i 0] := by
      rw [List.take_add_one, List.getD, List.getElem?_eq_getElem (by omega)]; rfl
    have ha1 : ∀ c, s.getD i 0 = c → okC c = true → (s.take (i + 1)).all okC = true := by
      intro c hc ho
      rw [hs, hc, List.all_append, ha]; simp [ho]
    have ha0 : ∀ c, s.getD i 0 = c → okC c = false → s.all okC = false := by
      intro c hc ho
      rw [List.all_eq_false]
      refine ⟨c, ?_, by rw [ho]; decide⟩
      rw [← hc, List.getD, List.getElem?_eq_getElem (by omega)]
      exact List.getElem_mem _
    generalize hc : s.getD i 0 = c at ha1 ha0
    replace ha1 := ha1 c rfl
    replace ha0 := ha0 c rfl
    by_cases c1 : (c.toNat : Int) < 33
    · rw [ha0 (by unfold okC; rw [decide_eq_false (by omega)]; rfl)]
      simp only [zaa, zab, zac, zad, zae, zaf, zag, zah, zai, zaj, zak, zal, zam, zan, zao, zap, zaq, zar, zas, zat, zau, zav, zaw, zax, zay, zaz, zba, zbb, zbc, zbd, zbe, zbf, zbg, zbh, zbi, zbj, Nat.reduceBEq, Bool.or_self, Bool.or_false, Bool.or_true, Bool.and_true, Bool.and_false, Bool.true_and, Bool.false_and, Option.isNone_none, Option.isNone_some, Option.isSome_some, Option.isSome_none, zbk, zbl, zbm, zbn, zbo, zbp, zbq, zbr, zbs, zbt, zbu, zbv, zbw, zbx, zby, zbz, zca, zcb, zcc, zcd, zce, zcf, zcg, zch, zci, zcj, zck, zcl, zcm, zcn, zco, zcp, zcq, zcr, zcs, zct, zcu, zcv, zcw, zcx, zcy, zcz, zda, zdb, zdc, zdd, zde, zdf, Option.getD_some, Option.getD_none, zet, zeu, zev, zew, zex, zey, zez, zfa, Option.map_some, Option.map_none, Option.bind_some, List.map_cons, List.map_nil, List.cons_append, List.nil_append, ↓reduceIte, Nat.reduceEqDiff, Nat.reduceAdd, decide_true, decide_false, Bool.true_eq_false, Bool.false_eq_true, zdg, zdh, zdi, zdj, zdk, zdl, zdm, zdn, ia22, ld31, zdo, zdp, zeg, List.toList_toArray, len9, ix9, zeh, zei, zej, zek, zel, e0, e1, e2, q1, q2, and_self, Int.toNat_natCast, hc, c1]
      exact finish_b _ _ _ _ _ _ _ ((by first | (simp only [zfa, ↓reduceIte, Nat.reduceEqDiff]; done) | (simp only [zfa, ↓reduceIte, Nat.reduceEqDiff]; rfl))) rfl
    by_cases c2 : (c.toNat : Int) > 126
    · rw [ha0 (by unfold okC; rw [decide_eq_false (p := c.toNat ≤ 126) (by omega)]; simp)]
      simp only [zaa, zab, zac, zad, zae, zaf, zag, zah, zai, zaj, zak, zal, zam, zan, zao, zap, zaq, zar, zas, zat, zau, zav, zaw, zax, zay, zaz, zba, zbb, zbc, zbd, zbe, zbf, zbg, zbh, zbi, zbj, Nat.reduceBEq, Bool.or_self, Bool.or_false, Bool.or_true, Bool.and_true, Bool.and_false, Bool.true_and, Bool.false_and, Option.isNone_none, Option.isNone_some, Option.isSome_some, Option.isSome_none, zbk, zbl, zbm, zbn, zbo, zbp, zbq, zbr, zbs, zbt, zbu, zbv, zbw, zbx, zby, zbz, zca, zcb, zcc, zcd, zce, zcf, zcg, zch, zci, zcj, zck, zcl, zcm, zcn, zco, zcp, zcq, zcr, zcs, zct, zcu, zcv, zcw, zcx, zcy, zcz, zda, zdb, zdc, zdd, zde, zdf, Option.getD_some, Option.getD_none, zet, zeu, zev, zew, zex, zey, zez, zfa, Option.map_some, Option.map_none, Option.bind_some, List.map_cons, List.map_nil, List.cons_append, List.nil_append, ↓reduceIte, Nat.reduceEqDiff, Nat.reduceAdd, decide_true, decide_false, Bool.true_eq_false, Bool.false_eq_true, zdg, zdh, zdi, zdj, zdk, zdl, zdm, zdn, ia22, ld31, zdo, zdp, zeg, List.toList_toArray, len9, ix9, zeh, zei, zej, zek, zel, e0, e1, e2, q1, q2, and_self, Int.toNat_natCast, hc, c1, c2]
      exact finish_b _ _ _ _ _ _ _ ((by first | (simp only [zfa, ↓reduceIte, Nat.reduceEqDiff]; done) | (simp only [zfa, ↓reduceIte, Nat.reduceEqDiff]; rfl))) rfl
    · have ha1 := ha1 (by unfold okC; rw [decide_eq_true (by omega), decide_eq_true (by omega)]; rfl)
      simp only [zaa, zab, zac, zad, zae, zaf, zag, zah, zai, zaj, zak, zal, zam, zan, zao, zap, zaq, zar, zas, zat, zau, zav, zaw, zax, zay, zaz, zba, zbb, zbc, zbd, zbe, zbf, zbg, zbh, zbi, zbj, Nat.reduceBEq, Bool.or_self, Bool.or_false, Bool.or_true, Bool.and_true, Bool.and_false, Bool.true_and, Bool.false_and, Option.isNone_none, Option.isNone_some, Option.isSome_some, Option.isSome_none, zbk, zbl, zbm, zbn, zbo, zbp, zbq, zbr, zbs, zbt, zbu, zbv, zbw, zbx, zby, zbz, zca, zcb, zcc, zcd, zce, zcf, zcg, zch, zci, zcj, zck, zcl, zcm, zcn, zco, zcp, zcq, zcr, zcs, zct, zcu, zcv, zcw, zcx, zcy, zcz, zda, zdb, zdc, zdd, zde, zdf, Option.getD_some, Option.getD_none, zet, zeu, zev, zew, zex, zey, zez, zfa, Option.map_some, Option.map_none, Option.bind_some, List.map_cons, List.map_nil, List.cons_append, List.nil_append, ↓reduceIte, Nat.reduceEqDiff, Nat.reduceAdd, decide_true, decide_false, Bool.true_eq_false, Bool.false_eq_true, zdg, zdh, zdi, zdj, zdk, zdl, zdm, zdn, ia22, ld31, zdo, zdp, zeg, List.toList_toArray, len9, ix9, zeh, zei, zej, zek, zel, e0, e1, e2, q1, q2, and_self, Int.toNat_natCast, hc, c1, c2, f4]
      refine ih (i + 1) _ _ (by omega) rfl ⟨?_, ?_, ?_, by omega, ha1⟩
      · simp only [zfa, ↓reduceIte, Nat.reduceEqDiff, e0]
      · simp only [zfa, ↓reduceIte, Nat.reduceEqDiff, e1]
      · simp only [zfa, ↓reduceIte, Nat.reduceEqDiff]; rfl

/-- Is a term right, but for what it is made of? -/
def ownT : T → Bool
  | .mk k b _ l s n _ ks => decide (1 ≤ k ∧ k ≤ 6) && ((if k = 1 then chkN b l else zeroB b l) && (if k = 2 then nameB s else if k = 6 then decide (s.length ≤ 400) else s == []) && (if k = 4 then decide (ks.length = 2) else if k = 5 then decide (ks.length ≤ 40) else decide (ks.length = 0)) && decide (n = 0))
def limT : T → List Nat
  | .mk _ _ _ l _ _ _ _ => l
theorem natEq (x y : Nat) : ((x : Int) == (y : Int)) = decide (x = y) := by rw [Bool.eq_iff_iff, beq_iff_eq, decide_eq_true_eq]; omega
theorem natEq0 (x : Nat) : ((x : Int) == 0) = decide (x = 0) := natEq x 0
theorem natEq2 (x : Nat) : ((x : Int) == 2) = decide (x = 2) := natEq x 2
theorem intEq0 (x : Int) : (x == 0) = decide (x = 0) := by rw [Bool.eq_iff_iff, beq_iff_eq, decide_eq_true_eq]
theorem i_eqlV (x y : Int) : binA Tryd.prog .eql 3 (.int .i64 x) (.int .i64 y) = some (.bool (x == y)) := rfl
theorem i_leqV (x y : Int) : binA Tryd.prog .leq 3 (.int .i64 x) (.int .i64 y) = some (.bool (decide (x ≤ y))) := rfl
section
variable {P : Program} {cfg : Cfg} {call : FuncId → List Arg → Option Out} {n : Nat}
theorem den_assoc (a b c : Code) (K : Kont) (env : Env) (s : St) : den P cfg call n (.seq a (.seq b c)) K env s = den P cfg call n (.seq (.seq a b) c) K env s := by
  rw [zaa, zaa, zaa]
  congr 1
  funext e env s
  cases e <;> rfl
/-- A sequence in two: what is true between them. -/
theorem seq_cut {a b : Code} {K : Kont} {env : Env} {s : St} {out : Option Out} (I : Env → St → Prop) (h2 : ∀ env s, I env s → den P cfg call n b K env s = out)
    (h1 : ∀ K' : Kont, (∀ env s, I env s → K' .normal env s = out) → (∀ env s, K' .ret env s = K .ret env s) → (∀ i env s, K' (.exit i) env s = K (.exit i) env s) → den P cfg call n a K' env s = out) : den P cfg call n (.seq a b) K env s = out :=
  h1 (seqK P cfg call n b K) (fun env s h => h2 env s h) (fun _ _ => rfl) (fun _ _ _ => rfl)
end
set_option maxHeartbeats 8000000 in
theorem own_eq (n d : Nat) (hn : 100 ≤ n) (k : Int) (b : Bool) (lg : Gk) (l : List Nat) (hl : Limbs l) (s : List UInt8) (m : Int) (kg : Gk) (ks : List T) :
    evalFn Tryd.prog cfg0 n (d+2) 46 [.tree (encT (.mk k b lg l s m kg ks))] = some (.tree (.bool (ownT (.mk k b lg l s m kg ks))), [[]]) := by
  rw [evalFn_go _ Tryd.func46 (by unfold Tryd.f46; rfl) (by unfold Tryd.f46; decide) (Nat.le_of_ble_eq_true (by unfold Tryd.f46; rfl)) (by kernel_rfl)]
  have c1 := callQ_trees (f := 68) (vs := [.agg [.bool b, encL lg l]]) rfl (zeroN_eq n d b lg l)
  have c2 := fun D st => callA_trees (cfg := cfg0) (d := D) (s := st) (f := 68) (vs := [.agg [.bool b, encL lg l]]) rfl (zeroN_eq n d b lg l)
  have c3 := fun D st => callA_trees (cfg := cfg0) (d := D) (s := st) (f := 69) (vs := [.agg [.bool b, encL lg l]]) rfl (check_eq n d b lg l hl)
  have c4 := fun D st => callA_trees (cfg := cfg0) (d := D) (s := st) (f := 70) (vs := [.str s]) rfl (name_eq n d hn s)
  by_cases hk : 1 ≤ k ∧ k ≤ 6
  · rw [den_assoc, den_assoc]
    refine seq_cut (fun env st => env 1 = .ptr 1 1 0 ∧ st 1 = ⟨1, .buf (cellsT (.mk k b lg l s m kg ks))⟩ ∧ env 3 = .bool (if k = 1 then chkN b l else zeroB b l) ∧ env 4 = .bool (if k = 2 then nameB s else if k = 6 then decide (s.length ≤ 400) else s == []) ∧ env 5 = .bool (if k = 4 then decide (ks.length = 2) else if k = 5 then decide (ks.length ≤ 40) else decide (ks.length = 0))) ?_ ?_
    · intro env st ⟨e1, j1, e3, e4, e5⟩
      have hr : ownT (.mk k b lg l s m kg ks) = ((if k = 1 then chkN b l else zeroB b l) && (if k = 2 then nameB s else if k = 6 then decide (s.length ≤ 400) else s == []) && (if k = 4 then decide (ks.length = 2) else if k = 5 then decide (ks.length ≤ 40) else decide (ks.length = 0)) && decide (m = 0)) := by
        simp only [ownT]; rw [decide_eq_true hk, Bool.true_and]
      rw [hr]
      generalize (if k = 1 then chkN b l else zeroB b l) = x3 at *
      generalize (if k = 2 then nameB s else if k = 6 then decide (s.length ≤ 400) else s == []) = x4 at *
      generalize (if k = 4 then decide (ks.length = 2) else if k = 5 then decide (ks.length ≤ 40) else decide (ks.length = 0)) = x5 at *
      cases x3 <;> cases x4 <;> cases x5 <;>
      · simp only [zaa, zab, zac, zad, zae, zaf, zag, zah, zai, zaj, zak, zal, zam, zan, zao, zap, zaq, zar, zas, zat, zau, zav, zaw, zax, zay, zaz, zba, zbb, zbc, zbd, zbe, zbf, zbg, zbh, zbi, zbj, Nat.reduceBEq, Bool.or_self, Bool.or_false, Bool.or_true, Bool.and_true, Bool.and_false, Bool.true_and, Bool.false_and, Option.isNone_none, Option.isNone_some, Option.isSome_some, Option.isSome_none, zbk, zbl, zbm, zbn, zbo, zbp, zbq, zbr, zbs, zbt, zbu, zbv, zbw, zbx, zby, zbz, zca, zcb, zcc, zcd, zce, zcf, zcg, zch, zci, zcj, zck, zcl, zcm, zcn, zco, zcp, zcq, zcr, zcs, zct, zcu, zcv, zcw, zcx, zcy, zcz, zda, zdb, zdc, zdd, zde, zdf, Option.getD_some, Option.getD_none, zet, zeu, zev, zew, zex, zey, zez, zfa, Option.map_some, Option.map_none, Option.bind_some, List.map_cons, List.map_nil, List.cons_append, List.nil_append, ↓reduceIte, Nat.reduceEqDiff, Nat.reduceAdd, decide_true, decide_false, Bool.true_eq_false, Bool.false_eq_true, env0, List.getElem?_cons_zero, List.getElem?_cons_succ, zdg, zdh, zdi, zdj, zdk, zdl, zdm, zdn, ia22, ld31, zdo, zdp, zeg, List.toList_toArray, len9, ix9, zeh, zei, zej, zek, zel, zdq, zdr, zds, zdt, zdu, zdv, zdw, zdx, zdy, zdz, zea, zeb, zec, fa_0, fa_1, zed, bd_0, bd_2, zee, fd_1, zef, Nat.zero_add, e1, j1, e3, e4, e5, cellsT, faT_0, faT_1, faT_2, faT_3, faT_4, ldT_0, ldT_1, ldT_2, ldT_3, ldT_4, i_eqlV, intEq0]
        exact finish_b _ _ _ _ _ _ _ ((by first | (simp only [zfa, ↓reduceIte, Nat.reduceEqDiff]; done) | (simp only [zfa, ↓reduceIte, Nat.reduceEqDiff]; rfl))) rfl
    · intro K hN hR hE
      have hc : k = 1 ∨ k = 2 ∨ k = 3 ∨ k = 4 ∨ k = 5 ∨ k = 6 := by omega
      rcases hc with rfl | rfl | rfl | rfl | rfl | rfl <;>
      · simp only [zaa, zab, zac, zad, zae, zaf, zag, zah, zai, zaj, zak, zal, zam, zan, zao, zap, zaq, zar, zas, zat, zau, zav, zaw, zax, zay, zaz, zba, zbb, zbc, zbd, zbe, zbf, zbg, zbh, zbi, zbj, Nat.reduceBEq, Bool.or_self, Bool.or_false, Bool.or_true, Bool.and_true, Bool.and_false, Bool.true_and, Bool.false_and, Option.isNone_none, Option.isNone_some, Option.isSome_some, Option.isSome_none, zbk, zbl, zbm, zbn, zbo, zbp, zbq, zbr, zbs, zbt, zbu, zbv, zbw, zbx, zby, zbz, zca, zcb, zcc, zcd, zce, zcf, zcg, zch, zci, zcj, zck, zcl, zcm, zcn, zco, zcp, zcq, zcr, zcs, zct, zcu, zcv, zcw, zcx, zcy, zcz, zda, zdb, zdc, zdd, zde, zdf, Option.getD_some, Option.getD_none, zet, zeu, zev, zew, zex, zey, zez, zfa, Option.map_some, Option.map_none, Option.bind_some, List.map_cons, List.map_nil, List.cons_append, List.nil_append, ↓reduceIte, Nat.reduceEqDiff, Nat.reduceAdd, decide_true, decide_false, Bool.true_eq_false, Bool.false_eq_true, env0, List.getElem?_cons_zero, List.getElem?_cons_succ, zdg, zdh, zdi, zdj, zdk, zdl, zdm, zdn, ia22, ld31, zdo, zdp, zeg, List.toList_toArray, len9, ix9, zeh, zei, zej, zek, zel, zdq, zdr, zds, zdt, zdu, zdv, zdw, zdx, zdy, zdz, zea, zeb, zec, fa_0, fa_1, zed, bd_0, bd_2, zee, fd_1, zef, Nat.zero_add, encT, cellsT, faT_0, faT_1, faT_2, faT_3, faT_4, ldT_0, ldT_1, ldT_2, ldT_3, ldT_4, c1, c2, c3, c4, lenTk, i_eqlV, i_leqV, Int.reduceBEq]
        refine hN _ _ ⟨(by first | (simp only [zfa, ↓reduceIte, Nat.reduceEqDiff]; done) | (simp only [zfa, ↓reduceIte, Nat.reduceEqDiff]; rfl)), (by first | (simp only [zfa, ↓reduceIte, Nat.reduceEqDiff]; done) | (simp only [zfa, ↓reduceIte, Nat.reduceEqDiff]; rfl)), ?_, ?_, ?_⟩
        · first | (simp only [zfa, ↓reduceIte, Nat.reduceEqDiff, Int.reduceEq]; done) | (simp only [zfa, ↓reduceIte, Nat.reduceEqDiff, Int.reduceEq]; rfl)
        · first | (simp only [zfa, ↓reduceIte, Nat.reduceEqDiff, Int.reduceEq, natEq0, natEq2]; done) | (simp only [zfa, ↓reduceIte, Nat.reduceEqDiff, Int.reduceEq, natEq0, natEq2]; rfl) | (simp [zfa]; done) | (simp [zfa]; omega)
        · first | (simp only [zfa, ↓reduceIte, Nat.reduceEqDiff, Int.reduceEq, natEq0, natEq2]; done) | (simp only [zfa, ↓reduceIte, Nat.reduceEqDiff, Int.reduceEq, natEq0, natEq2]; rfl) | (simp [zfa, natEq0, natEq2]; done) | (simp [zfa, natEq0, natEq2]; omega)
  · have hr : ownT (.mk k b lg l s m kg ks) = false := by simp only [ownT]; rw [decide_eq_false hk, Bool.false_and]
    rw [hr]
    have n1 : (k == 1) = false := by rw [beq_eq_false_iff_ne]; omega
    have n2 : (k == 2) = false := by rw [beq_eq_false_iff_ne]; omega
    have n3 : (k == 3) = false := by rw [beq_eq_false_iff_ne]; omega
    have n4 : (k == 4) = false := by rw [beq_eq_false_iff_ne]; omega
    have n5 : (k == 5) = false := by rw [beq_eq_false_iff_ne]; omega
    have n6 : (k == 6) = false := by rw [beq_eq_false_iff_ne]; omega
    simp only [zaa, zab, zac, zad, zae, zaf, zag, zah, zai, zaj, zak, zal, zam, zan, zao, zap, zaq, zar, zas, zat, zau, zav, zaw, zax, zay, zaz, zba, zbb, zbc, zbd, zbe, zbf, zbg, zbh, zbi, zbj, Nat.reduceBEq, Bool.or_self, Bool.or_false, Bool.or_true, Bool.and_true, Bool.and_false, Bool.true_and, Bool.false_and, Option.isNone_none, Option.isNone_some, Option.isSome_some, Option.isSome_none, zbk, zbl, zbm, zbn, zbo, zbp, zbq, zbr, zbs, zbt, zbu, zbv, zbw, zbx, zby, zbz, zca, zcb, zcc, zcd, zce, zcf, zcg, zch, zci, zcj, zck, zcl, zcm, zcn, zco, zcp, zcq, zcr, zcs, zct, zcu, zcv, zcw, zcx, zcy, zcz, zda, zdb, zdc, zdd, zde, zdf, Option.getD_some, Option.getD_none, zet, zeu, zev, zew, zex, zey, zez, zfa, Option.map_some, Option.map_none, Option.bind_some, List.map_cons, List.map_nil, List.cons_append, List.nil_append, ↓reduceIte, Nat.reduceEqDiff, Nat.reduceAdd, decide_true, decide_false, Bool.true_eq_false, Bool.false_eq_true, env0, List.getElem?_cons_zero, List.getElem?_cons_succ, zdg, zdh, zdi, zdj, zdk, zdl, zdm, zdn, ia22, ld31, zdo, zdp, zeg, List.toList_toArray, len9, ix9, zeh, zei, zej, zek, zel, zdq, zdr, zds, zdt, zdu, zdv, zdw, zdx, zdy, zdz, zea, zeb, zec, fa_0, fa_1, zed, bd_0, bd_2, zee, fd_1, zef, Nat.zero_add, encT, cellsT, faT_0, faT_1, faT_2, faT_3, faT_4, ldT_0, ldT_1, ldT_2, ldT_3, ldT_4, c1, c2, c3, c4, lenTk, i_eqlV, n1, n2, n3, n4, n5, n6]
    exact finish_b _ _ _ _ _ _ _ ((by first | (simp only [zfa, ↓reduceIte, Nat.reduceEqDiff]; done) | (simp only [zfa, ↓reduceIte, Nat.reduceEqDiff]; rfl))) rfl
end Go.Ab

/- term.check. Conditions: limbs in range; so many nodes at most. -/
namespace Go.Ab
open Go.Proofs
set_option maxRecDepth 100000
set_option linter.unusedSimpArgs false

mutual
/-- What term.check tells, and what it leaves of the count. -/
def chkT : T → Int → Int → Bool × Int
  | .mk k b lg l s n kg ks, deep, left =>
    if left - 1 < 0 ∨ deep > 60 ∨ ownT (.mk k b lg l s n kg ks) = false then (false, left - 1)
    else if k = 4 then chkC ks deep (left - 1) else chkK ks (deep + 1) (left - 1)
def chkC : List T → Int → Int → Bool × Int
  | [], _, left => (false, left)
  | h :: r, deep, left => if (chkT h (deep + 1) left).1 = true then chkL r deep (chkT h (deep + 1) left).2 else chkT h (deep + 1) left
def chkL : List T → Int → Int → Bool × Int
  | [], _, left => (false, left)
  | t :: _, deep, left => chkT t deep left
def chkK : List T → Int → Int → Bool × Int
  | [], _, left => (true, left)
  | t :: r, deep, left => if (chkT t deep left).1 = true then chkK r deep (chkT t deep left).2 else chkT t deep left
end
theorem own_kids {k : Int} {b : Bool} {lg : Gk} {l : List Nat} {s : List UInt8} {n : Int} {kg : Gk} {ks : List T} (h : ownT (.mk k b lg l s n kg ks) = true) (hk : k = 4) : ∃ x y, ks = [x, y] := by
  subst hk
  simp only [ownT, ↓reduceIte, Bool.and_eq_true, decide_eq_true_eq] at h
  match ks, h.2.1.2 with
  | [x, y], _ => exact ⟨x, y, rfl⟩
mutual
theorem chkT_nod : ∀ (t : T) (deep left : Int), (chkT t deep left).1 = true → (chkT t deep left).2 = left - nodT t ∧ 0 ≤ (chkT t deep left).2
  | .mk k b lg l s n kg ks, deep, left => by
    simp only [chkT, nodT]
    split
    · intro h; cases h
    · rename_i h
      split
      · rename_i hk
        have ho : ownT (.mk k b lg l s n kg ks) = true := by
          cases h0 : ownT (.mk k b lg l s n kg ks)
          · exact absurd (.inr (.inr h0)) h
          · rfl
        obtain ⟨x, y, rfl⟩ := own_kids ho hk
        intro hc
        have := chkC_nod [x, y] deep (left - 1) rfl hc
        omega
      · intro hc
        have := chkK_nod ks (deep + 1) (left - 1) (by omega) hc
        omega
theorem chkC_nod : ∀ (ks : List T) (deep left : Int), ks.length = 2 → (chkC ks deep left).1 = true → (chkC ks deep left).2 = left - nodK ks ∧ 0 ≤ (chkC ks deep left).2
  | [], deep, left, _ => by intro h; cases h
  | h :: r, deep, left, hl => by
    simp only [chkC, nodK]
    split
    · rename_i h1
      have a := chkT_nod h (deep + 1) left h1
      intro h2
      have b := chkL_nod r deep _ (by simpa using hl) h2
      omega
    · rename_i h1; intro h2; exact absurd h2 h1
theorem chkL_nod : ∀ (ks : List T) (deep left : Int), ks.length = 1 → (chkL ks deep left).1 = true → (chkL ks deep left).2 = left - nodK ks ∧ 0 ≤ (chkL ks deep left).2
  | [], deep, left, _ => by intro h; cases h
  | t :: r, deep, left, hl => by
    have hr : r = [] := by
      cases r with
      | nil => rfl
      | cons _ _ => simp at hl
    subst hr
    simp only [chkL, nodK, Nat.add_zero]
    exact chkT_nod t deep left
theorem chkK_nod : ∀ (ks : List T) (deep left : Int), 0 ≤ left → (chkK ks deep left).1 = true → (chkK ks deep left).2 = left - nodK ks ∧ 0 ≤ (chkK ks deep left).2
  | [], deep, left, h0 => by intro _; simp only [chkK, nodK]; omega
  | t :: r, deep, left, h0 => by
    simp only [chkK, nodK]
    split
    · rename_i h1
      have a := chkT_nod t deep left h1
      intro h2
      have b := chkK_nod r deep _ a.2 h2
      omega
    · rename_i h1; intro h2; exact absurd h2 h1
end
end Go.Ab

/- term.check, walked. Conditions: limbs in range; so many nodes at most. -/
namespace Go.Ab
open Go.Proofs
set_option maxRecDepth 100000
set_option linter.unusedSimpArgs false

theorem ldI1 (t k : Nat) (a : AV) : ldE Tryd.prog 3 ⟨t, .buf [a]⟩ k 0 = if t = k then some a else none := by
  rw [ldE, cellsE_buf]
  by_cases h : t = k
  · simp [h, partA, shTi]
  · simp [h]
def stI (e : Ent) (p k : Nat) (s : St) (v : AV) : Option St :=
  match e with | ⟨t', .buf xs⟩ => if t' = k then (if 0 < xs.length then some (upd s p ⟨t', .buf (xs.set 0 v)⟩) else none) else none | _ => none
theorem st_I (s : St) (p k : Nat) (kd : IntKind) (z : Int) : storeA Tryd.prog 3 s (.ptr p k 0) (.int kd z) = stI (s p) p k s (.int kd z) := by
  simp only [storeA, settle, Option.bind_some, stI]
  cases h : s p with
  | mk t c => cases c <;> simp [eszTi, cellOk]
theorem stI_buf (t k p : Nat) (s : St) (a v : AV) : stI ⟨t, .buf [a]⟩ p k s v = if t = k then some (upd s p ⟨t, .buf [v]⟩) else none := by
  simp [stI]
theorem sl_K1 (s : St) (h u : T) (g : Grip) : sliceA Tryd.prog 26 s (.sl (cellsK [h, u]) 2 g) none (some (.int .i64 1)) none = some (.sl (cellsK [h]) 1 .loose) := by
  have e : (cellsK [h, u]).length = 2 * 6 := cellsK_len [h, u]
  have e2 : (cellsK [h, u]).take (1 * 6) = cellsK [h] := cellsK_take [h, u] 1
  simp only [sliceA, tkTk, boundA, eszT, Option.isSome_none, Bool.false_eq_true, false_and, if_false, Option.bind_some]
  rw [if_pos (by decide)]
  simp only [Option.bind_some, e, ↓reduceIte]
  have e3 : (Int.toNat 1) * 6 = 1 * 6 := rfl
  rw [e3, e2]
  simp
theorem stT_len (e : Ent) (p k : Nat) (s : St) (ys : List AV) (t : Nat) (xs : List AV) (he : e = ⟨t, .buf xs⟩) (h1 : xs.length = 6) (h2 : ys.length = 6) : stT e p k s ys = if t = k then some (upd s p ⟨t, .buf ys⟩) else none := by
  subst he
  have h3 : splice xs 0 ys = ys := by
    simp only [splice, List.take_zero, List.nil_append, Nat.zero_add, h2]
    rw [List.drop_eq_nil_of_le (by omega), List.append_nil]
  simp only [stT, h1, h2, Nat.le_refl, ↓reduceIte, h3]
theorem st_Tt (s : St) (p k : Nat) (u : T) : storeA Tryd.prog 28 s (.ptr p k 0) (.agg (cellsT u)) = stT (s p) p k s (cellsT u) := by
  obtain ⟨a, b, c, d, e, f, g, h⟩ := u
  simp only [cellsT]
  exact st_T s p k _ _ _ _ _ _
theorem stT_6 (t k p : Nat) (s : St) (a b c d e f : AV) (u : T) : stT ⟨t, .buf [a, b, c, d, e, f]⟩ p k s (cellsT u) = if t = k then some (upd s p ⟨t, .buf (cellsT u)⟩) else none :=
  stT_len _ _ _ _ _ _ _ rfl rfl (cellsT_len u)
theorem stT_u (t k p : Nat) (s : St) (v u : T) : stT ⟨t, .buf (cellsT v)⟩ p k s (cellsT u) = if t = k then some (upd s p ⟨t, .buf (cellsT u)⟩) else none :=
  stT_len _ _ _ _ _ _ _ rfl (cellsT_len v) (cellsT_len u)
theorem ldT_u (t k : Nat) (u : T) : ldE Tryd.prog 28 ⟨t, .buf (cellsT u)⟩ k 0 = if t = k then some (.agg (cellsT u)) else none := by
  obtain ⟨a, b, c, d, e, f, g, h⟩ := u
  simp only [cellsT]
  exact ldT_a _ _ _ _ _ _ _ _
theorem callA_tip {cfg : Cfg} {call : FuncId → List Arg → Option Out} {D : Nat} {f : FuncId} {xs ys o : List AV} {kd : IntKind} {z : Int} {r : AV} (hc : call f [.tree (.agg ys), .tree (.int kd z), .ptr xs 0] = some (.tree r, [[], [], o])) (s : St) (p t : Nat) (hs : s p = ⟨t, .buf xs⟩) :
    callA cfg call D s f [.agg ys, .int kd z, .ptr p t 0] = some (r, upd s p ⟨t, .buf o⟩) := by
  simp [callA, argsA, argA, hs, givesL, givesOf, lendsL, lendsOf, hc, backA, resA]
theorem outs_3 (a b : AV) (xs ys : List AV) (s : St) (h : s 2 = ⟨0, .buf ys⟩) : outsA s 0 [.tree a, .tree b, .ptr xs 0] = some [[], [], ys] := by
  simp only [outsA, h, Option.bind_some, Option.map_some]
set_option maxHeartbeats 16000000 in
/-- term.check gives what is told, at a depth and with a count. -/
theorem tcheck_eq (n : Nat) (hn : 100 ≤ n) (hn2 : n ≤ 1000000) : ∀ (d : Nat) (t0 : T) (deep l0 : Int), htT t0 ≤ d → nodT t0 < n → wfT t0 → 0 ≤ deep → deep ≤ 1000 → 0 ≤ l0 → l0 ≤ 1000000 →
    evalFn Tryd.prog cfg0 n (d+3) 24 [.tree (encT t0), .tree (.int .i64 deep), .ptr [.int .i64 l0] 0] = some (.tree (.bool (chkT t0 deep l0).1), [[], [], [.int .i64 (chkT t0 deep l0).2]])
  | d, t0, deep, l0, hd, hnd, hw, h1, h2, h3, h4 => by
    have IH : ∀ (t : T) (deep l0 : Int), htT t + 1 ≤ d → nodT t < n → wfT t → 0 ≤ deep → deep ≤ 1000 → 0 ≤ l0 → l0 ≤ 1000000 →
      evalFn Tryd.prog cfg0 n (d+2) 24 [.tree (encT t), .tree (.int .i64 deep), .ptr [.int .i64 l0] 0] = some (.tree (.bool (chkT t deep l0).1), [[], [], [.int .i64 (chkT t deep l0).2]]) := by
      intro t deep l0 g1 g2 g3 g4 g5 g6 g7
      match d, g1 with
      | d + 1, g1 => exact tcheck_eq n hn hn2 d t deep l0 (by omega) g2 g3 g4 g5 g6 g7
    rw [evalFn_go _ Tryd.func24 (by unfold Tryd.f24; rfl) (by unfold Tryd.f24; decide) (Nat.le_of_ble_eq_true (by unfold Tryd.f24; rfl)) (by kernel_rfl)]
    simp only [zaa, zab, zac, zad, zae, zaf, zag, zah, zai, zaj, zak, zal, zam, zan, zao, zap, zaq, zar, zas, zat, zau, zav, zaw, zax, zay, zaz, zba, zbb, zbc, zbd, zbe, zbf, zbg, zbh, zbi, zbj, Nat.reduceBEq, Bool.or_self, Bool.or_false, Bool.or_true, Bool.and_true, Bool.and_false, Bool.true_and, Bool.false_and, Option.isNone_none, Option.isNone_some, Option.isSome_some, Option.isSome_none, zbk, zbl, zbm, zbn, zbo, zbp, zbq, zbr, zbs, zbt, zbu, zbv, zbw, zbx, zby, zbz, zca, zcb, zcc, zcd, zce, zcf, zcg, zch, zci, zcj, zck, zcl, zcm, zcn, zco, zcp, zcq, zcr, zcs, zct, zcu, zcv, zcw, zcx, zcy, zcz, zda, zdb, zdc, zdd, zde, zdf, Option.getD_some, Option.getD_none, zet, zeu, zev, zew, zex, zey, zez, zfa, Option.map_some, Option.map_none, Option.bind_some, List.map_cons, List.map_nil, List.cons_append, List.nil_append, ↓reduceIte, Nat.reduceEqDiff, Nat.reduceAdd, decide_true, decide_false, Bool.true_eq_false, Bool.false_eq_true, env0, List.getElem?_cons_zero, List.getElem?_cons_succ, zdq, zdr, zds, zdt, zdu, zdv, zdw, zdx, zdy, zdz, zea, zeb, zec, fa_0, fa_1, zed, bd_0, bd_2, zee, fd_1, zef, Nat.zero_add, encT, den_loop]
    refine loop_ends (X := T × Int) (fun x env s => env 1 = .int .i64 deep ∧ env 2 = .ptr 2 0 0 ∧ env 3 = .ptr 3 1 0 ∧ s 3 = ⟨1, .buf (cellsT x.1)⟩ ∧ s 2 = ⟨0, .buf [.int .i64 x.2]⟩ ∧ htT x.1 ≤ d ∧ nodT x.1 < n ∧ wfT x.1 ∧ 0 ≤ x.2 ∧ x.2 ≤ 1000000) (fun x => nodT x.1) (fun x => (.tree (.bool (chkT x.1 deep x.2).1), [[], [], [.int .i64 (chkT x.1 deep x.2).2]])) ?_ n (t0, l0) _ _ hnd ⟨(by first | (simp only [zfa, ↓reduceIte, Nat.reduceEqDiff]; done) | (simp only [zfa, ↓reduceIte, Nat.reduceEqDiff]; rfl)), (by first | (simp only [zfa, ↓reduceIte, Nat.reduceEqDiff]; done) | (simp only [zfa, ↓reduceIte, Nat.reduceEqDiff]; rfl)), (by first | (simp only [zfa, ↓reduceIte, Nat.reduceEqDiff]; done) | (simp only [zfa, ↓reduceIte, Nat.reduceEqDiff]; rfl)), (by first | (simp only [zfa, ↓reduceIte, Nat.reduceEqDiff]; done) | (simp only [zfa, ↓reduceIte, Nat.reduceEqDiff]; rfl)), (by first | (simp only [zfa, ↓reduceIte, Nat.reduceEqDiff]; done) | (simp only [zfa, ↓reduceIte, Nat.reduceEqDiff]; rfl)), hd, hnd, hw, h3, h4⟩
    rintro rd ⟨t, left⟩ hrd ih env st ⟨e1, e2, e3, j3, j2, hht, hnod, hwf, hl0, hl1⟩
    simp only at j3 j2 hht hnod hwf hl0 hl1
    obtain ⟨k, b, lg, l, s, m, kg, ks⟩ := t
    have hL : Limbs l := by simp only [wfT] at hwf; exact hwf.1
    have f0 := i_sub Tryd.prog 3 left 1 (by omega) (by omega)
    have co := fun D st => callA_trees (cfg := cfg0) (d := D) (s := st) (f := 46) (vs := [encT (.mk k b lg l s m kg ks)]) rfl (own_eq n d hn k b lg l hL s m kg ks)
    simp only [encT, cellsT] at co
    simp only [cellsT] at j3
    by_cases g1 : left - 1 < 0
    · have hr : chkT (.mk k b lg l s m kg ks) deep left = (false, left - 1) := by simp only [chkT]; rw [if_pos (.inl g1)]
      simp only [hr]
      simp only [zaa, zab, zac, zad, zae, zaf, zag, zah, zai, zaj, zak, zal, zam, zan, zao, zap, zaq, zar, zas, zat, zau, zav, zaw, zax, zay, zaz, zba, zbb, zbc, zbd, zbe, zbf, zbg, zbh, zbi, zbj, Nat.reduceBEq, Bool.or_self, Bool.or_false, Bool.or_true, Bool.and_true, Bool.and_false, Bool.true_and, Bool.false_and, Option.isNone_none, Option.isNone_some, Option.isSome_some, Option.isSome_none, zbk, zbl, zbm, zbn, zbo, zbp, zbq, zbr, zbs, zbt, zbu, zbv, zbw, zbx, zby, zbz, zca, zcb, zcc, zcd, zce, zcf, zcg, zch, zci, zcj, zck, zcl, zcm, zcn, zco, zcp, zcq, zcr, zcs, zct, zcu, zcv, zcw, zcx, zcy, zcz, zda, zdb, zdc, zdd, zde, zdf, Option.getD_some, Option.getD_none, zet, zeu, zev, zew, zex, zey, zez, zfa, Option.map_some, Option.map_none, Option.bind_some, List.map_cons, List.map_nil, List.cons_append, List.nil_append, ↓reduceIte, Nat.reduceEqDiff, Nat.reduceAdd, decide_true, decide_false, Bool.true_eq_false, Bool.false_eq_true, zdg, zdh, zdi, zdj, zdk, zdl, zdm, zdn, ia22, ld31, zdo, zdp, zdq, zdr, zds, zdt, zdu, zdv, zdw, zdx, zdy, zdz, zea, zeb, zec, fa_0, fa_1, zed, bd_0, bd_2, zee, fd_1, zef, Nat.zero_add, opA_nilc, nilE_ptr, cellsE_buf, Option.isSome_some, e1, e2, e3, j2, j3, ldI1, st_I, stI_buf, f0, g1]
      exact finish_b _ _ _ _ _ _ _ (by first | (simp only [zfa, ↓reduceIte, Nat.reduceEqDiff]; done) | (simp only [zfa, ↓reduceIte, Nat.reduceEqDiff]; rfl)) (outs_3 _ _ _ _ _ (by first | (simp only [zfa, ↓reduceIte, Nat.reduceEqDiff]; done) | (simp only [zfa, ↓reduceIte, Nat.reduceEqDiff]; rfl)))
    by_cases g2 : deep > 60
    · have hr : chkT (.mk k b lg l s m kg ks) deep left = (false, left - 1) := by simp only [chkT]; rw [if_pos (.inr (.inl g2))]
      simp only [hr]
      simp only [zaa, zab, zac, zad, zae, zaf, zag, zah, zai, zaj, zak, zal, zam, zan, zao, zap, zaq, zar, zas, zat, zau, zav, zaw, zax, zay, zaz, zba, zbb, zbc, zbd, zbe, zbf, zbg, zbh, zbi, zbj, Nat.reduceBEq, Bool.or_self, Bool.or_false, Bool.or_true, Bool.and_true, Bool.and_false, Bool.true_and, Bool.false_and, Option.isNone_none, Option.isNone_some, Option.isSome_some, Option.isSome_none, zbk, zbl, zbm, zbn, zbo, zbp, zbq, zbr, zbs, zbt, zbu, zbv, zbw, zbx, zby, zbz, zca, zcb, zcc, zcd, zce, zcf, zcg, zch, zci, zcj, zck, zcl, zcm, zcn, zco, zcp, zcq, zcr, zcs, zct, zcu, zcv, zcw, zcx, zcy, zcz, zda, zdb, zdc, zdd, zde, zdf, Option.getD_some, Option.getD_none, zet, zeu, zev, zew, zex, zey, zez, zfa, Option.map_some, Option.map_none, Option.bind_some, List.map_cons, List.map_nil, List.cons_append, List.nil_append, ↓reduceIte, Nat.reduceEqDiff, Nat.reduceAdd, decide_true, decide_false, Bool.true_eq_false, Bool.false_eq_true, zdg, zdh, zdi, zdj, zdk, zdl, zdm, zdn, ia22, ld31, zdo, zdp, zdq, zdr, zds, zdt, zdu, zdv, zdw, zdx, zdy, zdz, zea, zeb, zec, fa_0, fa_1, zed, bd_0, bd_2, zee, fd_1, zef, Nat.zero_add, opA_nilc, nilE_ptr, cellsE_buf, Option.isSome_some, e1, e2, e3, j2, j3, ldI1, st_I, stI_buf, f0, g1, g2]
      exact finish_b _ _ _ _ _ _ _ (by first | (simp only [zfa, ↓reduceIte, Nat.reduceEqDiff]; done) | (simp only [zfa, ↓reduceIte, Nat.reduceEqDiff]; rfl)) (outs_3 _ _ _ _ _ (by first | (simp only [zfa, ↓reduceIte, Nat.reduceEqDiff]; done) | (simp only [zfa, ↓reduceIte, Nat.reduceEqDiff]; rfl)))
    cases g3 : ownT (.mk k b lg l s m kg ks) with
    | false =>
      have hr : chkT (.mk k b lg l s m kg ks) deep left = (false, left - 1) := by simp only [chkT]; rw [if_pos (.inr (.inr g3))]
      rw [g3] at co
      simp only [hr]
      simp only [zaa, zab, zac, zad, zae, zaf, zag, zah, zai, zaj, zak, zal, zam, zan, zao, zap, zaq, zar, zas, zat, zau, zav, zaw, zax, zay, zaz, zba, zbb, zbc, zbd, zbe, zbf, zbg, zbh, zbi, zbj, Nat.reduceBEq, Bool.or_self, Bool.or_false, Bool.or_true, Bool.and_true, Bool.and_false, Bool.true_and, Bool.false_and, Option.isNone_none, Option.isNone_some, Option.isSome_some, Option.isSome_none, zbk, zbl, zbm, zbn, zbo, zbp, zbq, zbr, zbs, zbt, zbu, zbv, zbw, zbx, zby, zbz, zca, zcb, zcc, zcd, zce, zcf, zcg, zch, zci, zcj, zck, zcl, zcm, zcn, zco, zcp, zcq, zcr, zcs, zct, zcu, zcv, zcw, zcx, zcy, zcz, zda, zdb, zdc, zdd, zde, zdf, Option.getD_some, Option.getD_none, zet, zeu, zev, zew, zex, zey, zez, zfa, Option.map_some, Option.map_none, Option.bind_some, List.map_cons, List.map_nil, List.cons_append, List.nil_append, ↓reduceIte, Nat.reduceEqDiff, Nat.reduceAdd, decide_true, decide_false, Bool.true_eq_false, Bool.false_eq_true, zdg, zdh, zdi, zdj, zdk, zdl, zdm, zdn, ia22, ld31, zdo, zdp, zdq, zdr, zds, zdt, zdu, zdv, zdw, zdx, zdy, zdz, zea, zeb, zec, fa_0, fa_1, zed, bd_0, bd_2, zee, fd_1, zef, Nat.zero_add, opA_nilc, nilE_ptr, cellsE_buf, Option.isSome_some, e1, e2, e3, j2, j3, ldI1, st_I, stI_buf, f0, g1, g2, ldT_a, co, unA_not', Bool.not_false]
      exact finish_b _ _ _ _ _ _ _ (by first | (simp only [zfa, ↓reduceIte, Nat.reduceEqDiff]; done) | (simp only [zfa, ↓reduceIte, Nat.reduceEqDiff]; rfl)) (outs_3 _ _ _ _ _ (by first | (simp only [zfa, ↓reduceIte, Nat.reduceEqDiff]; done) | (simp only [zfa, ↓reduceIte, Nat.reduceEqDiff]; rfl)))
    | true =>
      rw [g3] at co
      have hg : ¬ (left - 1 < 0 ∨ deep > 60 ∨ ownT (.mk k b lg l s m kg ks) = false) := by rw [g3]; simp only [g1, g2, false_or]; decide
      have hgo : ∀ (K : Kont) (env : Env) (st : St) (i : Nat) (kid : T) (r : List T) (kl : List T), kl.drop i = kid :: r → i < kl.length := by
        intro K env st i kid r kl hd
        have := congrArg List.length hd
        simp only [List.length_drop, List.length_cons] at this
        omega
      by_cases hk : k = 4
      · obtain ⟨x, y, rfl⟩ := own_kids g3 hk
        subst hk
        have hwk : wfK [x, y] := by simp only [wfT] at hwf; exact hwf.2
        simp only [wfK, and_true] at hwk
        have hhk : max (htT x) (htT y) + 1 ≤ d := by simp only [htT, htK] at hht; omega
        have hnk : nodT x + nodT y + 1 < n := by simp only [nodT, nodK] at hnod; omega
        have hnk2 : nodT (.mk 4 b lg l s m kg [x, y]) = nodT x + nodT y + 1 := by simp only [nodT, nodK]; omega
        have hr : chkT (.mk 4 b lg l s m kg [x, y]) deep left = if (chkT x (deep + 1) (left - 1)).1 = true then chkT y deep (chkT x (deep + 1) (left - 1)).2 else chkT x (deep + 1) (left - 1) := by
          simp only [chkT]; rw [if_neg hg]; simp only [↓reduceIte, chkC, chkL]
        have hk' : ((4 : Int) == 4) = true := rfl
        simp only [List.length_cons, List.length_nil, Nat.zero_add, Nat.reduceAdd] at co
        have hk2 : ((4 : Int) != 4) = false := rfl
        have s1 := fun st => sl_K1 st x y (gr kg)
        have w1 : ∀ st, lenA Tryd.prog 26 st (.sl (cellsK [x]) 1 .loose) = some (.int .i64 1) := fun st => lenTk st _ 1 _
        simp only [zaa, zab, zac, zad, zae, zaf, zag, zah, zai, zaj, zak, zal, zam, zan, zao, zap, zaq, zar, zas, zat, zau, zav, zaw, zax, zay, zaz, zba, zbb, zbc, zbd, zbe, zbf, zbg, zbh, zbi, zbj, Nat.reduceBEq, Bool.or_self, Bool.or_false, Bool.or_true, Bool.and_true, Bool.and_false, Bool.true_and, Bool.false_and, Option.isNone_none, Option.isNone_some, Option.isSome_some, Option.isSome_none, zbk, zbl, zbm, zbn, zbo, zbp, zbq, zbr, zbs, zbt, zbu, zbv, zbw, zbx, zby, zbz, zca, zcb, zcc, zcd, zce, zcf, zcg, zch, zci, zcj, zck, zcl, zcm, zcn, zco, zcp, zcq, zcr, zcs, zct, zcu, zcv, zcw, zcx, zcy, zcz, zda, zdb, zdc, zdd, zde, zdf, Option.getD_some, Option.getD_none, zet, zeu, zev, zew, zex, zey, zez, zfa, Option.map_some, Option.map_none, Option.bind_some, List.map_cons, List.map_nil, List.cons_append, List.nil_append, ↓reduceIte, Nat.reduceEqDiff, Nat.reduceAdd, decide_true, decide_false, Bool.true_eq_false, Bool.false_eq_true, zdg, zdh, zdi, zdj, zdk, zdl, zdm, zdn, ia22, ld31, zdo, zdp, zdq, zdr, zds, zdt, zdu, zdv, zdw, zdx, zdy, zdz, zea, zeb, zec, fa_0, fa_1, zed, bd_0, bd_2, zee, fd_1, zef, Nat.zero_add, opA_nilc, nilE_ptr, cellsE_buf, Option.isSome_some, e1, e2, e3, j2, j3, ldI1, st_I, stI_buf, f0, g1, g2, ldT_a, co, unA_not', Bool.not_true, faT_0, faT_4, ldT_0, ldT_4, i_eqlV, hk', s1, w1, lenTk, den_loop, List.length_cons, List.length_nil, Nat.zero_add, Nat.reduceAdd]
        refine loop_ends (X := Bool) (fun z env s' => env 1 = .int .i64 deep ∧ env 2 = .ptr 2 0 0 ∧ env 3 = .ptr 3 1 0 ∧ env 35 = .sl (cellsK [x]) 1 .loose ∧ env 36 = .int .i64 1 ∧ env 37 = .int .i64 (if z = true then 1 else 0) ∧ s' 3 = ⟨1, .buf (cellsT (.mk 4 b lg l s m kg [x, y]))⟩ ∧ s' 2 = ⟨0, .buf [.int .i64 (if z = true then (chkT x (deep + 1) (left - 1)).2 else left - 1)]⟩ ∧ (z = true → (chkT x (deep + 1) (left - 1)).1 = true)) (fun z => if z = true then 0 else 1) (fun _ => (.tree (.bool (chkT (.mk 4 b lg l s m kg [x, y]) deep left).1), [[], [], [.int .i64 (chkT (.mk 4 b lg l s m kg [x, y]) deep left).2]])) ?_ n false _ _ (by simp only [Bool.false_eq_true, ↓reduceIte]; omega) ⟨(by first | (simp only [zfa, ↓reduceIte, Nat.reduceEqDiff, e1]; done) | (simp only [zfa, ↓reduceIte, Nat.reduceEqDiff, e1]; rfl)), (by first | (simp only [zfa, ↓reduceIte, Nat.reduceEqDiff, e2]; done) | (simp only [zfa, ↓reduceIte, Nat.reduceEqDiff, e2]; rfl)), (by first | (simp only [zfa, ↓reduceIte, Nat.reduceEqDiff, e3]; done) | (simp only [zfa, ↓reduceIte, Nat.reduceEqDiff, e3]; rfl)), (by first | (simp only [zfa, ↓reduceIte, Nat.reduceEqDiff]; done) | (simp only [zfa, ↓reduceIte, Nat.reduceEqDiff]; rfl)), (by first | (simp only [zfa, ↓reduceIte, Nat.reduceEqDiff]; done) | (simp only [zfa, ↓reduceIte, Nat.reduceEqDiff]; rfl)), (by first | (simp only [zfa, ↓reduceIte, Nat.reduceEqDiff]; done) | (simp only [zfa, ↓reduceIte, Nat.reduceEqDiff]; rfl)), by simp only [cellsT]; exact (by first | (simp only [zfa, ↓reduceIte, Nat.reduceEqDiff, j3]; done) | (simp only [zfa, ↓reduceIte, Nat.reduceEqDiff, j3]; rfl)), (by first | (simp only [zfa, ↓reduceIte, Nat.reduceEqDiff]; done) | (simp only [zfa, ↓reduceIte, Nat.reduceEqDiff]; rfl)), by intro h; cases h⟩
        rintro rr (_ | _) hrr ih2 env st ⟨e1, e2, e3, e35, e36, e37, j3, j2, hz⟩
        · simp only [Bool.false_eq_true, ↓reduceIte] at e37 j2
          have q1 : (0 : Int) < 1 := by decide
          have f5 := i_add Tryd.prog 3 0 1 (by omega) (by omega)
          have f6 := i_add Tryd.prog 3 deep 1 (by omega) (by omega)
          have cc := fun D => callA_tip (cfg := cfg0) (D := D) (IH x (deep + 1) (left - 1) (by omega) (by omega) hwk.1 (by omega) (by omega) (by omega) (by omega))
          have ia : ∀ st, indexAddrA Tryd.prog 26 st (.sl (cellsK [x]) 1 .loose) (.int .i64 0) = some (.rptr (cellsK [x])) := fun st => ia_K st [x] .loose 0 (Nat.zero_lt_succ _)
          have ld := fun st => ld_K st x []
          simp only [encT] at ld
          cases hx : (chkT x (deep + 1) (left - 1)).1 with
          | false =>
            rw [hx] at hr cc
            simp only [Bool.false_eq_true, ↓reduceIte] at hr
            rw [hr, hx]
            simp only [zaa, zab, zac, zad, zae, zaf, zag, zah, zai, zaj, zak, zal, zam, zan, zao, zap, zaq, zar, zas, zat, zau, zav, zaw, zax, zay, zaz, zba, zbb, zbc, zbd, zbe, zbf, zbg, zbh, zbi, zbj, Nat.reduceBEq, Bool.or_self, Bool.or_false, Bool.or_true, Bool.and_true, Bool.and_false, Bool.true_and, Bool.false_and, Option.isNone_none, Option.isNone_some, Option.isSome_some, Option.isSome_none, zbk, zbl, zbm, zbn, zbo, zbp, zbq, zbr, zbs, zbt, zbu, zbv, zbw, zbx, zby, zbz, zca, zcb, zcc, zcd, zce, zcf, zcg, zch, zci, zcj, zck, zcl, zcm, zcn, zco, zcp, zcq, zcr, zcs, zct, zcu, zcv, zcw, zcx, zcy, zcz, zda, zdb, zdc, zdd, zde, zdf, Option.getD_some, Option.getD_none, zet, zeu, zev, zew, zex, zey, zez, zfa, Option.map_some, Option.map_none, Option.bind_some, List.map_cons, List.map_nil, List.cons_append, List.nil_append, ↓reduceIte, Nat.reduceEqDiff, Nat.reduceAdd, decide_true, decide_false, Bool.true_eq_false, Bool.false_eq_true, zdg, zdh, zdi, zdj, zdk, zdl, zdm, zdn, ia22, ld31, zdo, zdp, zdq, zdr, zds, zdt, zdu, zdv, zdw, zdx, zdy, zdz, zea, zeb, zec, fa_0, fa_1, zed, bd_0, bd_2, zee, fd_1, zef, Nat.zero_add, opA_nilc, nilE_ptr, cellsE_buf, Option.isSome_some, e1, e2, e3, e35, e36, e37, j2, j3, q1, ia, ld, zeroT, st_Tt, stT_6, ldT_u, f6, cc, unA_not', Bool.not_false]
            exact finish_b _ _ _ _ _ _ _ (by first | (simp only [zfa, ↓reduceIte, Nat.reduceEqDiff]; done) | (simp only [zfa, ↓reduceIte, Nat.reduceEqDiff]; rfl)) (outs_3 _ _ _ _ _ (by first | (simp only [zfa, ↓reduceIte, Nat.reduceEqDiff]; done) | (simp only [zfa, ↓reduceIte, Nat.reduceEqDiff]; rfl)))
          | true =>
            rw [hx] at cc
            simp only [zaa, zab, zac, zad, zae, zaf, zag, zah, zai, zaj, zak, zal, zam, zan, zao, zap, zaq, zar, zas, zat, zau, zav, zaw, zax, zay, zaz, zba, zbb, zbc, zbd, zbe, zbf, zbg, zbh, zbi, zbj, Nat.reduceBEq, Bool.or_self, Bool.or_false, Bool.or_true, Bool.and_true, Bool.and_false, Bool.true_and, Bool.false_and, Option.isNone_none, Option.isNone_some, Option.isSome_some, Option.isSome_none, zbk, zbl, zbm, zbn, zbo, zbp, zbq, zbr, zbs, zbt, zbu, zbv, zbw, zbx, zby, zbz, zca, zcb, zcc, zcd, zce, zcf, zcg, zch, zci, zcj, zck, zcl, zcm, zcn, zco, zcp, zcq, zcr, zcs, zct, zcu, zcv, zcw, zcx, zcy, zcz, zda, zdb, zdc, zdd, zde, zdf, Option.getD_some, Option.getD_none, zet, zeu, zev, zew, zex, zey, zez, zfa, Option.map_some, Option.map_none, Option.bind_some, List.map_cons, List.map_nil, List.cons_append, List.nil_append, ↓reduceIte, Nat.reduceEqDiff, Nat.reduceAdd, decide_true, decide_false, Bool.true_eq_false, Bool.false_eq_true, zdg, zdh, zdi, zdj, zdk, zdl, zdm, zdn, ia22, ld31, zdo, zdp, zdq, zdr, zds, zdt, zdu, zdv, zdw, zdx, zdy, zdz, zea, zeb, zec, fa_0, fa_1, zed, bd_0, bd_2, zee, fd_1, zef, Nat.zero_add, opA_nilc, nilE_ptr, cellsE_buf, Option.isSome_some, e1, e2, e3, e35, e36, e37, j2, j3, q1, ia, ld, zeroT, st_Tt, stT_6, ldT_u, f6, cc, unA_not', Bool.not_true, f5]
            exact ih2 true _ _ (by decide) rfl ⟨(by first | (simp only [zfa, ↓reduceIte, Nat.reduceEqDiff, e1]; done) | (simp only [zfa, ↓reduceIte, Nat.reduceEqDiff, e1]; rfl)), (by first | (simp only [zfa, ↓reduceIte, Nat.reduceEqDiff, e2]; done) | (simp only [zfa, ↓reduceIte, Nat.reduceEqDiff, e2]; rfl)), (by first | (simp only [zfa, ↓reduceIte, Nat.reduceEqDiff, e3]; done) | (simp only [zfa, ↓reduceIte, Nat.reduceEqDiff, e3]; rfl)), (by first | (simp only [zfa, ↓reduceIte, Nat.reduceEqDiff, e35]; done) | (simp only [zfa, ↓reduceIte, Nat.reduceEqDiff, e35]; rfl)), (by first | (simp only [zfa, ↓reduceIte, Nat.reduceEqDiff, e36]; done) | (simp only [zfa, ↓reduceIte, Nat.reduceEqDiff, e36]; rfl)), (by first | (simp only [zfa, ↓reduceIte, Nat.reduceEqDiff]; done) | (simp only [zfa, ↓reduceIte, Nat.reduceEqDiff]; rfl)), (by first | (simp only [zfa, ↓reduceIte, Nat.reduceEqDiff, j3]; done) | (simp only [zfa, ↓reduceIte, Nat.reduceEqDiff, j3]; rfl)), (by first | (simp only [zfa, ↓reduceIte, Nat.reduceEqDiff]; done) | (simp only [zfa, ↓reduceIte, Nat.reduceEqDiff]; rfl)), fun _ => hx⟩
        · simp only [↓reduceIte] at e37 j2
          have hx := hz rfl
          have hcn := chkT_nod x (deep + 1) (left - 1) hx
          rw [hx] at hr
          simp only [↓reduceIte] at hr
          have q1 : ¬ (1 : Int) < 1 := by decide
          have ia : ∀ st, indexAddrA Tryd.prog 26 st (.sl (cellsK [x, y]) 2 (gr kg)) (.int .i64 1) = some (.rptr (cellsK [y])) := fun st => ia_K st [x, y] (gr kg) 1 (Nat.lt_succ_self _)
          have ld := fun st => ld_K st y []
          simp only [encT] at ld
          simp only [cellsT] at j3
          simp only [zaa, zab, zac, zad, zae, zaf, zag, zah, zai, zaj, zak, zal, zam, zan, zao, zap, zaq, zar, zas, zat, zau, zav, zaw, zax, zay, zaz, zba, zbb, zbc, zbd, zbe, zbf, zbg, zbh, zbi, zbj, Nat.reduceBEq, Bool.or_self, Bool.or_false, Bool.or_true, Bool.and_true, Bool.and_false, Bool.true_and, Bool.false_and, Option.isNone_none, Option.isNone_some, Option.isSome_some, Option.isSome_none, zbk, zbl, zbm, zbn, zbo, zbp, zbq, zbr, zbs, zbt, zbu, zbv, zbw, zbx, zby, zbz, zca, zcb, zcc, zcd, zce, zcf, zcg, zch, zci, zcj, zck, zcl, zcm, zcn, zco, zcp, zcq, zcr, zcs, zct, zcu, zcv, zcw, zcx, zcy, zcz, zda, zdb, zdc, zdd, zde, zdf, Option.getD_some, Option.getD_none, zet, zeu, zev, zew, zex, zey, zez, zfa, Option.map_some, Option.map_none, Option.bind_some, List.map_cons, List.map_nil, List.cons_append, List.nil_append, ↓reduceIte, Nat.reduceEqDiff, Nat.reduceAdd, decide_true, decide_false, Bool.true_eq_false, Bool.false_eq_true, zdg, zdh, zdi, zdj, zdk, zdl, zdm, zdn, ia22, ld31, zdo, zdp, zdq, zdr, zds, zdt, zdu, zdv, zdw, zdx, zdy, zdz, zea, zeb, zec, fa_0, fa_1, zed, bd_0, bd_2, zee, fd_1, zef, Nat.zero_add, opA_nilc, nilE_ptr, cellsE_buf, Option.isSome_some, e1, e2, e3, e35, e36, e37, j2, j3, q1, faT_0, faT_4, ldT_0, ldT_4, hk2, ia, ld, st_Tt, stT_6, List.length_cons, List.length_nil, Nat.zero_add, Nat.reduceAdd]
          exact ih (y, (chkT x (deep + 1) (left - 1)).2) _ _ (by simp only; omega) (by simp only [hr]) ⟨(by first | (simp only [zfa, ↓reduceIte, Nat.reduceEqDiff, e1]; done) | (simp only [zfa, ↓reduceIte, Nat.reduceEqDiff, e1]; rfl)), (by first | (simp only [zfa, ↓reduceIte, Nat.reduceEqDiff, e2]; done) | (simp only [zfa, ↓reduceIte, Nat.reduceEqDiff, e2]; rfl)), (by first | (simp only [zfa, ↓reduceIte, Nat.reduceEqDiff, e3]; done) | (simp only [zfa, ↓reduceIte, Nat.reduceEqDiff, e3]; rfl)), (by first | (simp only [zfa, ↓reduceIte, Nat.reduceEqDiff]; done) | (simp only [zfa, ↓reduceIte, Nat.reduceEqDiff]; rfl)), (by first | (simp only [zfa, ↓reduceIte, Nat.reduceEqDiff, j2]; done) | (simp only [zfa, ↓reduceIte, Nat.reduceEqDiff, j2]; rfl)), by simp only; omega, by simp only; omega, hwk.2, by simp only; omega, by simp only; omega⟩
      · have hr : chkT (.mk k b lg l s m kg ks) deep left = chkK ks (deep + 1) (left - 1) := by simp only [chkT]; rw [if_neg hg, if_neg hk]
        have hk' : (k == 4) = false := by rw [beq_eq_false_iff_ne]; exact hk
        have hk2 : (k != 4) = true := by rw [bne, hk']; rfl
        have hwk : wfK ks := by simp only [wfT] at hwf; exact hwf.2
        have hhk : htK ks + 1 ≤ d := by simp only [htT] at hht; exact hht
        have hnk : nodK ks + 1 < n := by simp only [nodT] at hnod; exact hnod
        simp only [hr]
        generalize hR : chkK ks (deep + 1) (left - 1) = R
        simp only [zaa, zab, zac, zad, zae, zaf, zag, zah, zai, zaj, zak, zal, zam, zan, zao, zap, zaq, zar, zas, zat, zau, zav, zaw, zax, zay, zaz, zba, zbb, zbc, zbd, zbe, zbf, zbg, zbh, zbi, zbj, Nat.reduceBEq, Bool.or_self, Bool.or_false, Bool.or_true, Bool.and_true, Bool.and_false, Bool.true_and, Bool.false_and, Option.isNone_none, Option.isNone_some, Option.isSome_some, Option.isSome_none, zbk, zbl, zbm, zbn, zbo, zbp, zbq, zbr, zbs, zbt, zbu, zbv, zbw, zbx, zby, zbz, zca, zcb, zcc, zcd, zce, zcf, zcg, zch, zci, zcj, zck, zcl, zcm, zcn, zco, zcp, zcq, zcr, zcs, zct, zcu, zcv, zcw, zcx, zcy, zcz, zda, zdb, zdc, zdd, zde, zdf, Option.getD_some, Option.getD_none, zet, zeu, zev, zew, zex, zey, zez, zfa, Option.map_some, Option.map_none, Option.bind_some, List.map_cons, List.map_nil, List.cons_append, List.nil_append, ↓reduceIte, Nat.reduceEqDiff, Nat.reduceAdd, decide_true, decide_false, Bool.true_eq_false, Bool.false_eq_true, zdg, zdh, zdi, zdj, zdk, zdl, zdm, zdn, ia22, ld31, zdo, zdp, zdq, zdr, zds, zdt, zdu, zdv, zdw, zdx, zdy, zdz, zea, zeb, zec, fa_0, fa_1, zed, bd_0, bd_2, zee, fd_1, zef, Nat.zero_add, opA_nilc, nilE_ptr, cellsE_buf, Option.isSome_some, e1, e2, e3, j2, j3, ldI1, st_I, stI_buf, f0, g1, g2, ldT_a, co, unA_not', Bool.not_true, faT_0, faT_4, ldT_0, ldT_4, i_eqlV, hk', lenTk, den_loop]
        refine loop_ends (X := Nat × Int) (fun x env s' => env 1 = .int .i64 deep ∧ env 2 = .ptr 2 0 0 ∧ env 3 = .ptr 3 1 0 ∧ env 35 = .sl (cellsK ks) ks.length (gr kg) ∧ env 36 = .int .i64 (ks.length : Int) ∧ env 37 = .int .i64 (x.1 : Int) ∧ s' 3 = ⟨1, .buf (cellsT (.mk k b lg l s m kg ks))⟩ ∧ s' 2 = ⟨0, .buf [.int .i64 x.2]⟩ ∧ x.1 ≤ ks.length ∧ 0 ≤ x.2 ∧ x.2 ≤ 1000000 ∧ chkK (ks.drop x.1) (deep + 1) x.2 = R) (fun x => ks.length - x.1) (fun _ => (.tree (.bool R.1), [[], [], [.int .i64 R.2]])) ?_ n (0, left - 1) _ _ (by have := nodK_len ks; simp only; omega) ⟨(by first | (simp only [zfa, ↓reduceIte, Nat.reduceEqDiff, e1]; done) | (simp only [zfa, ↓reduceIte, Nat.reduceEqDiff, e1]; rfl)), (by first | (simp only [zfa, ↓reduceIte, Nat.reduceEqDiff, e2]; done) | (simp only [zfa, ↓reduceIte, Nat.reduceEqDiff, e2]; rfl)), (by first | (simp only [zfa, ↓reduceIte, Nat.reduceEqDiff, e3]; done) | (simp only [zfa, ↓reduceIte, Nat.reduceEqDiff, e3]; rfl)), (by first | (simp only [zfa, ↓reduceIte, Nat.reduceEqDiff]; done) | (simp only [zfa, ↓reduceIte, Nat.reduceEqDiff]; rfl)), (by first | (simp only [zfa, ↓reduceIte, Nat.reduceEqDiff]; done) | (simp only [zfa, ↓reduceIte, Nat.reduceEqDiff]; rfl)), (by first | (simp only [zfa, ↓reduceIte, Nat.reduceEqDiff]; done) | (simp only [zfa, ↓reduceIte, Nat.reduceEqDiff]; rfl)), by simp only [cellsT]; exact (by first | (simp only [zfa, ↓reduceIte, Nat.reduceEqDiff, j3]; done) | (simp only [zfa, ↓reduceIte, Nat.reduceEqDiff, j3]; rfl)), (by first | (simp only [zfa, ↓reduceIte, Nat.reduceEqDiff]; done) | (simp only [zfa, ↓reduceIte, Nat.reduceEqDiff]; rfl)), Nat.zero_le _, by simp only; omega, by simp only; omega, hR⟩
        rintro rr ⟨i, lf⟩ hrr ih2 env st ⟨e1, e2, e3, e35, e36, e37, j3, j2, hi, hlf0, hlf1, hc⟩
        simp only at e37 j2 hi hlf0 hlf1 hc
        cases hd : ks.drop i with
        | nil =>
          have hil : i = ks.length := by have := congrArg List.length hd; simp only [List.length_drop, List.length_nil] at this; omega
          rw [hd] at hc
          simp only [chkK] at hc
          subst hc
          have q1 : ¬ ((i : Int) < (ks.length : Int)) := by omega
          simp only [cellsT] at j3
          simp only [zaa, zab, zac, zad, zae, zaf, zag, zah, zai, zaj, zak, zal, zam, zan, zao, zap, zaq, zar, zas, zat, zau, zav, zaw, zax, zay, zaz, zba, zbb, zbc, zbd, zbe, zbf, zbg, zbh, zbi, zbj, Nat.reduceBEq, Bool.or_self, Bool.or_false, Bool.or_true, Bool.and_true, Bool.and_false, Bool.true_and, Bool.false_and, Option.isNone_none, Option.isNone_some, Option.isSome_some, Option.isSome_none, zbk, zbl, zbm, zbn, zbo, zbp, zbq, zbr, zbs, zbt, zbu, zbv, zbw, zbx, zby, zbz, zca, zcb, zcc, zcd, zce, zcf, zcg, zch, zci, zcj, zck, zcl, zcm, zcn, zco, zcp, zcq, zcr, zcs, zct, zcu, zcv, zcw, zcx, zcy, zcz, zda, zdb, zdc, zdd, zde, zdf, Option.getD_some, Option.getD_none, zet, zeu, zev, zew, zex, zey, zez, zfa, Option.map_some, Option.map_none, Option.bind_some, List.map_cons, List.map_nil, List.cons_append, List.nil_append, ↓reduceIte, Nat.reduceEqDiff, Nat.reduceAdd, decide_true, decide_false, Bool.true_eq_false, Bool.false_eq_true, zdg, zdh, zdi, zdj, zdk, zdl, zdm, zdn, ia22, ld31, zdo, zdp, zdq, zdr, zds, zdt, zdu, zdv, zdw, zdx, zdy, zdz, zea, zeb, zec, fa_0, fa_1, zed, bd_0, bd_2, zee, fd_1, zef, Nat.zero_add, opA_nilc, nilE_ptr, cellsE_buf, Option.isSome_some, e1, e2, e3, e35, e36, e37, j2, j3, q1, faT_0, faT_4, ldT_0, ldT_4, hk2]
          exact finish_b _ _ _ _ _ _ _ (by first | (simp only [zfa, ↓reduceIte, Nat.reduceEqDiff]; done) | (simp only [zfa, ↓reduceIte, Nat.reduceEqDiff]; rfl)) (outs_3 _ _ _ _ _ (by first | (simp only [zfa, ↓reduceIte, Nat.reduceEqDiff, j2]; done) | (simp only [zfa, ↓reduceIte, Nat.reduceEqDiff, j2]; rfl)))
        | cons kid r =>
          have hil : i < ks.length := by have := congrArg List.length hd; simp only [List.length_drop, List.length_cons] at this; omega
          rw [hd] at hc
          simp only [chkK] at hc
          have q1 : (i : Int) < (ks.length : Int) := by omega
          have f5 := i_add Tryd.prog 3 (i : Int) 1 (by omega) (by have := nodK_len ks; omega)
          have f6 := i_add Tryd.prog 3 deep 1 (by omega) (by omega)
          have kh := kids_ht ks i kid r hd
          have kn := kids_nod ks i kid r hd
          have kw := kids_wf ks i kid r hd hwk
          have cc := fun D => callA_tip (cfg := cfg0) (D := D) (IH kid (deep + 1) lf (by omega) (by omega) kw (by omega) (by omega) hlf0 hlf1)
          have ia := fun st => ia_K st ks (gr kg) i hil
          rw [hd] at ia
          have ld := fun st => ld_K st kid r
          simp only [encT] at ld
          cases hx : (chkT kid (deep + 1) lf).1 with
          | false =>
            rw [hx] at hc cc
            simp only [Bool.false_eq_true, ↓reduceIte] at hc
            rw [← hc, hx]
            simp only [zaa, zab, zac, zad, zae, zaf, zag, zah, zai, zaj, zak, zal, zam, zan, zao, zap, zaq, zar, zas, zat, zau, zav, zaw, zax, zay, zaz, zba, zbb, zbc, zbd, zbe, zbf, zbg, zbh, zbi, zbj, Nat.reduceBEq, Bool.or_self, Bool.or_false, Bool.or_true, Bool.and_true, Bool.and_false, Bool.true_and, Bool.false_and, Option.isNone_none, Option.isNone_some, Option.isSome_some, Option.isSome_none, zbk, zbl, zbm, zbn, zbo, zbp, zbq, zbr, zbs, zbt, zbu, zbv, zbw, zbx, zby, zbz, zca, zcb, zcc, zcd, zce, zcf, zcg, zch, zci, zcj, zck, zcl, zcm, zcn, zco, zcp, zcq, zcr, zcs, zct, zcu, zcv, zcw, zcx, zcy, zcz, zda, zdb, zdc, zdd, zde, zdf, Option.getD_some, Option.getD_none, zet, zeu, zev, zew, zex, zey, zez, zfa, Option.map_some, Option.map_none, Option.bind_some, List.map_cons, List.map_nil, List.cons_append, List.nil_append, ↓reduceIte, Nat.reduceEqDiff, Nat.reduceAdd, decide_true, decide_false, Bool.true_eq_false, Bool.false_eq_true, zdg, zdh, zdi, zdj, zdk, zdl, zdm, zdn, ia22, ld31, zdo, zdp, zdq, zdr, zds, zdt, zdu, zdv, zdw, zdx, zdy, zdz, zea, zeb, zec, fa_0, fa_1, zed, bd_0, bd_2, zee, fd_1, zef, Nat.zero_add, opA_nilc, nilE_ptr, cellsE_buf, Option.isSome_some, e1, e2, e3, e35, e36, e37, j2, j3, q1, ia, ld, zeroT, st_Tt, stT_6, ldT_u, f6, cc, unA_not', Bool.not_false]
            exact finish_b _ _ _ _ _ _ _ (by first | (simp only [zfa, ↓reduceIte, Nat.reduceEqDiff]; done) | (simp only [zfa, ↓reduceIte, Nat.reduceEqDiff]; rfl)) (outs_3 _ _ _ _ _ (by first | (simp only [zfa, ↓reduceIte, Nat.reduceEqDiff]; done) | (simp only [zfa, ↓reduceIte, Nat.reduceEqDiff]; rfl)))
          | true =>
            rw [hx] at hc cc
            simp only [↓reduceIte] at hc
            have hcn := chkT_nod kid (deep + 1) lf hx
            simp only [zaa, zab, zac, zad, zae, zaf, zag, zah, zai, zaj, zak, zal, zam, zan, zao, zap, zaq, zar, zas, zat, zau, zav, zaw, zax, zay, zaz, zba, zbb, zbc, zbd, zbe, zbf, zbg, zbh, zbi, zbj, Nat.reduceBEq, Bool.or_self, Bool.or_false, Bool.or_true, Bool.and_true, Bool.and_false, Bool.true_and, Bool.false_and, Option.isNone_none, Option.isNone_some, Option.isSome_some, Option.isSome_none, zbk, zbl, zbm, zbn, zbo, zbp, zbq, zbr, zbs, zbt, zbu, zbv, zbw, zbx, zby, zbz, zca, zcb, zcc, zcd, zce, zcf, zcg, zch, zci, zcj, zck, zcl, zcm, zcn, zco, zcp, zcq, zcr, zcs, zct, zcu, zcv, zcw, zcx, zcy, zcz, zda, zdb, zdc, zdd, zde, zdf, Option.getD_some, Option.getD_none, zet, zeu, zev, zew, zex, zey, zez, zfa, Option.map_some, Option.map_none, Option.bind_some, List.map_cons, List.map_nil, List.cons_append, List.nil_append, ↓reduceIte, Nat.reduceEqDiff, Nat.reduceAdd, decide_true, decide_false, Bool.true_eq_false, Bool.false_eq_true, zdg, zdh, zdi, zdj, zdk, zdl, zdm, zdn, ia22, ld31, zdo, zdp, zdq, zdr, zds, zdt, zdu, zdv, zdw, zdx, zdy, zdz, zea, zeb, zec, fa_0, fa_1, zed, bd_0, bd_2, zee, fd_1, zef, Nat.zero_add, opA_nilc, nilE_ptr, cellsE_buf, Option.isSome_some, e1, e2, e3, e35, e36, e37, j2, j3, q1, ia, ld, zeroT, st_Tt, stT_6, ldT_u, f6, cc, unA_not', Bool.not_true, f5]
            refine ih2 (i + 1, (chkT kid (deep + 1) lf).2) _ _ (by simp only; omega) rfl ⟨?_, ?_, ?_, ?_, ?_, ?_, ?_, ?_, by simp only; omega, by simp only; omega, by simp only; omega, by simp only; rw [drop_next hd]; exact hc⟩
            · simp only [zfa, ↓reduceIte, Nat.reduceEqDiff, e1]
            · simp only [zfa, ↓reduceIte, Nat.reduceEqDiff, e2]
            · simp only [zfa, ↓reduceIte, Nat.reduceEqDiff, e3]
            · simp only [zfa, ↓reduceIte, Nat.reduceEqDiff, e35]
            · simp only [zfa, ↓reduceIte, Nat.reduceEqDiff, e36]
            · simp only [zfa, ↓reduceIte, Nat.reduceEqDiff]; rfl
            · simp only [zfa, ↓reduceIte, Nat.reduceEqDiff, j3]
            · simp only [zfa, ↓reduceIte, Nat.reduceEqDiff]
end Go.Ab

/- term.Check, term.Nodes. Conditions: limbs in range; so many nodes at most. -/
namespace Go.Ab
open Go.Proofs
set_option maxRecDepth 100000
set_option linter.unusedSimpArgs false

theorem zeroI : zeroOf Tryd.prog 3 = some [.int .i64 0] := by kernel_rfl
theorem tCheck_eq (n : Nat) (hn : 100 ≤ n) (hn2 : n ≤ 1000000) (d : Nat) (t : T) (hd : htT t ≤ d) (hnd : nodT t < n) (hw : wfT t) :
    evalFn Tryd.prog cfg0 n (d+4) 10 [.tree (encT t)] = some (.tree (.bool (chkT t 1 2000).1), [[]]) := by
  rw [evalFn_go _ Tryd.func10 (by unfold Tryd.f10; rfl) (by unfold Tryd.f10; decide) (Nat.le_of_ble_eq_true (by unfold Tryd.f10; rfl)) (by kernel_rfl)]
  have cc := fun D => callA_tip (cfg := cfg0) (D := D) (tcheck_eq n hn hn2 d t 1 2000 hd hnd hw (by decide) (by decide) (by decide) (by decide))
  simp only [zaa, zab, zac, zad, zae, zaf, zag, zah, zai, zaj, zak, zal, zam, zan, zao, zap, zaq, zar, zas, zat, zau, zav, zaw, zax, zay, zaz, zba, zbb, zbc, zbd, zbe, zbf, zbg, zbh, zbi, zbj, Nat.reduceBEq, Bool.or_self, Bool.or_false, Bool.or_true, Bool.and_true, Bool.and_false, Bool.true_and, Bool.false_and, Option.isNone_none, Option.isNone_some, Option.isSome_some, Option.isSome_none, zbk, zbl, zbm, zbn, zbo, zbp, zbq, zbr, zbs, zbt, zbu, zbv, zbw, zbx, zby, zbz, zca, zcb, zcc, zcd, zce, zcf, zcg, zch, zci, zcj, zck, zcl, zcm, zcn, zco, zcp, zcq, zcr, zcs, zct, zcu, zcv, zcw, zcx, zcy, zcz, zda, zdb, zdc, zdd, zde, zdf, Option.getD_some, Option.getD_none, zet, zeu, zev, zew, zex, zey, zez, zfa, Option.map_some, Option.map_none, Option.bind_some, List.map_cons, List.map_nil, List.cons_append, List.nil_append, ↓reduceIte, Nat.reduceEqDiff, Nat.reduceAdd, decide_true, decide_false, Bool.true_eq_false, Bool.false_eq_true, env0, List.getElem?_cons_zero, List.getElem?_cons_succ, zdq, zdr, zds, zdt, zdu, zdv, zdw, zdx, zdy, zdz, zea, zeb, zec, fa_0, fa_1, zed, bd_0, bd_2, zee, fd_1, zef, Nat.zero_add, encT, zeroI, st_I, stI_buf, ldT_u, cc]
  exact finish_b _ _ _ _ _ _ _ (by first | (simp only [zfa, ↓reduceIte, Nat.reduceEqDiff]; done) | (simp only [zfa, ↓reduceIte, Nat.reduceEqDiff]; rfl)) rfl
set_option maxHeartbeats 8000000 in
theorem tNodes_eq (n : Nat) (hn2 : n ≤ 1000000) : ∀ (d : Nat) (t : T), htT t ≤ d → nodT t < n →
    evalFn Tryd.prog cfg0 n d 11 [.tree (encT t)] = some (.tree (.int .i64 (nodT t : Int)), [[]])
  | 0, t, hd, hnd => by obtain ⟨k, b, lg, l, s, m, kg, ks⟩ := t; simp only [htT] at hd; omega
  | d + 1, t, hd, hnd => by
    have IH := tNodes_eq n hn2 d
    rw [evalFn_go _ Tryd.func11 (by unfold Tryd.f11; rfl) (by unfold Tryd.f11; decide) (Nat.le_of_ble_eq_true (by unfold Tryd.f11; rfl)) (by kernel_rfl)]
    obtain ⟨k, b, lg, l, s, m, kg, ks⟩ := t
    simp only [htT] at hd
    simp only [nodT] at hnd ⊢
    simp only [zaa, zab, zac, zad, zae, zaf, zag, zah, zai, zaj, zak, zal, zam, zan, zao, zap, zaq, zar, zas, zat, zau, zav, zaw, zax, zay, zaz, zba, zbb, zbc, zbd, zbe, zbf, zbg, zbh, zbi, zbj, Nat.reduceBEq, Bool.or_self, Bool.or_false, Bool.or_true, Bool.and_true, Bool.and_false, Bool.true_and, Bool.false_and, Option.isNone_none, Option.isNone_some, Option.isSome_some, Option.isSome_none, zbk, zbl, zbm, zbn, zbo, zbp, zbq, zbr, zbs, zbt, zbu, zbv, zbw, zbx, zby, zbz, zca, zcb, zcc, zcd, zce, zcf, zcg, zch, zci, zcj, zck, zcl, zcm, zcn, zco, zcp, zcq, zcr, zcs, zct, zcu, zcv, zcw, zcx, zcy, zcz, zda, zdb, zdc, zdd, zde, zdf, Option.getD_some, Option.getD_none, zet, zeu, zev, zew, zex, zey, zez, zfa, Option.map_some, Option.map_none, Option.bind_some, List.map_cons, List.map_nil, List.cons_append, List.nil_append, ↓reduceIte, Nat.reduceEqDiff, Nat.reduceAdd, decide_true, decide_false, Bool.true_eq_false, Bool.false_eq_true, env0, List.getElem?_cons_zero, List.getElem?_cons_succ, zdq, zdr, zds, zdt, zdu, zdv, zdw, zdx, zdy, zdz, zea, zeb, zec, fa_0, fa_1, zed, bd_0, bd_2, zee, fd_1, zef, Nat.zero_add, encT, cellsT, faT_4, ldT_4, lenTk, den_loop]
    refine loop_ends (X := Nat) (fun i env s' => env 7 = .sl (cellsK ks) ks.length (gr kg) ∧ env 8 = .int .i64 (ks.length : Int) ∧ env 9 = .int .i64 (i : Int) ∧ env 3 = .int .i64 ((nodK (ks.take i) + 1 : Nat) : Int) ∧ i ≤ ks.length) (fun i => ks.length - i) (fun _ => (.tree (.int .i64 ((nodK ks + 1 : Nat) : Int)), [[]])) ?_ n 0 _ _ (by have := nodK_len ks; omega) ⟨(by first | (simp only [zfa, ↓reduceIte, Nat.reduceEqDiff]; done) | (simp only [zfa, ↓reduceIte, Nat.reduceEqDiff]; rfl)), (by first | (simp only [zfa, ↓reduceIte, Nat.reduceEqDiff]; done) | (simp only [zfa, ↓reduceIte, Nat.reduceEqDiff]; rfl)), (by first | (simp only [zfa, ↓reduceIte, Nat.reduceEqDiff]; done) | (simp only [zfa, ↓reduceIte, Nat.reduceEqDiff]; rfl)), (by first | (simp only [zfa, ↓reduceIte, Nat.reduceEqDiff]; done) | (simp only [zfa, ↓reduceIte, Nat.reduceEqDiff]; rfl)), Nat.zero_le _⟩
    rintro rr i hrr ih2 env st ⟨e7, e8, e9, e3, hi⟩
    cases hdr : ks.drop i with
    | nil =>
      have hil : i = ks.length := by have := congrArg List.length hdr; simp only [List.length_drop, List.length_nil] at this; omega
      subst hil
      rw [List.take_length] at e3
      have q1 : ¬ ((ks.length : Int) < (ks.length : Int)) := by omega
      simp only [zaa, zab, zac, zad, zae, zaf, zag, zah, zai, zaj, zak, zal, zam, zan, zao, zap, zaq, zar, zas, zat, zau, zav, zaw, zax, zay, zaz, zba, zbb, zbc, zbd, zbe, zbf, zbg, zbh, zbi, zbj, Nat.reduceBEq, Bool.or_self, Bool.or_false, Bool.or_true, Bool.and_true, Bool.and_false, Bool.true_and, Bool.false_and, Option.isNone_none, Option.isNone_some, Option.isSome_some, Option.isSome_none, zbk, zbl, zbm, zbn, zbo, zbp, zbq, zbr, zbs, zbt, zbu, zbv, zbw, zbx, zby, zbz, zca, zcb, zcc, zcd, zce, zcf, zcg, zch, zci, zcj, zck, zcl, zcm, zcn, zco, zcp, zcq, zcr, zcs, zct, zcu, zcv, zcw, zcx, zcy, zcz, zda, zdb, zdc, zdd, zde, zdf, Option.getD_some, Option.getD_none, zet, zeu, zev, zew, zex, zey, zez, zfa, Option.map_some, Option.map_none, Option.bind_some, List.map_cons, List.map_nil, List.cons_append, List.nil_append, ↓reduceIte, Nat.reduceEqDiff, Nat.reduceAdd, decide_true, decide_false, Bool.true_eq_false, Bool.false_eq_true, zdg, zdh, zdi, zdj, zdk, zdl, zdm, zdn, ia22, ld31, zdo, zdp, zdq, zdr, zds, zdt, zdu, zdv, zdw, zdx, zdy, zdz, zea, zeb, zec, fa_0, fa_1, zed, bd_0, bd_2, zee, fd_1, zef, Nat.zero_add, e7, e8, e9, e3, q1]
      exact finish_i _ _ _ _ _ _ _ (by first | (simp only [zfa, ↓reduceIte, Nat.reduceEqDiff]; done) | (simp only [zfa, ↓reduceIte, Nat.reduceEqDiff]; rfl)) rfl
    | cons kid r =>
      have hil : i < ks.length := by have := congrArg List.length hdr; simp only [List.length_drop, List.length_cons] at this; omega
      have kh := kids_ht ks i kid r hdr
      have kn := kids_nod ks i kid r hdr
      have ht : ks.take (i + 1) = ks.take i ++ [kid] := by
        rw [List.take_add_one]
        congr 1
        have : ks[i]? = some kid := by rw [← Nat.add_zero i, ← List.getElem?_drop, hdr]; rfl
        rw [this]; rfl
      have hle : nodK (ks.take (i + 1)) ≤ nodK ks := nodK_take ks (i + 1)
      have hsum : nodK (ks.take (i + 1)) = nodK (ks.take i) + nodT kid := by
        rw [ht, nodK_app]; simp only [nodK]; omega
      have q1 : (i : Int) < (ks.length : Int) := by omega
      have f5 := i_add Tryd.prog 3 (i : Int) 1 (by omega) (by have := nodK_len ks; omega)
      have f6 := i_add Tryd.prog 3 ((nodK (ks.take i) + 1 : Nat) : Int) (nodT kid : Int) (by omega) (by omega)
      have cc := fun D st => callA_trees (cfg := cfg0) (d := D) (s := st) (f := 11) (vs := [encT kid]) rfl (IH kid (by omega) (by omega))
      simp only [encT] at cc
      have ia := fun st => ia_K st ks (gr kg) i hil
      rw [hdr] at ia
      have ld := fun st => ld_K st kid r
      simp only [encT] at ld
      simp only [zaa, zab, zac, zad, zae, zaf, zag, zah, zai, zaj, zak, zal, zam, zan, zao, zap, zaq, zar, zas, zat, zau, zav, zaw, zax, zay, zaz, zba, zbb, zbc, zbd, zbe, zbf, zbg, zbh, zbi, zbj, Nat.reduceBEq, Bool.or_self, Bool.or_false, Bool.or_true, Bool.and_true, Bool.and_false, Bool.true_and, Bool.false_and, Option.isNone_none, Option.isNone_some, Option.isSome_some, Option.isSome_none, zbk, zbl, zbm, zbn, zbo, zbp, zbq, zbr, zbs, zbt, zbu, zbv, zbw, zbx, zby, zbz, zca, zcb, zcc, zcd, zce, zcf, zcg, zch, zci, zcj, zck, zcl, zcm, zcn, zco, zcp, zcq, zcr, zcs, zct, zcu, zcv, zcw, zcx, zcy, zcz, zda, zdb, zdc, zdd, zde, zdf, Option.getD_some, Option.getD_none, zet, zeu, zev, zew, zex, zey, zez, zfa, Option.map_some, Option.map_none, Option.bind_some, List.map_cons, List.map_nil, List.cons_append, List.nil_append, ↓reduceIte, Nat.reduceEqDiff, Nat.reduceAdd, decide_true, decide_false, Bool.true_eq_false, Bool.false_eq_true, zdg, zdh, zdi, zdj, zdk, zdl, zdm, zdn, ia22, ld31, zdo, zdp, zdq, zdr, zds, zdt, zdu, zdv, zdw, zdx, zdy, zdz, zea, zeb, zec, fa_0, fa_1, zed, bd_0, bd_2, zee, fd_1, zef, Nat.zero_add, e7, e8, e9, e3, q1, ia, ld, zeroT, st_Tt, stT_6, ldT_u, f5, f6, cc]
      refine ih2 (i + 1) _ _ (by omega) rfl ⟨(by first | (simp only [zfa, ↓reduceIte, Nat.reduceEqDiff, e7]; done) | (simp only [zfa, ↓reduceIte, Nat.reduceEqDiff, e7]; rfl)), (by first | (simp only [zfa, ↓reduceIte, Nat.reduceEqDiff, e8]; done) | (simp only [zfa, ↓reduceIte, Nat.reduceEqDiff, e8]; rfl)), (by first | (simp only [zfa, ↓reduceIte, Nat.reduceEqDiff]; done) | (simp only [zfa, ↓reduceIte, Nat.reduceEqDiff]; rfl)), ?_, by omega⟩
      simp only [zfa, ↓reduceIte, Nat.reduceEqDiff]
      rw [hsum]
      congr 1
      omega
end Go.Ab

/- What comparing terms needs. No conditions but limbs in range. -/
namespace Go.Ab
open Go.Proofs
set_option maxRecDepth 100000
set_option linter.unusedSimpArgs false

def three (a b : Int) : Int := if a < b then -1 else if b < a then 1 else 0
def or2 (a b : Int) : Int := if a = 0 then b else a
def strC (a b : List UInt8) : Int := if Op.bytesLess a b = true then -1 else if a = b then 0 else 1
theorem nanI_eq (n d : Nat) (x : Int) : evalFn Tryd.prog cfg0 n (d+1) 62 [.tree (.int .i64 x)] = some (.tree (.bool false), [[]]) := by
  rw [evalFn_go _ Tryd.func62 (by unfold Tryd.f62; rfl) (by unfold Tryd.f62; decide) (Nat.le_of_ble_eq_true (by unfold Tryd.f62; rfl)) (by kernel_rfl)]
  have q : (x != x) = false := bne_self_eq_false _
  simp only [zaa, zab, zac, zad, zae, zaf, zag, zah, zai, zaj, zak, zal, zam, zan, zao, zap, zaq, zar, zas, zat, zau, zav, zaw, zax, zay, zaz, zba, zbb, zbc, zbd, zbe, zbf, zbg, zbh, zbi, zbj, Nat.reduceBEq, Bool.or_self, Bool.or_false, Bool.or_true, Bool.and_true, Bool.and_false, Bool.true_and, Bool.false_and, Option.isNone_none, Option.isNone_some, Option.isSome_some, Option.isSome_none, zbk, zbl, zbm, zbn, zbo, zbp, zbq, zbr, zbs, zbt, zbu, zbv, zbw, zbx, zby, zbz, zca, zcb, zcc, zcd, zce, zcf, zcg, zch, zci, zcj, zck, zcl, zcm, zcn, zco, zcp, zcq, zcr, zcs, zct, zcu, zcv, zcw, zcx, zcy, zcz, zda, zdb, zdc, zdd, zde, zdf, Option.getD_some, Option.getD_none, zet, zeu, zev, zew, zex, zey, zez, zfa, Option.map_some, Option.map_none, Option.bind_some, List.map_cons, List.map_nil, List.cons_append, List.nil_append, ↓reduceIte, Nat.reduceEqDiff, Nat.reduceAdd, decide_true, decide_false, Bool.true_eq_false, Bool.false_eq_true, env0, List.getElem?_cons_zero, List.getElem?_cons_succ, zdg, zdh, zdi, zdj, zdk, zdl, zdm, zdn, ia22, ld31, zdo, zdp, q]
  exact finish_b _ _ _ _ _ _ _ (by first | (simp only [zfa, ↓reduceIte, Nat.reduceEqDiff]; done) | (simp only [zfa, ↓reduceIte, Nat.reduceEqDiff]; rfl)) rfl
theorem cmpCI_eq (n d : Nat) (x y : Int) : evalFn Tryd.prog cfg0 n (d+2) 39 [.tree (.int .i64 x), .tree (.int .i64 y)] = some (.tree (.int .i64 (three x y)), [[], []]) := by
  rw [evalFn_go _ Tryd.func39 (by unfold Tryd.f39; rfl) (by unfold Tryd.f39; decide) (Nat.le_of_ble_eq_true (by unfold Tryd.f39; rfl)) (by kernel_rfl)]
  unfold three
  have c1 := fun D st x => callA_trees (cfg := cfg0) (d := D) (s := st) (f := 62) (vs := [.int .i64 x]) rfl (nanI_eq n d x)
  by_cases h : x < y
  · simp only [zaa, zab, zac, zad, zae, zaf, zag, zah, zai, zaj, zak, zal, zam, zan, zao, zap, zaq, zar, zas, zat, zau, zav, zaw, zax, zay, zaz, zba, zbb, zbc, zbd, zbe, zbf, zbg, zbh, zbi, zbj, Nat.reduceBEq, Bool.or_self, Bool.or_false, Bool.or_true, Bool.and_true, Bool.and_false, Bool.true_and, Bool.false_and, Option.isNone_none, Option.isNone_some, Option.isSome_some, Option.isSome_none, zbk, zbl, zbm, zbn, zbo, zbp, zbq, zbr, zbs, zbt, zbu, zbv, zbw, zbx, zby, zbz, zca, zcb, zcc, zcd, zce, zcf, zcg, zch, zci, zcj, zck, zcl, zcm, zcn, zco, zcp, zcq, zcr, zcs, zct, zcu, zcv, zcw, zcx, zcy, zcz, zda, zdb, zdc, zdd, zde, zdf, Option.getD_some, Option.getD_none, zet, zeu, zev, zew, zex, zey, zez, zfa, Option.map_some, Option.map_none, Option.bind_some, List.map_cons, List.map_nil, List.cons_append, List.nil_append, ↓reduceIte, Nat.reduceEqDiff, Nat.reduceAdd, decide_true, decide_false, Bool.true_eq_false, Bool.false_eq_true, env0, List.getElem?_cons_zero, List.getElem?_cons_succ, zdg, zdh, zdi, zdj, zdk, zdl, zdm, zdn, ia22, ld31, zdo, zdp, c1, h]
    exact finish_i _ _ _ _ _ _ _ (by first | (simp only [zfa, ↓reduceIte, Nat.reduceEqDiff]; done) | (simp only [zfa, ↓reduceIte, Nat.reduceEqDiff]; rfl)) rfl
  · by_cases g : y < x
    · have g' : x > y := g
      simp only [zaa, zab, zac, zad, zae, zaf, zag, zah, zai, zaj, zak, zal, zam, zan, zao, zap, zaq, zar, zas, zat, zau, zav, zaw, zax, zay, zaz, zba, zbb, zbc, zbd, zbe, zbf, zbg, zbh, zbi, zbj, Nat.reduceBEq, Bool.or_self, Bool.or_false, Bool.or_true, Bool.and_true, Bool.and_false, Bool.true_and, Bool.false_and, Option.isNone_none, Option.isNone_some, Option.isSome_some, Option.isSome_none, zbk, zbl, zbm, zbn, zbo, zbp, zbq, zbr, zbs, zbt, zbu, zbv, zbw, zbx, zby, zbz, zca, zcb, zcc, zcd, zce, zcf, zcg, zch, zci, zcj, zck, zcl, zcm, zcn, zco, zcp, zcq, zcr, zcs, zct, zcu, zcv, zcw, zcx, zcy, zcz, zda, zdb, zdc, zdd, zde, zdf, Option.getD_some, Option.getD_none, zet, zeu, zev, zew, zex, zey, zez, zfa, Option.map_some, Option.map_none, Option.bind_some, List.map_cons, List.map_nil, List.cons_append, List.nil_append, ↓reduceIte, Nat.reduceEqDiff, Nat.reduceAdd, decide_true, decide_false, Bool.true_eq_false, Bool.false_eq_true, env0, List.getElem?_cons_zero, List.getElem?_cons_succ, zdg, zdh, zdi, zdj, zdk, zdl, zdm, zdn, ia22, ld31, zdo, zdp, c1, h, g, g']
      exact finish_i _ _ _ _ _ _ _ (by first | (simp only [zfa, ↓reduceIte, Nat.reduceEqDiff]; done) | (simp only [zfa, ↓reduceIte, Nat.reduceEqDiff]; rfl)) rfl
    · have g' : ¬ x > y := g
      simp only [zaa, zab, zac, zad, zae, zaf, zag, zah, zai, zaj, zak, zal, zam, zan, zao, zap, zaq, zar, zas, zat, zau, zav, zaw, zax, zay, zaz, zba, zbb, zbc, zbd, zbe, zbf, zbg, zbh, zbi, zbj, Nat.reduceBEq, Bool.or_self, Bool.or_false, Bool.or_true, Bool.and_true, Bool.and_false, Bool.true_and, Bool.false_and, Option.isNone_none, Option.isNone_some, Option.isSome_some, Option.isSome_none, zbk, zbl, zbm, zbn, zbo, zbp, zbq, zbr, zbs, zbt, zbu, zbv, zbw, zbx, zby, zbz, zca, zcb, zcc, zcd, zce, zcf, zcg, zch, zci, zcj, zck, zcl, zcm, zcn, zco, zcp, zcq, zcr, zcs, zct, zcu, zcv, zcw, zcx, zcy, zcz, zda, zdb, zdc, zdd, zde, zdf, Option.getD_some, Option.getD_none, zet, zeu, zev, zew, zex, zey, zez, zfa, Option.map_some, Option.map_none, Option.bind_some, List.map_cons, List.map_nil, List.cons_append, List.nil_append, ↓reduceIte, Nat.reduceEqDiff, Nat.reduceAdd, decide_true, decide_false, Bool.true_eq_false, Bool.false_eq_true, env0, List.getElem?_cons_zero, List.getElem?_cons_succ, zdg, zdh, zdi, zdj, zdk, zdl, zdm, zdn, ia22, ld31, zdo, zdp, c1, h, g, g']
      exact finish_i _ _ _ _ _ _ _ (by first | (simp only [zfa, ↓reduceIte, Nat.reduceEqDiff]; done) | (simp only [zfa, ↓reduceIte, Nat.reduceEqDiff]; rfl)) rfl
theorem cmpCS_eq (n d : Nat) (x y : List UInt8) : evalFn Tryd.prog cfg0 n (d+2) 42 [.tree (.str x), .tree (.str y)] = some (.tree (.int .i64 (strC x y)), [[], []]) := by
  rw [evalFn_go _ Tryd.func42 (by unfold Tryd.f42; rfl) (by unfold Tryd.f42; decide) (Nat.le_of_ble_eq_true (by unfold Tryd.f42; rfl)) (by kernel_rfl)]
  unfold strC
  have c1 := fun D st x => callA_trees (cfg := cfg0) (d := D) (s := st) (f := 65) (vs := [.str x]) rfl (nanS_eq n d x)
  cases h : Op.bytesLess x y with
  | true =>
    simp only [zaa, zab, zac, zad, zae, zaf, zag, zah, zai, zaj, zak, zal, zam, zan, zao, zap, zaq, zar, zas, zat, zau, zav, zaw, zax, zay, zaz, zba, zbb, zbc, zbd, zbe, zbf, zbg, zbh, zbi, zbj, Nat.reduceBEq, Bool.or_self, Bool.or_false, Bool.or_true, Bool.and_true, Bool.and_false, Bool.true_and, Bool.false_and, Option.isNone_none, Option.isNone_some, Option.isSome_some, Option.isSome_none, zbk, zbl, zbm, zbn, zbo, zbp, zbq, zbr, zbs, zbt, zbu, zbv, zbw, zbx, zby, zbz, zca, zcb, zcc, zcd, zce, zcf, zcg, zch, zci, zcj, zck, zcl, zcm, zcn, zco, zcp, zcq, zcr, zcs, zct, zcu, zcv, zcw, zcx, zcy, zcz, zda, zdb, zdc, zdd, zde, zdf, Option.getD_some, Option.getD_none, zet, zeu, zev, zew, zex, zey, zez, zfa, Option.map_some, Option.map_none, Option.bind_some, List.map_cons, List.map_nil, List.cons_append, List.nil_append, ↓reduceIte, Nat.reduceEqDiff, Nat.reduceAdd, decide_true, decide_false, Bool.true_eq_false, Bool.false_eq_true, env0, List.getElem?_cons_zero, List.getElem?_cons_succ, s_lssS, s_gtrS, c1, h]
    exact finish_i _ _ _ _ _ _ _ (by first | (simp only [zfa, ↓reduceIte, Nat.reduceEqDiff]; done) | (simp only [zfa, ↓reduceIte, Nat.reduceEqDiff]; rfl)) rfl
  | false =>
    by_cases g : x = y
    · have g' : (x == y) = true := beq_iff_eq.mpr g
      simp only [zaa, zab, zac, zad, zae, zaf, zag, zah, zai, zaj, zak, zal, zam, zan, zao, zap, zaq, zar, zas, zat, zau, zav, zaw, zax, zay, zaz, zba, zbb, zbc, zbd, zbe, zbf, zbg, zbh, zbi, zbj, Nat.reduceBEq, Bool.or_self, Bool.or_false, Bool.or_true, Bool.and_true, Bool.and_false, Bool.true_and, Bool.false_and, Option.isNone_none, Option.isNone_some, Option.isSome_some, Option.isSome_none, zbk, zbl, zbm, zbn, zbo, zbp, zbq, zbr, zbs, zbt, zbu, zbv, zbw, zbx, zby, zbz, zca, zcb, zcc, zcd, zce, zcf, zcg, zch, zci, zcj, zck, zcl, zcm, zcn, zco, zcp, zcq, zcr, zcs, zct, zcu, zcv, zcw, zcx, zcy, zcz, zda, zdb, zdc, zdd, zde, zdf, Option.getD_some, Option.getD_none, zet, zeu, zev, zew, zex, zey, zez, zfa, Option.map_some, Option.map_none, Option.bind_some, List.map_cons, List.map_nil, List.cons_append, List.nil_append, ↓reduceIte, Nat.reduceEqDiff, Nat.reduceAdd, decide_true, decide_false, Bool.true_eq_false, Bool.false_eq_true, env0, List.getElem?_cons_zero, List.getElem?_cons_succ, s_lssS, s_gtrS, c1, h, g', Bool.false_or, Bool.not_true, if_pos g]
      exact finish_i _ _ _ _ _ _ _ (by first | (simp only [zfa, ↓reduceIte, Nat.reduceEqDiff]; done) | (simp only [zfa, ↓reduceIte, Nat.reduceEqDiff]; rfl)) rfl
    · have g' : (x == y) = false := beq_eq_false_iff_ne.mpr g
      simp only [zaa, zab, zac, zad, zae, zaf, zag, zah, zai, zaj, zak, zal, zam, zan, zao, zap, zaq, zar, zas, zat, zau, zav, zaw, zax, zay, zaz, zba, zbb, zbc, zbd, zbe, zbf, zbg, zbh, zbi, zbj, Nat.reduceBEq, Bool.or_self, Bool.or_false, Bool.or_true, Bool.and_true, Bool.and_false, Bool.true_and, Bool.false_and, Option.isNone_none, Option.isNone_some, Option.isSome_some, Option.isSome_none, zbk, zbl, zbm, zbn, zbo, zbp, zbq, zbr, zbs, zbt, zbu, zbv, zbw, zbx, zby, zbz, zca, zcb, zcc, zcd, zce, zcf, zcg, zch, zci, zcj, zck, zcl, zcm, zcn, zco, zcp, zcq, zcr, zcs, zct, zcu, zcv, zcw, zcx, zcy, zcz, zda, zdb, zdc, zdd, zde, zdf, Option.getD_some, Option.getD_none, zet, zeu, zev, zew, zex, zey, zez, zfa, Option.map_some, Option.map_none, Option.bind_some, List.map_cons, List.map_nil, List.cons_append, List.nil_append, ↓reduceIte, Nat.reduceEqDiff, Nat.reduceAdd, decide_true, decide_false, Bool.true_eq_false, Bool.false_eq_true, env0, List.getElem?_cons_zero, List.getElem?_cons_succ, s_lssS, s_gtrS, c1, h, g', Bool.false_or, Bool.not_false, if_neg g]
      exact finish_i _ _ _ _ _ _ _ (by first | (simp only [zfa, ↓reduceIte, Nat.reduceEqDiff]; done) | (simp only [zfa, ↓reduceIte, Nat.reduceEqDiff]; rfl)) rfl
theorem tk33 : tkOf Tryd.prog 33 = .sl 3 := by kernel_rfl
theorem len33 (s : St) (xs : List AV) (m : Nat) (g : Grip) : lenA Tryd.prog 33 s (.sl xs m g) = some (.int .i64 (m : Int)) := by simp only [lenA, tk33]
theorem ia33 (s : St) (xs : List AV) (m : Nat) (g : Grip) (i : Nat) (h : i < m) : indexAddrA Tryd.prog 33 s (.sl xs m g) (.int .i64 (i : Int)) = some (.rptr (xs.drop i)) := by
  simp only [indexAddrA, tk33, eszTi, Option.bind_some, Int.toNat_natCast, Nat.mul_one]
  rw [if_pos ⟨by omega, by omega⟩]
theorem ld33 (s : St) (x : AV) (r : List AV) : loadA Tryd.prog 3 s (.rptr (x :: r)) = some x := by
  simp only [loadA, partA, shTi]
  rfl
theorem orI_eq (n d : Nat) (hn : 3 ≤ n) (x y : Int) (g : Grip) : evalFn Tryd.prog cfg0 n (d+1) 43 [.tree (.sl [.int .i64 x, .int .i64 y] 2 g)] = some (.tree (.int .i64 (or2 x y)), [[]]) := by
  rw [evalFn_go _ Tryd.func43 (by unfold Tryd.f43; rfl) (by unfold Tryd.f43; decide) (Nat.le_of_ble_eq_true (by unfold Tryd.f43; rfl)) (by kernel_rfl)]
  simp only [zaa, zab, zac, zad, zae, zaf, zag, zah, zai, zaj, zak, zal, zam, zan, zao, zap, zaq, zar, zas, zat, zau, zav, zaw, zax, zay, zaz, zba, zbb, zbc, zbd, zbe, zbf, zbg, zbh, zbi, zbj, Nat.reduceBEq, Bool.or_self, Bool.or_false, Bool.or_true, Bool.and_true, Bool.and_false, Bool.true_and, Bool.false_and, Option.isNone_none, Option.isNone_some, Option.isSome_some, Option.isSome_none, zbk, zbl, zbm, zbn, zbo, zbp, zbq, zbr, zbs, zbt, zbu, zbv, zbw, zbx, zby, zbz, zca, zcb, zcc, zcd, zce, zcf, zcg, zch, zci, zcj, zck, zcl, zcm, zcn, zco, zcp, zcq, zcr, zcs, zct, zcu, zcv, zcw, zcx, zcy, zcz, zda, zdb, zdc, zdd, zde, zdf, Option.getD_some, Option.getD_none, zet, zeu, zev, zew, zex, zey, zez, zfa, Option.map_some, Option.map_none, Option.bind_some, List.map_cons, List.map_nil, List.cons_append, List.nil_append, ↓reduceIte, Nat.reduceEqDiff, Nat.reduceAdd, decide_true, decide_false, Bool.true_eq_false, Bool.false_eq_true, env0, List.getElem?_cons_zero, List.getElem?_cons_succ, zdg, zdh, zdi, zdj, zdk, zdl, zdm, zdn, ia22, ld31, zdo, zdp, len33, den_loop]
  refine loop_ends (X := Nat) (fun i env s => env 3 = .int .i64 0 ∧ env 6 = .sl [.int .i64 x, .int .i64 y] 2 g ∧ env 7 = .int .i64 2 ∧ env 8 = .int .i64 (i : Int) ∧ i ≤ 2 ∧ (0 < i → x = 0) ∧ (1 < i → y = 0)) (fun i => 2 - i) (fun _ => (.tree (.int .i64 (or2 x y)), [[]])) ?_ n 0 _ _ (by omega) ⟨(by first | (simp only [zfa, ↓reduceIte, Nat.reduceEqDiff]; done) | (simp only [zfa, ↓reduceIte, Nat.reduceEqDiff]; rfl)), (by first | (simp only [zfa, ↓reduceIte, Nat.reduceEqDiff]; done) | (simp only [zfa, ↓reduceIte, Nat.reduceEqDiff]; rfl)), (by first | (simp only [zfa, ↓reduceIte, Nat.reduceEqDiff]; done) | (simp only [zfa, ↓reduceIte, Nat.reduceEqDiff]; rfl)), (by first | (simp only [zfa, ↓reduceIte, Nat.reduceEqDiff]; done) | (simp only [zfa, ↓reduceIte, Nat.reduceEqDiff]; rfl)), by omega, by intro h; omega, by intro h; omega⟩
  intro k i hx ih env st ⟨e3, e6, e7, e8, hi, h0, h1⟩
  have hc : i = 0 ∨ i = 1 ∨ i = 2 := by omega
  rcases hc with rfl | rfl | rfl
  · have q1 : ((0 : Nat) : Int) < 2 := by decide
    have ia := fun st => ia33 st [.int .i64 x, .int .i64 y] 2 g 0 (by decide)
    simp only [List.drop_zero] at ia
    have f5 := i_add Tryd.prog 3 ((0 : Nat) : Int) 1 (by decide) (by decide)
    by_cases g0 : x = 0
    · have g' : (x != 0) = false := by rw [g0]; rfl
      simp only [zaa, zab, zac, zad, zae, zaf, zag, zah, zai, zaj, zak, zal, zam, zan, zao, zap, zaq, zar, zas, zat, zau, zav, zaw, zax, zay, zaz, zba, zbb, zbc, zbd, zbe, zbf, zbg, zbh, zbi, zbj, Nat.reduceBEq, Bool.or_self, Bool.or_false, Bool.or_true, Bool.and_true, Bool.and_false, Bool.true_and, Bool.false_and, Option.isNone_none, Option.isNone_some, Option.isSome_some, Option.isSome_none, zbk, zbl, zbm, zbn, zbo, zbp, zbq, zbr, zbs, zbt, zbu, zbv, zbw, zbx, zby, zbz, zca, zcb, zcc, zcd, zce, zcf, zcg, zch, zci, zcj, zck, zcl, zcm, zcn, zco, zcp, zcq, zcr, zcs, zct, zcu, zcv, zcw, zcx, zcy, zcz, zda, zdb, zdc, zdd, zde, zdf, Option.getD_some, Option.getD_none, zet, zeu, zev, zew, zex, zey, zez, zfa, Option.map_some, Option.map_none, Option.bind_some, List.map_cons, List.map_nil, List.cons_append, List.nil_append, ↓reduceIte, Nat.reduceEqDiff, Nat.reduceAdd, decide_true, decide_false, Bool.true_eq_false, Bool.false_eq_true, zdg, zdh, zdi, zdj, zdk, zdl, zdm, zdn, ia22, ld31, zdo, zdp, e3, e6, e7, e8, q1, ia, ld33, g', f5]
      exact ih 1 _ _ (by omega) rfl ⟨(by first | (simp only [zfa, ↓reduceIte, Nat.reduceEqDiff, e3]; done) | (simp only [zfa, ↓reduceIte, Nat.reduceEqDiff, e3]; rfl)), (by first | (simp only [zfa, ↓reduceIte, Nat.reduceEqDiff, e6]; done) | (simp only [zfa, ↓reduceIte, Nat.reduceEqDiff, e6]; rfl)), (by first | (simp only [zfa, ↓reduceIte, Nat.reduceEqDiff, e7]; done) | (simp only [zfa, ↓reduceIte, Nat.reduceEqDiff, e7]; rfl)), (by first | (simp only [zfa, ↓reduceIte, Nat.reduceEqDiff]; done) | (simp only [zfa, ↓reduceIte, Nat.reduceEqDiff]; rfl)), by omega, fun _ => g0, fun h => by omega⟩
    · have g' : (x != 0) = true := by rw [bne_iff_ne]; exact g0
      have hr : or2 x y = x := if_neg g0
      rw [hr]
      simp only [zaa, zab, zac, zad, zae, zaf, zag, zah, zai, zaj, zak, zal, zam, zan, zao, zap, zaq, zar, zas, zat, zau, zav, zaw, zax, zay, zaz, zba, zbb, zbc, zbd, zbe, zbf, zbg, zbh, zbi, zbj, Nat.reduceBEq, Bool.or_self, Bool.or_false, Bool.or_true, Bool.and_true, Bool.and_false, Bool.true_and, Bool.false_and, Option.isNone_none, Option.isNone_some, Option.isSome_some, Option.isSome_none, zbk, zbl, zbm, zbn, zbo, zbp, zbq, zbr, zbs, zbt, zbu, zbv, zbw, zbx, zby, zbz, zca, zcb, zcc, zcd, zce, zcf, zcg, zch, zci, zcj, zck, zcl, zcm, zcn, zco, zcp, zcq, zcr, zcs, zct, zcu, zcv, zcw, zcx, zcy, zcz, zda, zdb, zdc, zdd, zde, zdf, Option.getD_some, Option.getD_none, zet, zeu, zev, zew, zex, zey, zez, zfa, Option.map_some, Option.map_none, Option.bind_some, List.map_cons, List.map_nil, List.cons_append, List.nil_append, ↓reduceIte, Nat.reduceEqDiff, Nat.reduceAdd, decide_true, decide_false, Bool.true_eq_false, Bool.false_eq_true, zdg, zdh, zdi, zdj, zdk, zdl, zdm, zdn, ia22, ld31, zdo, zdp, e3, e6, e7, e8, q1, ia, ld33, g', f5]
      exact finish_i _ _ _ _ _ _ _ (by first | (simp only [zfa, ↓reduceIte, Nat.reduceEqDiff]; done) | (simp only [zfa, ↓reduceIte, Nat.reduceEqDiff]; rfl)) rfl
  · have q1 : ((1 : Nat) : Int) < 2 := by decide
    have ia := fun st => ia33 st [.int .i64 x, .int .i64 y] 2 g 1 (by decide)
    simp only [List.drop_succ_cons, List.drop_zero] at ia
    have f5 := i_add Tryd.prog 3 ((1 : Nat) : Int) 1 (by decide) (by decide)
    have gx := h0 (by decide)
    by_cases g0 : y = 0
    · have g' : (y != 0) = false := by rw [g0]; rfl
      simp only [zaa, zab, zac, zad, zae, zaf, zag, zah, zai, zaj, zak, zal, zam, zan, zao, zap, zaq, zar, zas, zat, zau, zav, zaw, zax, zay, zaz, zba, zbb, zbc, zbd, zbe, zbf, zbg, zbh, zbi, zbj, Nat.reduceBEq, Bool.or_self, Bool.or_false, Bool.or_true, Bool.and_true, Bool.and_false, Bool.true_and, Bool.false_and, Option.isNone_none, Option.isNone_some, Option.isSome_some, Option.isSome_none, zbk, zbl, zbm, zbn, zbo, zbp, zbq, zbr, zbs, zbt, zbu, zbv, zbw, zbx, zby, zbz, zca, zcb, zcc, zcd, zce, zcf, zcg, zch, zci, zcj, zck, zcl, zcm, zcn, zco, zcp, zcq, zcr, zcs, zct, zcu, zcv, zcw, zcx, zcy, zcz, zda, zdb, zdc, zdd, zde, zdf, Option.getD_some, Option.getD_none, zet, zeu, zev, zew, zex, zey, zez, zfa, Option.map_some, Option.map_none, Option.bind_some, List.map_cons, List.map_nil, List.cons_append, List.nil_append, ↓reduceIte, Nat.reduceEqDiff, Nat.reduceAdd, decide_true, decide_false, Bool.true_eq_false, Bool.false_eq_true, zdg, zdh, zdi, zdj, zdk, zdl, zdm, zdn, ia22, ld31, zdo, zdp, e3, e6, e7, e8, q1, ia, ld33, g', f5]
      exact ih 2 _ _ (by omega) rfl ⟨(by first | (simp only [zfa, ↓reduceIte, Nat.reduceEqDiff, e3]; done) | (simp only [zfa, ↓reduceIte, Nat.reduceEqDiff, e3]; rfl)), (by first | (simp only [zfa, ↓reduceIte, Nat.reduceEqDiff, e6]; done) | (simp only [zfa, ↓reduceIte, Nat.reduceEqDiff, e6]; rfl)), (by first | (simp only [zfa, ↓reduceIte, Nat.reduceEqDiff, e7]; done) | (simp only [zfa, ↓reduceIte, Nat.reduceEqDiff, e7]; rfl)), (by first | (simp only [zfa, ↓reduceIte, Nat.reduceEqDiff]; done) | (simp only [zfa, ↓reduceIte, Nat.reduceEqDiff]; rfl)), by omega, fun _ => gx, fun h => g0⟩
    · have g' : (y != 0) = true := by rw [bne_iff_ne]; exact g0
      have hr : or2 x y = y := if_pos gx
      rw [hr]
      simp only [zaa, zab, zac, zad, zae, zaf, zag, zah, zai, zaj, zak, zal, zam, zan, zao, zap, zaq, zar, zas, zat, zau, zav, zaw, zax, zay, zaz, zba, zbb, zbc, zbd, zbe, zbf, zbg, zbh, zbi, zbj, Nat.reduceBEq, Bool.or_self, Bool.or_false, Bool.or_true, Bool.and_true, Bool.and_false, Bool.true_and, Bool.false_and, Option.isNone_none, Option.isNone_some, Option.isSome_some, Option.isSome_none, zbk, zbl, zbm, zbn, zbo, zbp, zbq, zbr, zbs, zbt, zbu, zbv, zbw, zbx, zby, zbz, zca, zcb, zcc, zcd, zce, zcf, zcg, zch, zci, zcj, zck, zcl, zcm, zcn, zco, zcp, zcq, zcr, zcs, zct, zcu, zcv, zcw, zcx, zcy, zcz, zda, zdb, zdc, zdd, zde, zdf, Option.getD_some, Option.getD_none, zet, zeu, zev, zew, zex, zey, zez, zfa, Option.map_some, Option.map_none, Option.bind_some, List.map_cons, List.map_nil, List.cons_append, List.nil_append, ↓reduceIte, Nat.reduceEqDiff, Nat.reduceAdd, decide_true, decide_false, Bool.true_eq_false, Bool.false_eq_true, zdg, zdh, zdi, zdj, zdk, zdl, zdm, zdn, ia22, ld31, zdo, zdp, e3, e6, e7, e8, q1, ia, ld33, g', f5]
      exact finish_i _ _ _ _ _ _ _ (by first | (simp only [zfa, ↓reduceIte, Nat.reduceEqDiff]; done) | (simp only [zfa, ↓reduceIte, Nat.reduceEqDiff]; rfl)) rfl
  · have q1 : ¬ ((2 : Nat) : Int) < 2 := by decide
    have hr : or2 x y = 0 := by rw [or2, if_pos (h0 (by decide))]; exact h1 (by decide)
    rw [hr]
    simp only [zaa, zab, zac, zad, zae, zaf, zag, zah, zai, zaj, zak, zal, zam, zan, zao, zap, zaq, zar, zas, zat, zau, zav, zaw, zax, zay, zaz, zba, zbb, zbc, zbd, zbe, zbf, zbg, zbh, zbi, zbj, Nat.reduceBEq, Bool.or_self, Bool.or_false, Bool.or_true, Bool.and_true, Bool.and_false, Bool.true_and, Bool.false_and, Option.isNone_none, Option.isNone_some, Option.isSome_some, Option.isSome_none, zbk, zbl, zbm, zbn, zbo, zbp, zbq, zbr, zbs, zbt, zbu, zbv, zbw, zbx, zby, zbz, zca, zcb, zcc, zcd, zce, zcf, zcg, zch, zci, zcj, zck, zcl, zcm, zcn, zco, zcp, zcq, zcr, zcs, zct, zcu, zcv, zcw, zcx, zcy, zcz, zda, zdb, zdc, zdd, zde, zdf, Option.getD_some, Option.getD_none, zet, zeu, zev, zew, zex, zey, zez, zfa, Option.map_some, Option.map_none, Option.bind_some, List.map_cons, List.map_nil, List.cons_append, List.nil_append, ↓reduceIte, Nat.reduceEqDiff, Nat.reduceAdd, decide_true, decide_false, Bool.true_eq_false, Bool.false_eq_true, zdg, zdh, zdi, zdj, zdk, zdl, zdm, zdn, ia22, ld31, zdo, zdp, e3, e6, e7, e8, q1]
    exact finish_i _ _ _ _ _ _ _ (by first | (simp only [zfa, ↓reduceIte, Nat.reduceEqDiff]; done) | (simp only [zfa, ↓reduceIte, Nat.reduceEqDiff]; rfl)) rfl
def rankI (k : Int) : Int := if k = 1 then 0 else if k = 2 then 1 else if k = 3 then 4 else if k = 4 then 5 else if k = 5 then 3 else 6
theorem rkx1 (d : Nat) : evalFn Tryd.prog cfg0 100000 (d+2) 40 [.tree (.int .i64 1)] = some (.tree (.int .i64 0), [[]]) := by kernel_rfl
theorem rkx2 (d : Nat) : evalFn Tryd.prog cfg0 100000 (d+2) 40 [.tree (.int .i64 2)] = some (.tree (.int .i64 1), [[]]) := by kernel_rfl
theorem rkx3 (d : Nat) : evalFn Tryd.prog cfg0 100000 (d+2) 40 [.tree (.int .i64 3)] = some (.tree (.int .i64 4), [[]]) := by kernel_rfl
theorem rkx4 (d : Nat) : evalFn Tryd.prog cfg0 100000 (d+2) 40 [.tree (.int .i64 4)] = some (.tree (.int .i64 5), [[]]) := by kernel_rfl
theorem rkx5 (d : Nat) : evalFn Tryd.prog cfg0 100000 (d+2) 40 [.tree (.int .i64 5)] = some (.tree (.int .i64 3), [[]]) := by kernel_rfl
theorem rkx6 (d : Nat) : evalFn Tryd.prog cfg0 100000 (d+2) 40 [.tree (.int .i64 6)] = some (.tree (.int .i64 6), [[]]) := by kernel_rfl
theorem rank_eq (d : Nat) (k : Int) (hk : 1 ≤ k ∧ k ≤ 6) : evalFn Tryd.prog cfg0 100000 (d+2) 40 [.tree (.int .i64 k)] = some (.tree (.int .i64 (rankI k)), [[]]) := by
  have hc : k = 1 ∨ k = 2 ∨ k = 3 ∨ k = 4 ∨ k = 5 ∨ k = 6 := by omega
  rcases hc with rfl | rfl | rfl | rfl | rfl | rfl
  · exact rkx1 d
  · exact rkx2 d
  · exact rkx3 d
  · exact rkx4 d
  · exact rkx5 d
  · exact rkx6 d
theorem finish_cT (k : Bool) (xs : List Arg) (a p e : Nat) (u : T) (env : Env) (s : St) (os : List (List AV)) (ha : env a = .ptr p e 0) (hs : s p = ⟨e, .buf (cellsT u)⟩) (ho : outsA s 0 xs = some os) :
    finishP Tryd.prog k xs #[.cell a 28] env s = some (.tree (encT u), os) := by
  have hl : loadA Tryd.prog 28 s (env a) = some (.agg (cellsT u)) := by rw [ha, zdx, hs, ldT_u, if_pos rfl]
  simp [finishP, isTmpR, hl, settle, ho, encT]
theorem kid_eq (n d : Nat) (k : Int) (b : Bool) (lg : Gk) (l : List Nat) (s : List UInt8) (m : Int) (kg : Gk) (ks : List T) (i : Nat) (t : T) (r : List T) (hi : ks.drop i = t :: r) :
    evalFn Tryd.prog cfg0 n (d+1) 27 [.tree (encT (.mk k b lg l s m kg ks)), .tree (.int .i64 (i : Int))] = some (.tree (encT t), [[], []]) := by
  rw [evalFn_go _ Tryd.func27 (by unfold Tryd.f27; rfl) (by unfold Tryd.f27; decide) (Nat.le_of_ble_eq_true (by unfold Tryd.f27; rfl)) (by kernel_rfl)]
  have hil : i < ks.length := by have := congrArg List.length hi; simp only [List.length_drop, List.length_cons] at this; omega
  have q1 : (i : Int) < (ks.length : Int) := by omega
  have ia := fun st => ia_K st ks (gr kg) i hil
  rw [hi] at ia
  have ld := fun st => ld_K st t r
  simp only [encT] at ld
  simp only [zaa, zab, zac, zad, zae, zaf, zag, zah, zai, zaj, zak, zal, zam, zan, zao, zap, zaq, zar, zas, zat, zau, zav, zaw, zax, zay, zaz, zba, zbb, zbc, zbd, zbe, zbf, zbg, zbh, zbi, zbj, Nat.reduceBEq, Bool.or_self, Bool.or_false, Bool.or_true, Bool.and_true, Bool.and_false, Bool.true_and, Bool.false_and, Option.isNone_none, Option.isNone_some, Option.isSome_some, Option.isSome_none, zbk, zbl, zbm, zbn, zbo, zbp, zbq, zbr, zbs, zbt, zbu, zbv, zbw, zbx, zby, zbz, zca, zcb, zcc, zcd, zce, zcf, zcg, zch, zci, zcj, zck, zcl, zcm, zcn, zco, zcp, zcq, zcr, zcs, zct, zcu, zcv, zcw, zcx, zcy, zcz, zda, zdb, zdc, zdd, zde, zdf, Option.getD_some, Option.getD_none, zet, zeu, zev, zew, zex, zey, zez, zfa, Option.map_some, Option.map_none, Option.bind_some, List.map_cons, List.map_nil, List.cons_append, List.nil_append, ↓reduceIte, Nat.reduceEqDiff, Nat.reduceAdd, decide_true, decide_false, Bool.true_eq_false, Bool.false_eq_true, env0, List.getElem?_cons_zero, List.getElem?_cons_succ, zdg, zdh, zdi, zdj, zdk, zdl, zdm, zdn, ia22, ld31, zdo, zdp, zdq, zdr, zds, zdt, zdu, zdv, zdw, zdx, zdy, zdz, zea, zeb, zec, fa_0, fa_1, zed, bd_0, bd_2, zee, fd_1, zef, Nat.zero_add, encT, cellsT, zeroT, faT_4, ldT_4, lenTk, q1, ia, ld, st_Tt, stT_6]
  exact finish_cT _ _ _ _ _ t _ _ _ (by first | (simp only [zfa, ↓reduceIte, Nat.reduceEqDiff]; done) | (simp only [zfa, ↓reduceIte, Nat.reduceEqDiff]; rfl)) (by first | (simp only [zfa, ↓reduceIte, Nat.reduceEqDiff]; done) | (simp only [zfa, ↓reduceIte, Nat.reduceEqDiff]; rfl)) rfl
end Go.Ab
