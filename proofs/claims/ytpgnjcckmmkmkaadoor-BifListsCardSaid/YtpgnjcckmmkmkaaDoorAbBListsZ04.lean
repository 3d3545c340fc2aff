/- Several texts put together: AbbT10, AbbT12, AbbT13, AbbT14, AbbT15, AbbT16, AbMono, AbbT17, AbbOp, AbbOp2, AbbT20, AbbT18, AbbT19, AbbR1, AbbR2, AbbR3, AbbR4, AbbR5, AbbR6, AbbR7, AbbR8, AbbR9, AbbA18, AbbT21, AbbT22, AbbT23, AbbT24. Conditions: as each part says. -/
import Derived.Test.YtpgnjcckmmkmkaaDoorAbBListsZ03
import Derived.Test.YtpgnjcckmmkmkaaDoorAbBListsZ00
import Derived.Test.YtpgnjcckmmkmkaaDoorAbBListsZ02
/- term.Check, term.Nodes. Conditions: limbs in range; so many nodes at most. -/
namespace Go.Ab
open Go.Proofs
set_option maxRecDepth 100000
set_option linter.unusedSimpArgs false

set_option maxHeartbeats 8000000 in
theorem tNodes_eq (n : Nat) (hn2 : n ≤ 1000000) : ∀ (d : Nat) (t : T), htT t ≤ d → nodT t < n →
    evalFn Tryd.prog cfg0 n d 23 [.tree (encT t)] = some (.tree (.int .i64 (nodT t : Int)), [[]])
  | 0, t, hd, hnd => by obtain ⟨k, b, lg, l, s, m, kg, ks⟩ := t; simp only [htT] at hd; omega
  | d + 1, t, hd, hnd => by
    have IH := tNodes_eq n hn2 d
    rw [evalFn_go _ Tryd.func23 (by unfold Tryd.f23; rfl) (by unfold Tryd.f23; decide) (Nat.le_of_ble_eq_true (by unfold Tryd.f23; rfl)) (by kernel_rfl)]
    obtain ⟨k, b, lg, l, s, m, kg, ks⟩ := t
    simp only [htT] at hd
    simp only [nodT] at hnd ⊢
    simp only [zaa, zab, zac, zad, zae, zaf, zag, zah, zai, zaj, zak, zal, zam, zan, zao, zap, zaq, zar, zas, zat, zau, zav, zaw, zax, zay, zaz, zba, zbb, zbc, zbd, zbe, zbf, zbg, zbh, zbi, zbj, zbk, zbl, zbm, zbn, zbo, zbp, zbq, Nat.reduceBEq, Bool.or_self, Bool.or_false, Bool.or_true, Bool.and_true, Bool.and_false, Bool.true_and, Bool.false_and, Option.isNone_none, Option.isNone_some, Option.isSome_some, Option.isSome_none, zbr, zbs, zbt, zbu, zbv, zbw, zbx, zby, zbz, zca, zcb, zcc, zcd, zce, zcf, zcg, zch, zci, zcj, zck, zcl, zcm, zcn, zco, zcp, zcq, zcr, own0, zcs, zct, zcu, zcv, zcw, zcx, zcy, zcz, zda, zdb, zdc, zdd, zde, zdf, zdg, zdh, zdi, zdj, zdk, zdl, zdm, zdn, zdo, zdp, zdq, zdr, zds, zdt, zdu, Option.getD_some, Option.getD_none, zfb, zfc, zfd, zfe, zff, zfg, zfh, zfi, Option.map_some, Option.map_none, Option.bind_some, List.map_cons, List.map_nil, List.cons_append, List.nil_append, ↓reduceIte, Nat.reduceEqDiff, Nat.reduceAdd, decide_true, decide_false, Bool.true_eq_false, Bool.false_eq_true, env0, List.getElem?_cons_zero, List.getElem?_cons_succ, zef, zeg, zeh, zei, zej, zek, zel, zem, zen, zeo, zep, zeq, zer, fa_0, fa_1, zes, bd_0, bd_2, zet, fd_1, zeu, Nat.zero_add, encT, cellsT, faT_4, ldT_4, lenTk, den_loop]
    refine loop_ends (X := Nat) (fun i env s' => env 7 = .sl (cellsK ks) ks.length (gr kg) ∧ env 8 = .int .i64 (ks.length : Int) ∧ env 9 = .int .i64 (i : Int) ∧ env 3 = .int .i64 ((nodK (ks.take i) + 1 : Nat) : Int) ∧ i ≤ ks.length) (fun i => ks.length - i) (fun _ => (.tree (.int .i64 ((nodK ks + 1 : Nat) : Int)), [[]])) ?_ n 0 _ _ (by have := nodK_len ks; omega) ⟨(by first | (simp only [zfi, ↓reduceIte, Nat.reduceEqDiff]; done) | (simp only [zfi, ↓reduceIte, Nat.reduceEqDiff]; rfl)), (by first | (simp only [zfi, ↓reduceIte, Nat.reduceEqDiff]; done) | (simp only [zfi, ↓reduceIte, Nat.reduceEqDiff]; rfl)), (by first | (simp only [zfi, ↓reduceIte, Nat.reduceEqDiff]; done) | (simp only [zfi, ↓reduceIte, Nat.reduceEqDiff]; rfl)), (by first | (simp only [zfi, ↓reduceIte, Nat.reduceEqDiff]; done) | (simp only [zfi, ↓reduceIte, Nat.reduceEqDiff]; rfl)), Nat.zero_le _⟩
    rintro rr i hrr ih2 env st ⟨e7, e8, e9, e3, hi⟩
    cases hdr : ks.drop i with
    | nil =>
      have hil : i = ks.length := by have := congrArg List.length hdr; simp only [List.length_drop, List.length_nil] at this; omega
      subst hil
      rw [List.take_length] at e3
      have q1 : ¬ ((ks.length : Int) < (ks.length : Int)) := by omega
      simp only [zaa, zab, zac, zad, zae, zaf, zag, zah, zai, zaj, zak, zal, zam, zan, zao, zap, zaq, zar, zas, zat, zau, zav, zaw, zax, zay, zaz, zba, zbb, zbc, zbd, zbe, zbf, zbg, zbh, zbi, zbj, zbk, zbl, zbm, zbn, zbo, zbp, zbq, Nat.reduceBEq, Bool.or_self, Bool.or_false, Bool.or_true, Bool.and_true, Bool.and_false, Bool.true_and, Bool.false_and, Option.isNone_none, Option.isNone_some, Option.isSome_some, Option.isSome_none, zbr, zbs, zbt, zbu, zbv, zbw, zbx, zby, zbz, zca, zcb, zcc, zcd, zce, zcf, zcg, zch, zci, zcj, zck, zcl, zcm, zcn, zco, zcp, zcq, zcr, own0, zcs, zct, zcu, zcv, zcw, zcx, zcy, zcz, zda, zdb, zdc, zdd, zde, zdf, zdg, zdh, zdi, zdj, zdk, zdl, zdm, zdn, zdo, zdp, zdq, zdr, zds, zdt, zdu, Option.getD_some, Option.getD_none, zfb, zfc, zfd, zfe, zff, zfg, zfh, zfi, Option.map_some, Option.map_none, Option.bind_some, List.map_cons, List.map_nil, List.cons_append, List.nil_append, ↓reduceIte, Nat.reduceEqDiff, Nat.reduceAdd, decide_true, decide_false, Bool.true_eq_false, Bool.false_eq_true, zdv, zdw, zdx, zdy, zdz, zea, zeb, zec, ia22, ld31, zed, zee, zef, zeg, zeh, zei, zej, zek, zel, zem, zen, zeo, zep, zeq, zer, fa_0, fa_1, zes, bd_0, bd_2, zet, fd_1, zeu, Nat.zero_add, e7, e8, e9, e3, q1]
      exact finish_i _ _ _ _ _ _ _ (by first | (simp only [zfi, ↓reduceIte, Nat.reduceEqDiff]; done) | (simp only [zfi, ↓reduceIte, Nat.reduceEqDiff]; rfl)) rfl
    | cons kid r =>
      have hil : i < ks.length := by have := congrArg List.length hdr; simp only [List.length_drop, List.length_cons] at this; omega
      have kh := kids_ht ks i kid r hdr
      have kn := kids_nod ks i kid r hdr
      have ht : ks.take (i + 1) = ks.take i ++ [kid] := by
        rw [List.take_add_one]
        congr 1
        have : ks[i]? = some kid := by rw [← Nat.add_zero i, ← List.getElem?_drop, hdr]; rfl
        rw [this]; rfl
      have hle : nodK (ks.take (i + 1)) ≤ nodK ks := nodK_take ks (i + 1)
      have hsum : nodK (ks.take (i + 1)) = nodK (ks.take i) + nodT kid := by
        rw [ht, nodK_app]; simp only [nodK]; omega
      have q1 : (i : Int) < (ks.length : Int) := by omega
      have f5 := i_add Tryd.prog 3 (i : Int) 1 (by omega) (by have := nodK_len ks; omega)
      have f6 := i_add Tryd.prog 3 ((nodK (ks.take i) + 1 : Nat) : Int) (nodT kid : Int) (by omega) (by omega)
      have cc := fun D st => callA_trees (cfg := cfg0) (d := D) (s := st) (f := 23) (vs := [encT kid]) rfl (IH kid (by omega) (by omega))
      simp only [encT] at cc
      have ia := fun st => ia_K st ks (gr kg) i hil
      rw [hdr] at ia
      have ld := fun st => ld_K st kid r
      simp only [encT] at ld
      simp only [zaa, zab, zac, zad, zae, zaf, zag, zah, zai, zaj, zak, zal, zam, zan, zao, zap, zaq, zar, zas, zat, zau, zav, zaw, zax, zay, zaz, zba, zbb, zbc, zbd, zbe, zbf, zbg, zbh, zbi, zbj, zbk, zbl, zbm, zbn, zbo, zbp, zbq, Nat.reduceBEq, Bool.or_self, Bool.or_false, Bool.or_true, Bool.and_true, Bool.and_false, Bool.true_and, Bool.false_and, Option.isNone_none, Option.isNone_some, Option.isSome_some, Option.isSome_none, zbr, zbs, zbt, zbu, zbv, zbw, zbx, zby, zbz, zca, zcb, zcc, zcd, zce, zcf, zcg, zch, zci, zcj, zck, zcl, zcm, zcn, zco, zcp, zcq, zcr, own0, zcs, zct, zcu, zcv, zcw, zcx, zcy, zcz, zda, zdb, zdc, zdd, zde, zdf, zdg, zdh, zdi, zdj, zdk, zdl, zdm, zdn, zdo, zdp, zdq, zdr, zds, zdt, zdu, Option.getD_some, Option.getD_none, zfb, zfc, zfd, zfe, zff, zfg, zfh, zfi, Option.map_some, Option.map_none, Option.bind_some, List.map_cons, List.map_nil, List.cons_append, List.nil_append, ↓reduceIte, Nat.reduceEqDiff, Nat.reduceAdd, decide_true, decide_false, Bool.true_eq_false, Bool.false_eq_true, zdv, zdw, zdx, zdy, zdz, zea, zeb, zec, ia22, ld31, zed, zee, zef, zeg, zeh, zei, zej, zek, zel, zem, zen, zeo, zep, zeq, zer, fa_0, fa_1, zes, bd_0, bd_2, zet, fd_1, zeu, Nat.zero_add, e7, e8, e9, e3, q1, ia, ld, zeroT, st_Tt, stT_6, ldT_u, f5, f6, cc]
      refine ih2 (i + 1) _ _ (by omega) rfl ⟨(by first | (simp only [zfi, ↓reduceIte, Nat.reduceEqDiff, e7]; done) | (simp only [zfi, ↓reduceIte, Nat.reduceEqDiff, e7]; rfl)), (by first | (simp only [zfi, ↓reduceIte, Nat.reduceEqDiff, e8]; done) | (simp only [zfi, ↓reduceIte, Nat.reduceEqDiff, e8]; rfl)), (by first | (simp only [zfi, ↓reduceIte, Nat.reduceEqDiff]; done) | (simp only [zfi, ↓reduceIte, Nat.reduceEqDiff]; rfl)), ?_, by omega⟩
      simp only [zfi, ↓reduceIte, Nat.reduceEqDiff]
      rw [hsum]
      congr 1
      omega
end Go.Ab

/- What comparing terms needs. No conditions but limbs in range. -/
namespace Go.Ab
open Go.Proofs
set_option maxRecDepth 100000
set_option linter.unusedSimpArgs false

def three (a b : Int) : Int := if a < b then -1 else if b < a then 1 else 0
theorem ld33 (s : St) (x : AV) (r : List AV) : loadA Tryd.prog 3 s (.rptr (x :: r)) = some x := by
  simp only [loadA, partA, shTi]
  rfl
theorem finish_cT (k : Bool) (xs : List Arg) (a p e : Nat) (u : T) (env : Env) (s : St) (os : List (List AV)) (ha : env a = .ptr p e 0) (hs : s p = ⟨e, .buf (cellsT u)⟩) (ho : outsA s 0 xs = some os) :
    finishP Tryd.prog k xs #[.cell a 29] env s = some (.tree (encT u), os) := by
  have hl : loadA Tryd.prog 29 s (env a) = some (.agg (cellsT u)) := by rw [ha, zem, hs, ldT_u, if_pos rfl]
  simp [finishP, isTmpR, hl, settle, ho, encT]
end Go.Ab

/- term.Cmp upon terms that may be. Conditions: terms that may be; so many nodes at most. -/
namespace Go.Ab
open Go.Proofs
set_option maxRecDepth 100000
set_option linter.unusedSimpArgs false

mutual
/-- A term that is right by itself, everywhere; limbs in range. -/
def goodT : T → Prop
  | .mk k b lg l s n kg ks => Limbs l ∧ ownT (.mk k b lg l s n kg ks) = true ∧ goodK ks
def goodK : List T → Prop
  | [] => True
  | t :: r => goodT t ∧ goodK r
end
def kindT : T → Int
  | .mk k _ _ _ _ _ _ _ => k
def strT : T → List UInt8
  | .mk _ _ _ _ s _ _ _ => s
def kidsT : T → List T
  | .mk _ _ _ _ _ _ _ ks => ks
end Go.Ab

/- term.Cmp upon terms that may be, walked. Conditions: terms that may be; so many nodes at most. -/
namespace Go.Ab
open Go.Proofs
set_option maxRecDepth 100000
set_option linter.unusedSimpArgs false

end Go.Ab

/- term.Same, walked. Conditions: so many limbs, nodes at most. -/
namespace Go.Ab
open Go.Proofs
set_option maxRecDepth 100000
set_option linter.unusedSimpArgs false

def sgnT : T → Bool
  | .mk _ b _ _ _ _ _ _ => b
def nT : T → Int
  | .mk _ _ _ _ _ n _ _ => n
mutual
def sameT : T → T → Bool
  | .mk k b _ l s n _ ks, u => if k = kindT u then
      (if k = 1 then decide (b = sgnT u) && decide (l = limT u) else if k = 2 ∨ k = 6 then decide (s = strT u) else if k = 8 then decide (s = strT u) && decide (n = nT u) else if k = 9 then decide (n = nT u)
       else if k = 7 then decide (n = nT u) && sameK ks (kidsT u) else if k = 4 ∨ k = 5 then sameK ks (kidsT u) else true) else false
def sameK : List T → List T → Bool
  | [], [] => true
  | x :: r, y :: q => sameT x y && sameK r q
  | [], _ :: _ => false
  | _ :: _, [] => false
end
theorem sameK_len : ∀ (a b : List T), a.length ≠ b.length → sameK a b = false
  | [], [], h => absurd rfl h
  | [], _ :: _, _ => by simp only [sameK]
  | _ :: _, [], _ => by simp only [sameK]
  | x :: r, y :: q, h => by simp only [sameK]; rw [sameK_len r q (by simpa using h), Bool.and_false]
/-- So many limbs at most, everywhere; so many kids. -/
theorem strEq (a b : List UInt8) : (a == b) = decide (a = b) := by rw [Bool.eq_iff_iff, beq_iff_eq, decide_eq_true_eq]
theorem intEq (x y : Int) : (x == y) = decide (x = y) := by rw [Bool.eq_iff_iff, beq_iff_eq, decide_eq_true_eq]
mutual
def fewT (m : Nat) : T → Prop
  | .mk _ _ _ l _ _ _ ks => l.length < m ∧ ks.length < m ∧ fewK m ks
def fewK (m : Nat) : List T → Prop
  | [] => True
  | t :: r => fewT m t ∧ fewK m r
end
theorem fewK_at (m : Nat) : ∀ (ks : List T) (i : Nat) (t : T) (r : List T), ks.drop i = t :: r → fewK m ks → fewT m t
  | [], i, t, r, h, _ => by simp at h
  | a :: q, 0, t, r, h, hw => by simp only [List.drop_zero, List.cons.injEq] at h; obtain ⟨rfl, rfl⟩ := h; simp only [fewK] at hw; exact hw.1
  | a :: q, i + 1, t, r, h, hw => by simp only [fewK] at hw; exact fewK_at m q i t r (by simpa using h) hw.2
end Go.Ab

/- The document's own check of a term by itself. Conditions: limbs in range; a text shorter than the rounds. -/
namespace Go.Ab
open Go.Proofs
set_option maxRecDepth 100000
set_option linter.unusedSimpArgs false

theorem i_neqV (x y : Int) : binA Tryd.prog .neq 3 (.int .i64 x) (.int .i64 y) = some (.bool (x != y)) := rfl
end Go.Ab

/- What the abstract run gives, it gives with more rounds and more depth too. No conditions. -/
namespace Go.Ab
section
variable {P : Program} {cfg : Cfg} {call call' : FuncId → List Arg → Option Out}
def Less (call call' : FuncId → List Arg → Option Out) : Prop := ∀ f as1 r, call f as1 = some r → call' f as1 = some r
theorem callA_mono (h : Less call call') {d : Nat} {s : St} {f : FuncId} {vs : List AV} {r : AV × St} (hc : callA cfg call d s f vs = some r) : callA cfg call' d s f vs = some r := by
  unfold callA at hc ⊢
  cases ha : argsA cfg f s 0 vs with
  | none => rw [ha] at hc; cases hc
  | some as1 =>
    rw [ha] at hc
    simp only [Option.bind_some] at hc ⊢
    split at hc
    · rename_i hg
      rw [if_pos hg]
      cases hcc : call f as1 with
      | none => rw [hcc] at hc; cases hc
      | some o => rw [hcc] at hc; rw [h _ _ _ hcc]; exact hc
    · cases hc
theorem callQ_mono (h : Less call call') {f : FuncId} {vs : List AV} {r : AV} (hc : callQ call f vs = some r) : callQ call' f vs = some r := by
  unfold callQ at hc ⊢
  split at hc
  · rename_i hg
    rw [if_pos hg]
    cases hcc : call f (vs.map .tree) with
    | none => rw [hcc] at hc; cases hc
    | some o => rw [hcc] at hc; rw [h _ _ _ hcc]; exact hc
  · rename_i hg
    rw [if_neg hg]
    split at hc
    · rename_i hg2
      rw [if_pos hg2]
      cases hcc : call f (vs.map fun v => .tree (loosen v)) with
      | none => rw [hcc] at hc; cases hc
      | some o => rw [hcc] at hc; rw [h _ _ _ hcc]; exact hc
    · cases hc
theorem opA_mono (h : Less call call') {q : Bool} {o : Oper} {d : Nat} {env : Env} {s : St} {r : AV × St} (hc : opA P cfg call q o d env s = some r) : opA P cfg call' q o d env s = some r := by
  obtain ⟨dst, op, ty, pos, af, g⟩ := o
  cases op with
  | call c =>
    obtain ⟨ce, as1, us⟩ := c
    cases ce with
    | value f =>
      simp only [opA] at hc ⊢
      split at hc
      · split at hc
        · rename_i hq
          rw [if_pos hq]
          split at hc
          · rename_i h1
            rw [if_pos h1]
            split at hc
            · rename_i h2
              rw [if_pos h2]
              exact callA_mono h hc
            · cases hc
          · rename_i h1
            rw [if_neg h1]
            obtain ⟨v, hcc, hv⟩ := Option.map_eq_some_iff.mp hc
            rw [callQ_mono h hcc]
            exact congrArg some hv
        · rename_i hq
          rw [if_neg hq]
          exact callA_mono h hc
      · cases hc
    | builtin b => cases b <;> exact hc
    | _ => exact hc
  | _ => exact hc
theorem opsA_mono (h : Less call call') {q : Bool} {ops : Array Oper} : ∀ (l : List Oper) {env : Env} {s : St} {r : Env × St}, opsA P cfg call q ops l env s = some r → opsA P cfg call' q ops l env s = some r
  | [], env, s, r, hc => hc
  | o :: l, env, s, r, hc => by
    simp only [opsA] at hc ⊢
    cases hw : wantA ops o env with
    | none => rw [hw] at hc; cases hc
    | some b =>
      rw [hw] at hc
      cases b with
      | false => exact opsA_mono h l hc
      | true =>
        simp only at hc ⊢
        cases ho : opA P cfg call q o (o.dst.getD 0) env s with
        | none => rw [ho] at hc; cases hc
        | some x =>
          rw [ho] at hc
          rw [opA_mono h ho]
          simp only [Option.bind_some] at hc ⊢
          exact opsA_mono h l hc
def LessK (K K' : Kont) : Prop := ∀ e env s r, K e env s = some r → K' e env s = some r
theorem loopA_mono {b b' : Kont → Env → St → Option Out} (hb : ∀ K K', LessK K K' → ∀ env s r, b K env s = some r → b' K' env s = some r) {K K' : Kont} (hK : LessK K K') :
    ∀ (n n' : Nat), n ≤ n' → ∀ env s r, loopA b K n env s = some r → loopA b' K' n' env s = some r
  | 0, n', _, env, s, r, hc => by cases hc
  | n + 1, n', hn, env, s, r, hc => by
    obtain ⟨m, rfl⟩ : ∃ m, n' = m + 1 := ⟨n' - 1, by omega⟩
    simp only [loopA] at hc ⊢
    refine hb _ _ (fun e env s r h => ?_) _ _ _ hc
    cases e with
    | normal => exact loopA_mono hb hK n m (by omega) _ _ _ h
    | exit i => exact hK _ _ _ _ h
    | ret => exact hK _ _ _ _ h
theorem den_mono (h : Less call call') {n n' : Nat} (hn : n ≤ n') : ∀ (c : Code) {K K' : Kont}, LessK K K' → ∀ {env : Env} {s : St} {r : Out}, den P cfg call n c K env s = some r → den P cfg call' n' c K' env s = some r
  | .skip, K, K', hK, env, s, r, hc => hK _ _ _ _ hc
  | .label _, K, K', hK, env, s, r, hc => hK _ _ _ _ hc
  | .region _ ops draw, K, K', hK, env, s, r, hc => by
    simp only [den] at hc ⊢
    cases ho : opsA P cfg call draw ops ops.toList env (killI cfg.keep draw ops.toList s) with
    | none => rw [ho] at hc; cases hc
    | some x =>
      rw [ho] at hc
      rw [opsA_mono h _ ho]
      exact hK _ _ _ _ hc
  | .seq a b, K, K', hK, env, s, r, hc => by
    simp only [den] at hc ⊢
    refine den_mono h hn a (fun e env s r hh => ?_) hc
    cases e with
    | normal => exact den_mono h hn b hK hh
    | exit i => exact hK _ _ _ _ hh
    | ret => exact hK _ _ _ _ hh
  | .cond c a b, K, K', hK, env, s, r, hc => by
    simp only [den] at hc ⊢
    cases hv : ev env c <;> rw [hv] at hc <;> try cases hc
    rename_i x
    cases x with
    | true => exact den_mono h hn a hK hc
    | false => exact den_mono h hn b hK hc
  | .scope a, K, K', hK, env, s, r, hc => by
    simp only [den] at hc ⊢
    exact den_mono h hn a hK hc
  | .block id a, K, K', hK, env, s, r, hc => by
    simp only [den] at hc ⊢
    refine den_mono h hn a (fun e env s r hh => ?_) hc
    cases e with
    | normal => exact hK _ _ _ _ hh
    | exit i =>
      simp only at hh ⊢
      split at hh
      · rename_i hi; rw [if_pos hi]; exact hK _ _ _ _ hh
      · rename_i hi; rw [if_neg hi]; exact hK _ _ _ _ hh
    | ret => exact hK _ _ _ _ hh
  | .loop a, K, K', hK, env, s, r, hc => by
    simp only [den] at hc ⊢
    exact loopA_mono (b := den P cfg call n a) (b' := den P cfg call' n' a) (fun K K' hK env s r hh => den_mono h hn a hK hh) hK n n' hn _ _ _ hc
  | .exit id, K, K', hK, env, s, r, hc => hK _ _ _ _ hc
  | .ret, K, K', hK, env, s, r, hc => hK _ _ _ _ hc
  | .rangeFunc .., K, K', hK, env, s, r, hc => by cases hc
  | .goto _, K, K', hK, env, s, r, hc => by cases hc
  | .refuse _, K, K', hK, env, s, r, hc => by cases hc
theorem evalFn_mono {n n' : Nat} (hn : n ≤ n') : ∀ (d d' : Nat), d ≤ d' → Less (evalFn P cfg n d) (evalFn P cfg n' d')
  | 0, _, _, f, as1, r, hc => by cases hc
  | d + 1, d', hd, f, as1, r, hc => by
    obtain ⟨m, rfl⟩ : ∃ m, d' = m + 1 := ⟨d' - 1, by omega⟩
    simp only [evalFn] at hc ⊢
    cases hp : cfg.prim f as1 with
    | some o => rw [hp] at hc; exact hc
    | none =>
      rw [hp] at hc
      simp only at hc ⊢
      cases hf : P.funcs[f]? with
      | none => rw [hf] at hc; cases hc
      | some fn =>
        rw [hf] at hc
        simp only at hc ⊢
        cases hb : fn.body with
        | none => rw [hb] at hc; cases hc
        | some c =>
          rw [hb] at hc
          simp only at hc ⊢
          split at hc
          · rename_i hg
            rw [if_pos hg]
            exact den_mono (evalFn_mono hn d m (by omega)) hn _ (fun _ _ _ _ hh => hh) hc
          · cases hc
end
end Go.Ab

/- The document's own check of terms, walked. Conditions: limbs in range; texts shorter than the rounds. -/
namespace Go.Ab
open Go.Proofs
set_option maxRecDepth 100000
set_option linter.unusedSimpArgs false

mutual
/-- Limbs in range, texts not too long, everywhere. -/
def bigT (R : Nat) : T → Prop
  | .mk _ _ _ l s _ _ ks => Limbs l ∧ s.length < R ∧ bigK R ks
def bigK (R : Nat) : List T → Prop
  | [] => True
  | t :: r => bigT R t ∧ bigK R r
end
theorem bigK_at (R : Nat) : ∀ (ks : List T) (i : Nat) (t : T) (r : List T), ks.drop i = t :: r → bigK R ks → bigT R t
  | [], i, t, r, h, _ => by simp at h
  | a :: q, 0, t, r, h, hw => by simp only [List.drop_zero, List.cons.injEq] at h; obtain ⟨rfl, rfl⟩ := h; simp only [bigK] at hw; exact hw.1
  | a :: q, i + 1, t, r, h, hw => by simp only [bigK] at hw; exact bigK_at R q i t r (by simpa using h) hw.2
end Go.Ab

/- Terms out of a statement's reading. No conditions. -/
namespace Go.Ab
open Go.Proofs Go.RowKit Go.ChangeShapes Go.WideShapes Go.ChangeAt
set_option maxRecDepth 100000

/-- Texts and lists are no longer than that. -/
def R0 : Nat := 9223372036854775808
theorem R0_max : maxLen < R0 := by unfold R0 maxLen; decide
theorem R0_in {n : Nat} (h : n ≤ maxLen) : n < R0 := Nat.lt_of_le_of_lt h R0_max
theorem R0_pos : 0 < R0 := by unfold R0; decide
set_option maxRecDepth 100000 in
theorem und28 : ∃ f0 f1 f2 f3 f4 : Field, Tryd.prog.underlying 29 = some (.struct #[f0, f1, f2, f3, f4]) ∧ (f0.type = 3 ∧ f1.type = 27 ∧ f2.type = 9 ∧ f3.type = 3 ∧ f4.type = 22) ∧ (f0.offset = 0 ∧ f1.offset = 1 ∧ f2.offset = 3 ∧ f3.offset = 4 ∧ f4.offset = 5) := by
  exact ⟨_, _, _, _, _, Tryd.underlying29, ⟨rfl, rfl, rfl, rfl, rfl⟩, ⟨rfl, rfl, rfl, rfl, rfl⟩⟩
theorem cells28 : Tryd.prog.cellsOf 29 = 6 := by kernel_rfl
theorem cellsOI : Tryd.prog.cellsOf 3 = 1 := by kernel_rfl
theorem cellsS : Tryd.prog.cellsOf 9 = 1 := by kernel_rfl
theorem cellsTk : Tryd.prog.cellsOf 22 = 1 := by kernel_rfl
theorem VC_app {S : Nat → Nat → Prop} {w : World} {b : Nat} : ∀ (xs ys : List AV) (o : Nat), VC S w xs b o → VC S w ys b (o + xs.length) → VC S w (xs ++ ys) b o
  | [], ys, o, _, h => by simpa using h
  | x :: xs, ys, o, h, h' => by
    simp only [List.cons_append, VC] at h ⊢
    exact ⟨h.1, h.2.1, VC_app xs ys (o + 1) h.2.2 (by rw [List.length_cons] at h'; rw [show o + 1 + xs.length = o + (xs.length + 1) by omega]; exact h')⟩
theorem VC_of_VL {S : Nat → Nat → Prop} {w : World} {b : Nat} : ∀ (xs : List AV) (vs : List Value) (o : Nat), VL S w xs vs → (∀ j v, vs[j]? = some v → S b (o + j) ∧ w.cell? ⟨b, o + j, none⟩ = some v) → VC S w xs b o
  | [], _, _, _, _ => by simp only [VC]
  | x :: xs, vs, o, h, hc => by
    simp only [VL] at h
    obtain ⟨v, r, rfl, h1, h2, h3⟩ := h
    simp only [VC]
    have h0 := hc 0 v rfl
    refine ⟨h0.1, ⟨v, h0.2, h1, h2⟩, VC_of_VL xs r (o + 1) h3 fun j u hj => ?_⟩
    have := hc (j + 1) u (by simpa using hj)
    rw [show o + (j + 1) = o + 1 + j by omega] at this
    exact this
theorem VC_terms {S : Nat → Nat → Prop} {w : World} {b : Nat} (R : Nat) : ∀ (len o : Nat), (∀ i, i < len → ∃ t, bigT R t ∧ fewT R t ∧ VC S w (cellsT t) b (o + i * 6)) → ∃ ks : List T, ks.length = len ∧ bigK R ks ∧ fewK R ks ∧ VC S w (cellsK ks) b o
  | 0, o, _ => ⟨[], rfl, by simp only [bigK], by simp only [fewK], by simp only [cellsK, VC]⟩
  | len + 1, o, h => by
    obtain ⟨t, h1, h2, h3⟩ := h 0 (by omega)
    obtain ⟨ks, k0, k1, k2, k3⟩ := VC_terms R len (o + 6) fun i hi => by
      obtain ⟨t, a1, a2, a3⟩ := h (i + 1) (by omega)
      exact ⟨t, a1, a2, by rw [show o + 6 + i * 6 = o + (i + 1) * 6 by omega]; exact a3⟩
    refine ⟨t :: ks, by simp [k0], by simp only [bigK]; exact ⟨h1, k1⟩, by simp only [fewK]; exact ⟨h2, k2⟩, ?_⟩
    simp only [cellsK]
    exact VC_app _ _ _ (by simpa using h3) (by rw [cellsT_len]; exact k3)
theorem cell_lt {w : World} {a : Addr} {v : Value} (h : w.cell? a = some v) : a.block < w.heap.size := by
  rw [World.cell?] at h
  cases hb : w.heap[a.block]? with
  | none => simp only [hb] at h; cases h
  | some o => exact (Array.getElem?_eq_some_iff.mp hb).1
theorem add_none (b o i : Nat) : (⟨b, o, none⟩ : Addr).add i = ⟨b, o + i, none⟩ := by
  unfold Addr.add
  split
  · rename_i h; rw [h]; rfl
  · rfl
theorem V0_str {S : Nat → Nat → Prop} {w : World} (s : ByteArray) : V0 S w (.str s.data.toList) (.string s) := by simp [V0]
section
variable {H : Type} {enc : TypeId × Value → H} {w : World} {base : Nat} {held : Bool}
theorem openT_cells : ∀ (fuel : Nat) (cs : List Value) (x : DataW H × List MemPlace), DataW.trod enc Tryd.prog w base (fun _ => true) held fuel 29 cs = some x →
    ∃ t : T, bigT R0 t ∧ fewT R0 t ∧ VL (old w) w (cellsT t) cs ∧ cs.length = 6
  | fuel, cs, x, h => by
    obtain ⟨f0, f1, f2, f3, f4, hu, ⟨t0, t1, t2, t3, t4⟩, ⟨o0, o1, o2, o3, o4⟩⟩ := und28
    obtain ⟨xs, n, hfu, _, hl, hxs, hf⟩ := DataW.trod_struct hu h
    rw [cells28] at hl
    match cs, hl with
    | [c0, c1, c2, c3, c4, c5], _ =>
      match xs, hxs with
      | [y0, y1, y2, y3, y4], _ =>
        have g0 := hf 0 f0 rfl
        have g1 := hf 1 f1 rfl
        have g2 := hf 2 f2 rfl
        have g3 := hf 3 f3 rfl
        have g4 := hf 4 f4 rfl
        rw [t0, o0, cellsOI] at g0
        rw [t1, o1, cells24] at g1
        rw [t2, o2, cellsS] at g2
        rw [t3, o3, cellsOI] at g3
        rw [t4, o4, cellsTk] at g4
        simp only [List.drop_zero, List.drop_succ_cons, List.take_succ_cons, List.take_zero, List.getElem?_cons_zero, List.getElem?_cons_succ] at g0 g1 g2 g3 g4
        obtain ⟨k, e0, _, _⟩ := DataW.trod_int Tryd.underlying3 g0
        obtain ⟨s, e2, _, hs⟩ := DataW.trod_string Tryd.underlying9 g2
        obtain ⟨m, e3, _, _⟩ := DataW.trod_int Tryd.underlying3 g3
        simp only [List.cons.injEq, and_true] at e0 e2 e3
        subst e0; subst e2; subst e3
        obtain ⟨n0, n1, hnu, s0, s1, p0, p1⟩ := und24
        obtain ⟨ys, n', _, _, hl2, hys, hf2⟩ := DataW.trod_struct hnu g1
        match ys, hys with
        | [z0, z1], _ =>
          have q0 := hf2 0 n0 rfl
          have q1 := hf2 1 n1 rfl
          rw [s0, p0, cells4] at q0
          rw [s1, p1, cells22] at q1
          simp only [List.drop_zero, List.drop_succ_cons, List.take_succ_cons, List.take_zero, List.getElem?_cons_zero, List.getElem?_cons_succ] at q0 q1
          obtain ⟨b, eb, _⟩ := DataW.trod_bool Tryd.underlying4 q0
          simp only [List.cons.injEq, and_true] at eb
          subst eb
          have hlim : ∃ l : List Nat, Limbs l ∧ l.length < R0 ∧ V0 (old w) w (encL .l l) c2 ∧ c2.oneCell' = true := by
            rcases open_ints Tryd.underlying25 Tryd.underlying49 (by kernel_rfl) q1 with ⟨hc, _⟩ | ⟨x, l, c, zs, hc, _, hl, hm, hz, _, hcell, hwz⟩
            · simp only [List.cons.injEq, and_true] at hc
              subst hc
              obtain ⟨l, h1, h2⟩ := limbsOf (w := w) (a := none) (len := 0) (cap := 0) (zs := []) (.inl ⟨rfl, rfl, rfl, rfl⟩)
              have hlen : l.length = 0 := by
                simp only [encL, V0] at h2
                obtain ⟨a, cap, he, _⟩ := h2
                injection he with _ h3 _
                exact h3.symm
              exact ⟨l, h1, by rw [hlen]; exact R0_in (by omega), h2, rfl⟩
            · simp only [List.cons.injEq, and_true] at hc
              subst hc
              obtain ⟨l', h1, h2⟩ := limbsOf (w := w) (a := some x) (len := l) (cap := c) (zs := zs) (.inr ⟨x, rfl, hl, hm, by simpa using hz, hcell, hwz⟩)
              have hlen : l'.length = l := by
                simp only [encL, V0] at h2
                obtain ⟨a, cap, he, _⟩ := h2
                injection he with _ h3 _
                exact h3.symm
              exact ⟨l', h1, by rw [hlen]; exact R0_in (by omega), h2, rfl⟩
          obtain ⟨l, hL, hLl, hV2, hO2⟩ := hlim
          have hkids : ∃ ks : List T, ks.length < R0 ∧ bigK R0 ks ∧ fewK R0 ks ∧ V0 (old w) w (.sl (cellsK ks) ks.length (gr .l)) c5 ∧ c5.oneCell' = true := by
            rcases DataW.trod_slice Tryd.underlying22 g4 with ⟨hc, _⟩ | ⟨a, len, cap, elems, rest, n2, hfn, hc, _, hb, hle, hm, hlen, hel, hsp, _⟩
            · simp only [List.cons.injEq, and_true] at hc
              subst hc
              refine ⟨[], R0_pos, by simp only [bigK], by simp only [fewK], ?_, rfl⟩
              simp only [V0, cellsK]
              exact ⟨none, 0, rfl, by simp, by simp [gr], by simp [Grip.isTok, gr], .inl (by simp)⟩
            · simp only [List.cons.injEq, and_true] at hc
              subst hc
              by_cases hcap : cap = 0
              · subst hcap
                have : len = 0 := by omega
                subst this
                refine ⟨[], R0_pos, by simp only [bigK], by simp only [fewK], ?_, rfl⟩
                simp only [V0, cellsK]
                exact ⟨some a, 0, rfl, by simp, by simp [gr], by simp [Grip.isTok, gr], .inl (by simp)⟩
              · have hsp := hsp rfl
                have key : ∀ i, i < cap → ∃ cs' y, w.cells? base (a.add (i * 6)) 6 = some cs' ∧ DataW.trod enc Tryd.prog w base (fun _ => true) held n2 29 cs' = some y := by
                  intro i hi
                  by_cases hil : i < len
                  · have h1 := hel i hil
                    rw [cells28] at h1
                    have h2 : elems[i]? = some (elems[i]'(by omega)) := List.getElem?_eq_getElem (by omega)
                    rw [h2] at h1
                    obtain ⟨cs', k1, k2⟩ := Option.bind_eq_some_iff.mp h1
                    exact ⟨cs', _, k1, k2⟩
                  · have h1 := hsp.2 (i - len) (by omega)
                    rw [cells28, show len + (i - len) = i by omega] at h1
                    have h2 : rest[i - len]? = some (rest[i - len]'(by omega)) := List.getElem?_eq_getElem (by omega)
                    rw [h2] at h1
                    obtain ⟨cs', k1, k2⟩ := Option.bind_eq_some_iff.mp h1
                    exact ⟨cs', _, k1, k2⟩
                obtain ⟨bl, of, spot⟩ := a
                have hs : spot = none := by
                  obtain ⟨cs', y, k1, k2⟩ := key 0 (by omega)
                  obtain ⟨_, h2, h3⟩ := World.cells?_some k1
                  have h4 := h3 0 (by omega)
                  have h5 : cs'[0]? = some (cs'[0]'(by omega)) := List.getElem?_eq_getElem (by omega)
                  rw [h5] at h4
                  simpa [Addr.add] using World.cell?_spot h4
                subst hs
                obtain ⟨ks, k0, k1, k2, k3⟩ := VC_terms (S := old w) (w := w) (b := bl) R0 len of fun i hi => by
                  obtain ⟨cs', y, a1, a2⟩ := key i (by omega)
                  obtain ⟨t, b1, b2, b3, b4⟩ := openT_cells n2 cs' y a2
                  refine ⟨t, b1, b2, VC_of_VL _ _ _ b3 fun j v hj => ?_⟩
                  obtain ⟨_, c1, c2⟩ := World.cells?_some a1
                  have hj6 : j < 6 := by rw [← c1]; exact (List.getElem?_eq_some_iff.mp hj).1
                  have c3 := c2 j hj6
                  rw [hj, add_none, add_none] at c3
                  exact ⟨cell_lt c3, c3⟩
                refine ⟨ks, by rw [k0]; exact R0_in (by omega), k1, k2, ?_, rfl⟩
                simp only [V0]
                exact ⟨_, cap, by rw [k0], by rw [k0]; exact hle, by simp [gr], by simp [Grip.isTok, gr], .inr ⟨bl, of, rfl, k3⟩⟩
          obtain ⟨ks, hk1, hk2, hk3, hk4, hk5⟩ := hkids
          refine ⟨.mk k b .l l s.data.toList m .l ks, ?_, ?_, ?_, rfl⟩
          · simp only [bigT]
            exact ⟨hL, by have : s.data.toList.length = s.size := Array.length_toList
                          rw [this]; exact R0_in (by omega), hk2⟩
          · simp only [fewT]
            exact ⟨hLl, hk1, hk3⟩
          · simp only [cellsT, VL]
            exact ⟨_, _, rfl, rfl, by simp only [V0], _, _, rfl, rfl, by simp only [V0], _, _, rfl, hO2, hV2, _, _, rfl, rfl, V0_str s, _, _, rfl, rfl, by simp only [V0], _, _, rfl, hk5, hk4, rfl⟩
termination_by fuel => fuel
decreasing_by all_goals omega
end
end Go.Ab

/- Rows of terms in memory, as a statement's reading gives them. No conditions. -/
namespace Go.Ab
open Go.Proofs Go.RowKit
set_option maxRecDepth 100000
def IsTerms (w : World) (a : Option Addr) (len cap : Nat) : Prop := ∃ ks : List T, ks.length = len ∧ bigK R0 ks ∧ fewK R0 ks ∧ V0 (old w) w (.sl (cellsK ks) len .loose) (.slice a len cap)
section
variable {H : Type} {enc : TypeId × Value → H} {w : World} {base : Nat} {held : Bool}
theorem openTerms {a : Option Addr} {len cap : Nat} {d : DataW H} {ps : List MemPlace} (h : DataW.Trod enc Tryd.prog w base (fun _ => true) held 22 (.slice a len cap) d ps) : IsTerms w a len cap := by
  obtain ⟨fuel, hf⟩ := h
  have hk : ∀ c5 : Value, DataW.trod enc Tryd.prog w base (fun _ => true) held fuel 22 [c5] = some (d, ps) → ∃ ks : List T, ks.length < R0 ∧ bigK R0 ks ∧ fewK R0 ks ∧ V0 (old w) w (.sl (cellsK ks) ks.length (gr .l)) c5 ∧ c5.oneCell' = true := by
    intro c5 hf
    rcases DataW.trod_slice Tryd.underlying22 hf with ⟨hc, _⟩ | ⟨a, len, cap, elems, rest, n2, hfn, hc, _, hb, hle, hm, hlen, hel, hsp, _⟩
    · simp only [List.cons.injEq, and_true] at hc
      subst hc
      refine ⟨[], R0_pos, by simp only [bigK], by simp only [fewK], ?_, rfl⟩
      simp only [V0, cellsK]
      exact ⟨none, 0, rfl, by simp, by simp [gr], by simp [Grip.isTok, gr], .inl (by simp)⟩
    · simp only [List.cons.injEq, and_true] at hc
      subst hc
      by_cases hcap : cap = 0
      · subst hcap
        have : len = 0 := by omega
        subst this
        refine ⟨[], R0_pos, by simp only [bigK], by simp only [fewK], ?_, rfl⟩
        simp only [V0, cellsK]
        exact ⟨some a, 0, rfl, by simp, by simp [gr], by simp [Grip.isTok, gr], .inl (by simp)⟩
      · have hsp := hsp rfl
        have key : ∀ i, i < cap → ∃ cs' y, w.cells? base (a.add (i * 6)) 6 = some cs' ∧ DataW.trod enc Tryd.prog w base (fun _ => true) held n2 29 cs' = some y := by
          intro i hi
          by_cases hil : i < len
          · have h1 := hel i hil
            rw [cells28] at h1
            have h2 : elems[i]? = some (elems[i]'(by omega)) := List.getElem?_eq_getElem (by omega)
            rw [h2] at h1
            obtain ⟨cs', k1, k2⟩ := Option.bind_eq_some_iff.mp h1
            exact ⟨cs', _, k1, k2⟩
          · have h1 := hsp.2 (i - len) (by omega)
            rw [cells28, show len + (i - len) = i by omega] at h1
            have h2 : rest[i - len]? = some (rest[i - len]'(by omega)) := List.getElem?_eq_getElem (by omega)
            rw [h2] at h1
            obtain ⟨cs', k1, k2⟩ := Option.bind_eq_some_iff.mp h1
            exact ⟨cs', _, k1, k2⟩
        obtain ⟨bl, of, spot⟩ := a
        have hs : spot = none := by
          obtain ⟨cs', y, k1, k2⟩ := key 0 (by omega)
          obtain ⟨_, h2, h3⟩ := World.cells?_some k1
          have h4 := h3 0 (by omega)
          have h5 : cs'[0]? = some (cs'[0]'(by omega)) := List.getElem?_eq_getElem (by omega)
          rw [h5] at h4
          simpa [Addr.add] using World.cell?_spot h4
        subst hs
        obtain ⟨ks, k0, k1, k2, k3⟩ := VC_terms (S := old w) (w := w) (b := bl) R0 len of fun i hi => by
          obtain ⟨cs', y, a1, a2⟩ := key i (by omega)
          obtain ⟨t, b1, b2, b3, b4⟩ := openT_cells n2 cs' y a2
          refine ⟨t, b1, b2, VC_of_VL _ _ _ b3 fun j v hj => ?_⟩
          obtain ⟨_, c1, c2⟩ := World.cells?_some a1
          have hj6 : j < 6 := by rw [← c1]; exact (List.getElem?_eq_some_iff.mp hj).1
          have c3 := c2 j hj6
          rw [hj, add_none, add_none] at c3
          exact ⟨cell_lt c3, c3⟩
        refine ⟨ks, by rw [k0]; exact R0_in (by omega), k1, k2, ?_, rfl⟩
        simp only [V0]
        exact ⟨_, cap, by rw [k0], by rw [k0]; exact hle, by simp [gr], by simp [Grip.isTok, gr], .inr ⟨bl, of, rfl, k3⟩⟩

  obtain ⟨ks, h1, h2, h3, h4, _⟩ := hk _ hf
  have hl : ks.length = len := by
    simp only [V0] at h4
    obtain ⟨_, _, e, _⟩ := h4
    injection e with _ e2 _
    exact e2.symm
  exact ⟨ks, hl, h2, h3, by rw [hl] at h4; exact h4⟩
end
end Go.Ab

/- Lists of terms: term.List; rows of terms that grow. Conditions: lengths in range. -/
namespace Go.Ab
open Go.Proofs
set_option maxRecDepth 100000
set_option linter.unusedSimpArgs false

theorem callQ_loose {call : FuncId → List Arg → Option Out} {f : FuncId} {vs vs' : List AV} {v : AV} {os : List (List AV)} (h0 : vs.all isTree = false) (ht : vs.all isLent = true) (e : vs.map loosen = vs') (hc : call f (vs'.map Arg.tree) = some (.tree v, os)) : callQ call f vs = some v := by
  have e2 : (vs.map fun v => Arg.tree (loosen v)) = vs'.map .tree := by rw [← e]; simp
  simp only [callQ, h0, ht, Bool.false_eq_true, if_false, if_true, e2, hc, Option.bind_some]
/-- A cell of a list. -/
def consT (h t : T) : T := .mk 4 false .n [] [] 0 .t [h, t]
def listT : List T → T → T
  | [], t => t
  | h :: r, t => consT h (listT r t)
theorem cells_cons (h t : T) : cellsT (consT h t) = consV (cellsT h) (cellsT t) := by
  simp only [consT, cellsT, cellsK, consV, List.append_nil, encL, encC, List.map_nil, List.length_nil, gr, List.length_cons, Nat.reduceAdd]
theorem chunk_K (ks : List T) (i : Nat) (t : T) (r : List T) (h : ks.drop i = t :: r) : chunk (cellsK ks) i = cellsT t := by
  rw [chunk, cellsK_drop, h]
  simp only [cellsK]
  rw [List.take_append_of_le_length (by rw [cellsT_len]; exact Nat.le_refl _), List.take_of_length_le (by rw [cellsT_len]; exact Nat.le_refl _)]
theorem listT_snoc (h : T) : ∀ (r : List T) (t : T), listT (r ++ [h]) t = listT r (consT h t)
  | [], t => rfl
  | a :: r, t => by simp only [List.cons_append, listT, listT_snoc h r t]
theorem lstN_K (ks : List T) : ∀ (n : Nat) (t : T), n ≤ ks.length → lstN (cellsK ks) n (cellsT t) = cellsT (listT (ks.take n) t)
  | 0, t, _ => rfl
  | n + 1, t, h => by
    have hd : ks.drop n = ks[n] :: ks.drop (n + 1) := List.drop_eq_getElem_cons h
    rw [lstN, chunk_K ks n _ _ hd, ← cells_cons, lstN_K ks n _ (by omega), List.take_succ_eq_append_getElem h, listT_snoc]
theorem tList_eq (n d : Nat) (ks : List T) (g : Grip) (t : T) (h : ks.length ≤ 9223372036854775807) : evalFn Tryd.prog cfg0 n (d+1) 55 [.tree (.sl (cellsK ks) ks.length g), .tree (encT t)] = some (.tree (encT (listT ks t)), [[], []]) := by
  have hp : prim0 55 [.tree (.sl (cellsK ks) ks.length g), .tree (encT t)] = some (.tree (encT (listT ks t)), [[], []]) := by
    unfold prim0
    rw [if_neg (by decide), if_pos (by decide)]
    have e := lstN_K ks ks.length t (Nat.le_refl _)
    rw [List.take_length] at e
    simp only [listP, encT]
    rw [if_pos ⟨cellsK_len ks, cellsT_len t, h⟩, e]
  have hc : cfg0.prim = prim0 := rfl
  rw [evalFn]
  simp only [hc, hp]
/-! ### Rows that grow -/
theorem by28 : decide (byOf Tryd.prog 29 ≤ 200) = true := by kernel_rfl
theorem zl28 : (zeroOf Tryd.prog 29).map List.length = some 6 := by kernel_rfl
/-- A row that is being made at one place. -/
def Ap (s : St) (d : Nat) (x : AV) (us : List T) : Prop := (us = [] ∧ x = .sl [] 0 .nil) ∨ (us ≠ [] ∧ ∃ t, x = .sl (cellsK us) us.length (.tok d t) ∧ s d = ⟨t, .tok 6⟩)
theorem Ap.push {s : St} {d : Nat} {x : AV} {us : List T} (h : Ap s d x us) (hl : us.length ≤ 1000000) (v : T) :
    ∃ x' s', appendA Tryd.prog #[22, 22] d s x (.sl (cellsT v) 1 .tight) = some (x', s') ∧ Ap s' d x' (us ++ [v]) ∧ ∀ q, q ≠ d → s' q = s q := by
  have hb := of_decide_eq_true by28
  have hk : cellsK (us ++ [v]) = cellsK us ++ cellsT v := by rw [cellsK_append]; simp only [cellsK, List.append_nil]
  have hm : ∀ s, moreA Tryd.prog 29 6 (some 22) s (.sl (cellsT v) 1 .tight) = some (cellsT v, 1) := fun s => by
    simp only [moreA, Option.map_some, tkTk, cellsT_len, Nat.one_mul, ↓reduceIte]
  have hc : (us.length + 1) * byOf Tryd.prog 29 ≤ 140737488355328 ∧ us.length + 1 ≤ 9223372036854775807 := by
    have : (us.length + 1) * byOf Tryd.prog 29 ≤ 1000001 * 200 := Nat.mul_le_mul (by omega) hb
    omega
  rcases h with ⟨rfl, rfl⟩ | ⟨_, t, rfl, hs⟩
  · refine ⟨_, upd s d ⟨(s d).t + 1, .tok 6⟩, ?_, .inr ⟨by simp, (s d).t + 1, rfl, upd_same _ _ _⟩, fun q hq => upd_ne _ _ hq⟩
    simp only [appendA, List.getElem?_toArray, List.getElem?_cons_zero, List.getElem?_cons_succ, Option.map_some, tkTk, eszT, Option.bind_some, hm, baseA, List.length_nil, Nat.zero_mul, ↓reduceIte, zl28, and_true]
    rw [if_pos (by simpa using hc)]
    simp [cellsK]
  · refine ⟨_, upd (upd s d ⟨t, .dead⟩) d ⟨t + 1, .tok 6⟩, ?_, .inr ⟨by simp, t + 1, rfl, upd_same _ _ _⟩, fun q hq => (upd_ne _ _ hq).trans (upd_ne _ _ hq)⟩
    simp only [appendA, List.getElem?_toArray, List.getElem?_cons_zero, List.getElem?_cons_succ, Option.map_some, tkTk, eszT, Option.bind_some, hm, baseA, hs, cellsK_len, and_self, ↓reduceIte, zl28, and_true]
    rw [if_pos hc]
    simp only [upd_same, List.length_append, List.length_cons, List.length_nil, Nat.zero_add, hk]
/-- The row behind it all, as a term's. -/
def kgOf (us : List T) : Gk := if us = [] then .n else .l
theorem Ap.settled {s : St} {d : Nat} {x : AV} {us : List T} (h : Ap s d x us) : Go.Ab.settled x = some (.sl (cellsK us) us.length (gr (kgOf us))) := by
  rcases h with ⟨rfl, rfl⟩ | ⟨hu, t, rfl, _⟩
  · rfl
  · simp only [Go.Ab.settled, kgOf, if_neg hu, gr]
end Go.Ab

/- Terms in their order: mathematics. Conditions: terms that may be. -/
namespace Go.Ab
open Go.Proofs
set_option maxRecDepth 100000
set_option linter.unusedSimpArgs false

end Go.Ab

/- The statement TermOrders. Conditions: limbs in range; texts in range. -/
namespace Go.Ab
open Go.Proofs
set_option maxRecDepth 100000
set_option linter.unusedSimpArgs false

mutual
theorem ht_nod : ∀ t : T, htT t ≤ nodT t
  | .mk _ _ _ _ _ _ _ ks => by have := htK_nod ks; simp only [htT, nodT]; omega
theorem htK_nod : ∀ ks : List T, htK ks ≤ nodK ks
  | [] => Nat.le_refl _
  | t :: r => by have := ht_nod t; have := htK_nod r; simp only [htK, nodK]; omega
end
end Go.Ab

/- The reference's own functions on numbers: reading, normal forms, comparing. Conditions: limbs in range, not too many. -/
namespace Go.Ab
open Go.Proofs
set_option maxRecDepth 100000
set_option linter.unusedSimpArgs false

/-- A part of a list, from its beginning. -/
theorem slice22h (s : St) (b : Gk) (l : List Nat) (k : Nat) (h : k ≤ l.length) : ∃ b', sliceA Tryd.prog 25 s (encL b l) none (some (.int .i64 (k : Int))) none = some (encL b' (l.take k)) := by
  have hx : (encC l).length = l.length * 1 := by rw [encC_len]; omega
  simp only [sliceA, tk22, encL, esz31, Option.isSome_none, Option.isNone_some, Bool.false_eq_true, false_and, if_false, boundA, Option.bind_some, hx, if_true, Int.toNat_natCast]
  rw [if_pos (by omega)]
  simp only [Option.bind_some, Nat.zero_mul, List.drop_zero, Nat.sub_zero, Nat.mul_one, encC_take]
  have hl : (l.take k).length = k := by rw [List.length_take]; omega
  rw [hl]
  by_cases hc : (false = true ∧ l.length = k) ∨ (none = (none : Option AV) ∧ (gr b = .tight ∨ gr b = .nil) ∧ k = l.length)
  · exact ⟨.t, by simp_all [gr]⟩
  · exact ⟨.l, by simp_all [gr]⟩
def encF (v : Nat) : AV := encL .l (digs v)
theorem rnorm_eq (n d : Nat) (b : Gk) (l : List Nat) (hl : Limbs l) (hn : l.length < n) (hlen : l.length ≤ 1000000) : evalFn Tryd.prog cfg0 n (d+1) 80 [.tree (encL b l)] = some (.tree (encF (val l)), [[]]) := by
  rw [evalFn_go _ Tryd.func80 (by unfold Tryd.f80; rfl) (by unfold Tryd.f80; decide) (Nat.le_of_ble_eq_true (by unfold Tryd.f80; rfl)) (by kernel_rfl)]
  simp only [zaa, zab, zac, zad, zae, zaf, zag, zah, zai, zaj, zak, zal, zam, zan, zao, zap, zaq, zar, zas, zat, zau, zav, zaw, zax, zay, zaz, zba, zbb, zbc, zbd, zbe, zbf, zbg, zbh, zbi, zbj, zbk, zbl, zbm, zbn, zbo, zbp, zbq, Nat.reduceBEq, Bool.or_self, Bool.or_false, Bool.or_true, Bool.and_true, Bool.and_false, Bool.true_and, Bool.false_and, Option.isNone_none, Option.isNone_some, Option.isSome_some, Option.isSome_none, zbr, zbs, zbt, zbu, zbv, zbw, zbx, zby, zbz, zca, zcb, zcc, zcd, zce, zcf, zcg, zch, zci, zcj, zck, zcl, zcm, zcn, zco, zcp, zcq, zcr, own0, zcs, zct, zcu, zcv, zcw, zcx, zcy, zcz, zda, zdb, zdc, zdd, zde, zdf, zdg, zdh, zdi, zdj, zdk, zdl, zdm, zdn, zdo, zdp, zdq, zdr, zds, zdt, zdu, Option.getD_some, Option.getD_none, zfb, zfc, zfd, zfe, zff, zfg, zfh, zfi, Option.map_some, Option.map_none, Option.bind_some, List.map_cons, List.map_nil, List.cons_append, List.nil_append, ↓reduceIte, Nat.reduceEqDiff, Nat.reduceAdd, decide_true, decide_false, Bool.true_eq_false, Bool.false_eq_true, env0, List.getElem?_cons_zero, List.getElem?_cons_succ, zdv, zdw, zdx, zdy, zdz, zea, zeb, zec, ia22, ld31, zed, zee, st0_1, den_loop]
  refine loop_ends (X := Nat) (fun k env s => env 0 = encL b l ∧ env 3 = .int .i64 (k : Int) ∧ s = dead ∧ k ≤ l.length ∧ val (l.take k) = val l) id (fun _ => (.tree (encF (val l)), [[]])) ?_ n l.length _ _ hn ⟨rfl, rfl, rfl, Nat.le_refl _, by simp⟩
  intro k x hx ih env s ⟨h0, h3, hs, hk, hv⟩
  subst hs
  obtain ⟨b', e3⟩ := slice22h dead b l x hk
  have fin : (∀ y, x = y + 1 → l.getD y 0 ≠ 0) → encF (val l) = .sl (encC (l.take x)) (l.take x).length .loose := by
    intro hz
    have hd : digs (val l) = l.take x := by
      rw [← hv]
      refine digs_val _ (hl.take _) ?_
      intro u hu
      cases x with
      | zero => simp at hu
      | succ y =>
        have el : (l.take (y + 1)).length = y + 1 := by rw [List.length_take]; omega
        rw [List.getLast?_eq_getElem?, el, Nat.add_sub_cancel, List.getElem?_take, if_pos (Nat.lt_succ_self y)] at hu
        have := hz y rfl
        rw [List.getD_eq_getElem?_getD, hu] at this
        exact this
    rw [encF, hd]; rfl
  obtain ⟨s', p, t, ea, _⟩ := append22t 21 dead (.sl [] 0 .nil) [] (l.take x) b' (hold_nil _) (by simp only [List.length_nil, List.length_take]; omega)
  rw [List.nil_append] at ea
  have hf : finish1 (cfg0.keep 80) [Arg.tree (encL b l)].length s' (.sl (encC (l.take x)) (l.take x).length (.tok p t)) = some (.tree (.sl (encC (l.take x)) (l.take x).length .loose), s') := rfl
  by_cases hp : x = 0
  · subst hp
    have q1 : ¬ (((0 : Nat) : Int) > 0) := by omega
    simp only [zaa, zab, zac, zad, zae, zaf, zag, zah, zai, zaj, zak, zal, zam, zan, zao, zap, zaq, zar, zas, zat, zau, zav, zaw, zax, zay, zaz, zba, zbb, zbc, zbd, zbe, zbf, zbg, zbh, zbi, zbj, zbk, zbl, zbm, zbn, zbo, zbp, zbq, Nat.reduceBEq, Bool.or_self, Bool.or_false, Bool.or_true, Bool.and_true, Bool.and_false, Bool.true_and, Bool.false_and, Option.isNone_none, Option.isNone_some, Option.isSome_some, Option.isSome_none, zbr, zbs, zbt, zbu, zbv, zbw, zbx, zby, zbz, zca, zcb, zcc, zcd, zce, zcf, zcg, zch, zci, zcj, zck, zcl, zcm, zcn, zco, zcp, zcq, zcr, own0, zcs, zct, zcu, zcv, zcw, zcx, zcy, zcz, zda, zdb, zdc, zdd, zde, zdf, zdg, zdh, zdi, zdj, zdk, zdl, zdm, zdn, zdo, zdp, zdq, zdr, zds, zdt, zdu, Option.getD_some, Option.getD_none, zfb, zfc, zfd, zfe, zff, zfg, zfh, zfi, Option.map_some, Option.map_none, Option.bind_some, List.map_cons, List.map_nil, List.cons_append, List.nil_append, ↓reduceIte, Nat.reduceEqDiff, Nat.reduceAdd, decide_true, decide_false, Bool.true_eq_false, Bool.false_eq_true, zdv, zdw, zdx, zdy, zdz, zea, zeb, zec, ia22, ld31, zed, zee, h0, h3, q1, Option.map_none, e3, ea]
    rw [fin (by omega)]
    exact finish_tree _ _ _ _ _ _ (.sl (encC (l.take 0)) (l.take 0).length (.tok p t)) _ _ (by simp only [zfi, ↓reduceIte]) hf rfl
  · obtain ⟨y, rfl⟩ : ∃ y, x = y + 1 := ⟨x - 1, by omega⟩
    have p1 : ((y + 1 : Nat) : Int) > 0 := by omega
    have p2 : ((y + 1 : Nat) : Int) - 1 = (y : Int) := by omega
    have p3 : (y : Int) < l.length := by omega
    have p4 : y < l.length := by omega
    have p6 : (0 : Int) ≤ y := by omega
    have e1 : binA Tryd.prog .sub 3 (.int .i64 ((y + 1 : Nat) : Int)) (.int .i64 1) = some (.int .i64 (y : Int)) := by rw [i_sub _ _ _ _ (by omega) (by omega), p2]
    by_cases hz : l.getD y 0 = 0
    · have p5 : (((l.getD y 0 : Nat) : Int) == 0) = true := by rw [hz]; rfl
      simp only [zaa, zab, zac, zad, zae, zaf, zag, zah, zai, zaj, zak, zal, zam, zan, zao, zap, zaq, zar, zas, zat, zau, zav, zaw, zax, zay, zaz, zba, zbb, zbc, zbd, zbe, zbf, zbg, zbh, zbi, zbj, zbk, zbl, zbm, zbn, zbo, zbp, zbq, Nat.reduceBEq, Bool.or_self, Bool.or_false, Bool.or_true, Bool.and_true, Bool.and_false, Bool.true_and, Bool.false_and, Option.isNone_none, Option.isNone_some, Option.isSome_some, Option.isSome_none, zbr, zbs, zbt, zbu, zbv, zbw, zbx, zby, zbz, zca, zcb, zcc, zcd, zce, zcf, zcg, zch, zci, zcj, zck, zcl, zcm, zcn, zco, zcp, zcq, zcr, own0, zcs, zct, zcu, zcv, zcw, zcx, zcy, zcz, zda, zdb, zdc, zdd, zde, zdf, zdg, zdh, zdi, zdj, zdk, zdl, zdm, zdn, zdo, zdp, zdq, zdr, zds, zdt, zdu, Option.getD_some, Option.getD_none, zfb, zfc, zfd, zfe, zff, zfg, zfh, zfi, Option.map_some, Option.map_none, Option.bind_some, List.map_cons, List.map_nil, List.cons_append, List.nil_append, ↓reduceIte, Nat.reduceEqDiff, Nat.reduceAdd, decide_true, decide_false, Bool.true_eq_false, Bool.false_eq_true, zdv, zdw, zdx, zdy, zdz, zea, zeb, zec, ia22, ld31, zed, zee, h0, h3, p1, e1, p6, p3, Int.toNat_natCast, p4, p5]
      refine ih y _ _ (Nat.lt_succ_self _) rfl ⟨?_, ?_, rfl, by omega, ?_⟩
      · simp only [zfi, ↓reduceIte, Nat.reduceEqDiff, h0]
      · simp only [zfi, ↓reduceIte, Nat.reduceEqDiff]
      · rw [← hv, val_take_succ _ _ p4, hz, Nat.mul_zero, Nat.add_zero]
    · have p5 : (((l.getD y 0 : Nat) : Int) == 0) = false := by
        rw [beq_eq_false_iff_ne]; omega
      simp only [zaa, zab, zac, zad, zae, zaf, zag, zah, zai, zaj, zak, zal, zam, zan, zao, zap, zaq, zar, zas, zat, zau, zav, zaw, zax, zay, zaz, zba, zbb, zbc, zbd, zbe, zbf, zbg, zbh, zbi, zbj, zbk, zbl, zbm, zbn, zbo, zbp, zbq, Nat.reduceBEq, Bool.or_self, Bool.or_false, Bool.or_true, Bool.and_true, Bool.and_false, Bool.true_and, Bool.false_and, Option.isNone_none, Option.isNone_some, Option.isSome_some, Option.isSome_none, zbr, zbs, zbt, zbu, zbv, zbw, zbx, zby, zbz, zca, zcb, zcc, zcd, zce, zcf, zcg, zch, zci, zcj, zck, zcl, zcm, zcn, zco, zcp, zcq, zcr, own0, zcs, zct, zcu, zcv, zcw, zcx, zcy, zcz, zda, zdb, zdc, zdd, zde, zdf, zdg, zdh, zdi, zdj, zdk, zdl, zdm, zdn, zdo, zdp, zdq, zdr, zds, zdt, zdu, Option.getD_some, Option.getD_none, zfb, zfc, zfd, zfe, zff, zfg, zfh, zfi, Option.map_some, Option.map_none, Option.bind_some, List.map_cons, List.map_nil, List.cons_append, List.nil_append, ↓reduceIte, Nat.reduceEqDiff, Nat.reduceAdd, decide_true, decide_false, Bool.true_eq_false, Bool.false_eq_true, zdv, zdw, zdx, zdy, zdz, zea, zeb, zec, ia22, ld31, zed, zee, h0, h3, p1, e1, p6, p3, Int.toNat_natCast, p4, p5, e3, ea]
      rw [fin (by intro y' hy'; have : y' = y := by omega
                  subst this; exact hz)]
      exact finish_tree _ _ _ _ _ _ (.sl (encC (l.take (y + 1))) (l.take (y + 1)).length (.tok p t)) _ _ (by simp only [zfi, ↓reduceIte]) hf rfl
end Go.Ab

/- The reference's own functions on numbers: Cmp, Add, Sub. Conditions: limbs in range, not too many. -/
namespace Go.Ab
open Go.Proofs
set_option maxRecDepth 100000
set_option linter.unusedSimpArgs false

end Go.Ab

/- The reference's own functions on numbers: Add, Sub. Conditions: limbs in range, not too many. -/
namespace Go.Ab
open Go.Proofs
set_option maxRecDepth 100000
set_option linter.unusedSimpArgs false

end Go.Ab

/- The reference's Sub. Conditions: limbs in range, not too many. -/
namespace Go.Ab
open Go.Proofs
set_option maxRecDepth 100000
set_option linter.unusedSimpArgs false

end Go.Ab

/- The reference's Mul. Conditions: limbs in range, not too many. -/
namespace Go.Ab
open Go.Proofs
set_option maxRecDepth 100000
set_option linter.unusedSimpArgs false

end Go.Ab

/- The reference's Shr. Conditions: limbs in range, not too many. -/
namespace Go.Ab
open Go.Proofs
set_option maxRecDepth 100000
set_option linter.unusedSimpArgs false

end Go.Ab

/- The reference's Len. Conditions: limbs in range, not too many. -/
namespace Go.Ab
open Go.Proofs
set_option maxRecDepth 100000
set_option linter.unusedSimpArgs false

end Go.Ab

/- The reference's Shl. Conditions: limbs in range, not too many. -/
namespace Go.Ab
open Go.Proofs
set_option maxRecDepth 100000
set_option linter.unusedSimpArgs false

end Go.Ab

/- The reference's Div. Conditions: limbs in range, not too many. -/
namespace Go.Ab
open Go.Proofs
set_option maxRecDepth 100000
set_option linter.unusedSimpArgs false

section
variable (n d : Nat) (hn : 100000 ≤ n) (D : Nat) (s : St)
include hn
end
end Go.Ab

/- The reference's numbers: what is a number, made of limbs, of ints; its compare. Conditions: limbs in range. -/
namespace Go.Ab
open Go.Proofs
set_option maxRecDepth 100000
set_option linter.unusedSimpArgs false

def gm (z : Int) : Gk := if z.natAbs < B ^ 12 then .l else .n
def madeF (z : Int) : AV := .tup [canA (gm z) (mkZ z).1, .bool (mkZ z).2]
theorem madeF_fit {z : Int} (h : z.natAbs < B ^ 12) : madeF z = .tup [canA .l z, .bool true] := by rw [madeF, mkZ_fit h, gm, if_pos h]
theorem lenF' (s : St) (v : Nat) : lenA Tryd.prog 25 s (encF v) = some (.int .i64 ((digs v).length : Int)) := zdv s _ _
theorem bd_2F (b : Bool) (v : Nat) : buildA Tryd.prog 27 [(0, .bool b), (1, encF v)] = some (.agg [.bool b, encF v]) := bd_2 _ _ _
set_option maxHeartbeats 2000000 in
theorem rmade_eq (n d : Nat) (neg : Bool) (g : Gk) (l : List Nat) (hl : Limbs l) (hn : l.length < n) (hk : l.length ≤ 1000000) : evalFn Tryd.prog cfg0 n (d+2) 61 [.tree (.bool neg), .tree (encL g l)] = some (.tree (madeF (sgn neg (val l))), [[], []]) := by
  rw [evalFn_go _ Tryd.func61 (by unfold Tryd.f61; rfl) (by unfold Tryd.f61; decide) (Nat.le_of_ble_eq_true (by unfold Tryd.f61; rfl)) (by kernel_rfl)]
  have c1 := fun D s => callA_L1 (evalFn Tryd.prog cfg0 n (d+1)) D s 80 g l _ (rnorm_eq n d g l hl hn hk)
  generalize hv : val l = v at *
  have hp : (((digs v).length : Nat) : Int) > 0 ↔ v ≠ 0 := by
    have := digs_len0 v
    omega
  have hd : decide ((((digs v).length : Nat) : Int) > 0) = decide (v ≠ 0) := by
    rw [decide_eq_decide]; exact hp
  have hm : mkZ (sgn neg v) = if v < B ^ 12 then (sgn neg v, true) else (0, false) := by rw [mkZ, sgn_abs]
  by_cases hf : v < B ^ 12
  · have hlen : ¬ (((digs v).length : Nat) : Int) > 12 := by have := digs_len v 12 hf; omega
    rw [madeF_fit (by rw [sgn_abs]; exact hf)]
    have he : (.agg [.bool (neg && decide (v ≠ 0)), encF v] : AV) = canA .l (sgn neg v) := by
      unfold canA; rw [sgn_neg, sgn_abs]; rfl
    rw [← he]
    cases neg with
    | false =>
      simp only [zaa, zab, zac, zad, zae, zaf, zag, zah, zai, zaj, zak, zal, zam, zan, zao, zap, zaq, zar, zas, zat, zau, zav, zaw, zax, zay, zaz, zba, zbb, zbc, zbd, zbe, zbf, zbg, zbh, zbi, zbj, zbk, zbl, zbm, zbn, zbo, zbp, zbq, Nat.reduceBEq, Bool.or_self, Bool.or_false, Bool.or_true, Bool.and_true, Bool.and_false, Bool.true_and, Bool.false_and, Option.isNone_none, Option.isNone_some, Option.isSome_some, Option.isSome_none, zbr, zbs, zbt, zbu, zbv, zbw, zbx, zby, zbz, zca, zcb, zcc, zcd, zce, zcf, zcg, zch, zci, zcj, zck, zcl, zcm, zcn, zco, zcp, zcq, zcr, own0, zcs, zct, zcu, zcv, zcw, zcx, zcy, zcz, zda, zdb, zdc, zdd, zde, zdf, zdg, zdh, zdi, zdj, zdk, zdl, zdm, zdn, zdo, zdp, zdq, zdr, zds, zdt, zdu, Option.getD_some, Option.getD_none, zfb, zfc, zfd, zfe, zff, zfg, zfh, zfi, Option.map_some, Option.map_none, Option.bind_some, List.map_cons, List.map_nil, List.cons_append, List.nil_append, ↓reduceIte, Nat.reduceEqDiff, Nat.reduceAdd, decide_true, decide_false, Bool.true_eq_false, Bool.false_eq_true, env0, List.getElem?_cons_zero, List.getElem?_cons_succ, zdv, zdw, zdx, zdy, zdz, zea, zeb, zec, ia22, ld31, zed, zee, zef, zeg, zeh, zei, zej, zek, zel, zem, zen, zeo, zep, zeq, zer, fa_0, fa_1, zes, bd_0, bd_2, zet, fd_1, zeu, Nat.zero_add, st0_2, c1, lenF', hlen, bd_2F]
      exact finish_ct _ _ 4 4 1 _ _ _ _ _ _ _ (by simp only [zfi, ↓reduceIte, Nat.reduceEqDiff]) (by simp only [zfi, ↓reduceIte, Nat.reduceEqDiff]) (by simp only [zfi, ↓reduceIte, Nat.reduceEqDiff]) rfl
    | true =>
      simp only [zaa, zab, zac, zad, zae, zaf, zag, zah, zai, zaj, zak, zal, zam, zan, zao, zap, zaq, zar, zas, zat, zau, zav, zaw, zax, zay, zaz, zba, zbb, zbc, zbd, zbe, zbf, zbg, zbh, zbi, zbj, zbk, zbl, zbm, zbn, zbo, zbp, zbq, Nat.reduceBEq, Bool.or_self, Bool.or_false, Bool.or_true, Bool.and_true, Bool.and_false, Bool.true_and, Bool.false_and, Option.isNone_none, Option.isNone_some, Option.isSome_some, Option.isSome_none, zbr, zbs, zbt, zbu, zbv, zbw, zbx, zby, zbz, zca, zcb, zcc, zcd, zce, zcf, zcg, zch, zci, zcj, zck, zcl, zcm, zcn, zco, zcp, zcq, zcr, own0, zcs, zct, zcu, zcv, zcw, zcx, zcy, zcz, zda, zdb, zdc, zdd, zde, zdf, zdg, zdh, zdi, zdj, zdk, zdl, zdm, zdn, zdo, zdp, zdq, zdr, zds, zdt, zdu, Option.getD_some, Option.getD_none, zfb, zfc, zfd, zfe, zff, zfg, zfh, zfi, Option.map_some, Option.map_none, Option.bind_some, List.map_cons, List.map_nil, List.cons_append, List.nil_append, ↓reduceIte, Nat.reduceEqDiff, Nat.reduceAdd, decide_true, decide_false, Bool.true_eq_false, Bool.false_eq_true, env0, List.getElem?_cons_zero, List.getElem?_cons_succ, zdv, zdw, zdx, zdy, zdz, zea, zeb, zec, ia22, ld31, zed, zee, zef, zeg, zeh, zei, zej, zek, zel, zem, zen, zeo, zep, zeq, zer, fa_0, fa_1, zes, bd_0, bd_2, zet, fd_1, zeu, Nat.zero_add, st0_2, c1, lenF', hlen, hd, bd_2F]
      exact finish_ct _ _ 4 4 1 _ _ _ _ _ _ _ (by simp only [zfi, ↓reduceIte, Nat.reduceEqDiff]) (by simp only [zfi, ↓reduceIte, Nat.reduceEqDiff]) (by simp only [zfi, ↓reduceIte, Nat.reduceEqDiff]) rfl
  · have hlen : (((digs v).length : Nat) : Int) > 12 := by
      have h1 := val_lt (digs v) (limbs_digs v)
      rw [val_digs] at h1
      rcases Nat.lt_or_ge 12 (digs v).length with h2 | h2
      · omega
      · exact absurd (Nat.lt_of_lt_of_le h1 (Nat.pow_le_pow_right (by decide) h2)) hf
    have he : madeF (sgn neg v) = .tup [encA false .n [], .bool false] := by
      rw [madeF, hm, if_neg hf, gm, if_neg (by rw [sgn_abs]; exact hf)]
      simp [canA, digs_0]
    rw [he]
    simp only [zaa, zab, zac, zad, zae, zaf, zag, zah, zai, zaj, zak, zal, zam, zan, zao, zap, zaq, zar, zas, zat, zau, zav, zaw, zax, zay, zaz, zba, zbb, zbc, zbd, zbe, zbf, zbg, zbh, zbi, zbj, zbk, zbl, zbm, zbn, zbo, zbp, zbq, Nat.reduceBEq, Bool.or_self, Bool.or_false, Bool.or_true, Bool.and_true, Bool.and_false, Bool.true_and, Bool.false_and, Option.isNone_none, Option.isNone_some, Option.isSome_some, Option.isSome_none, zbr, zbs, zbt, zbu, zbv, zbw, zbx, zby, zbz, zca, zcb, zcc, zcd, zce, zcf, zcg, zch, zci, zcj, zck, zcl, zcm, zcn, zco, zcp, zcq, zcr, own0, zcs, zct, zcu, zcv, zcw, zcx, zcy, zcz, zda, zdb, zdc, zdd, zde, zdf, zdg, zdh, zdi, zdj, zdk, zdl, zdm, zdn, zdo, zdp, zdq, zdr, zds, zdt, zdu, Option.getD_some, Option.getD_none, zfb, zfc, zfd, zfe, zff, zfg, zfh, zfi, Option.map_some, Option.map_none, Option.bind_some, List.map_cons, List.map_nil, List.cons_append, List.nil_append, ↓reduceIte, Nat.reduceEqDiff, Nat.reduceAdd, decide_true, decide_false, Bool.true_eq_false, Bool.false_eq_true, env0, List.getElem?_cons_zero, List.getElem?_cons_succ, zdv, zdw, zdx, zdy, zdz, zea, zeb, zec, ia22, ld31, zed, zee, zef, zeg, zeh, zei, zej, zek, zel, zem, zen, zeo, zep, zeq, zer, fa_0, fa_1, zes, bd_0, bd_2, zet, fd_1, zeu, Nat.zero_add, st0_2, c1, lenF', hlen]
    exact finish_ct _ _ 4 4 1 _ _ _ _ _ _ _ (by simp only [zfi, ↓reduceIte, Nat.reduceEqDiff]) (by simp only [zfi, ↓reduceIte, Nat.reduceEqDiff]) (by simp only [zfi, ↓reduceIte, Nat.reduceEqDiff]) rfl
section
variable (n d : Nat) (hn : 100000 ≤ n) (D : Nat) (s : St)
include hn
theorem cRmade {w : AV} {v : Nat} (h : Num w v) (neg : Bool) : callA cfg0 (evalFn Tryd.prog cfg0 n (d+2)) D s 61 [.bool neg, w] = some (madeF (sgn neg v), s) := by
  obtain ⟨l, hs, hl, hk, rfl⟩ := h
  exact callA_bS _ D s _ hs neg _ fun g => rmade_eq n d neg g l hl (by omega) (by omega)
end
set_option maxHeartbeats 2000000 in
theorem rof64_eq (n d : Nat) (hn : 100000 ≤ n) (z : Int) (h : -9223372036854775808 ≤ z) (h' : z ≤ 9223372036854775807) : evalFn Tryd.prog cfg0 n (d+3) 38 [.tree (.int .i64 z)] = some (.tree (canA .l z), [[]]) := by
  rw [evalFn_go _ Tryd.func38 (by unfold Tryd.f38; rfl) (by unfold Tryd.f38; decide) (Nat.le_of_ble_eq_true (by unfold Tryd.f38; rfl)) (by kernel_rfl)]
  have hz : z.natAbs ≤ 9223372036854775808 := by omega
  have hfit : z.natAbs < B ^ 12 := by have := B12_big; omega
  have c0 := fun s => conv3_55 s z h h'
  have key : ∀ (x : Nat), x = z.natAbs → x < 18446744073709551616 →
      (∀ s, convA Tryd.prog 79 49 s (.int .u64 (x : Int)) = some (.int .u32 ((x % 4294967296 : Nat) : Int))) ∧
      binA Tryd.prog .shr 79 (.int .u64 (x : Int)) (.int .u64 32) = some (.int .u64 ((x / 4294967296 : Nat) : Int)) ∧
      (∀ s, convA Tryd.prog 79 49 s (.int .u64 ((x / 4294967296 : Nat) : Int)) = some (.int .u32 ((x / 4294967296 % 4294967296 : Nat) : Int))) ∧
      (∀ D s, callA cfg0 (evalFn Tryd.prog cfg0 n (d+2)) D s 61 [.bool (decide (z < 0)), .sl [.int .u32 ((x % 4294967296 : Nat) : Int), .int .u32 ((x / 4294967296 % 4294967296 : Nat) : Int)] 2 .tight] = some (.tup [canA .l z, .bool true], s)) := by
    intro x hx hlt
    refine ⟨fun s => zee s x, ?_, fun s => zee s _, fun D s => ?_⟩
    · have := u_shr Tryd.prog 79 x .u64 32 (by decide) (by decide)
      rw [show (2 : Nat) ^ (32 : Int).toNat = 4294967296 from rfl] at this
      exact this
    · have hnum : Num (.sl [.int .u32 ((x % 4294967296 : Nat) : Int), .int .u32 ((x / 4294967296 % 4294967296 : Nat) : Int)] 2 .tight) x := by
        refine ⟨[x % 4294967296, x / 4294967296 % 4294967296], ⟨_, rfl⟩, limbs_cons (Nat.mod_lt _ (by decide)) (limbs_one (Nat.mod_lt _ (by decide))), by simp, ?_⟩
        show x % 4294967296 + 4294967296 * (x / 4294967296 % 4294967296 + 4294967296 * 0) = x
        omega
      have := cRmade n d hn D s hnum (decide (z < 0))
      rw [hx, sgn_of, madeF_fit hfit] at this
      rw [hx]; exact this
  by_cases hneg : z < 0
  · rw [if_pos hneg] at c0
    have u := un_neg64 (18446744073709551616 - z.natAbs) (by omega)
    rw [show (18446744073709551616 - (18446744073709551616 - z.natAbs)) % 18446744073709551616 = z.natAbs by omega] at u
    obtain ⟨k1, k2, k3, k4⟩ := key z.natAbs rfl (by omega)
    rw [decide_eq_true hneg] at k4
    simp only [zaa, zab, zac, zad, zae, zaf, zag, zah, zai, zaj, zak, zal, zam, zan, zao, zap, zaq, zar, zas, zat, zau, zav, zaw, zax, zay, zaz, zba, zbb, zbc, zbd, zbe, zbf, zbg, zbh, zbi, zbj, zbk, zbl, zbm, zbn, zbo, zbp, zbq, Nat.reduceBEq, Bool.or_self, Bool.or_false, Bool.or_true, Bool.and_true, Bool.and_false, Bool.true_and, Bool.false_and, Option.isNone_none, Option.isNone_some, Option.isSome_some, Option.isSome_none, zbr, zbs, zbt, zbu, zbv, zbw, zbx, zby, zbz, zca, zcb, zcc, zcd, zce, zcf, zcg, zch, zci, zcj, zck, zcl, zcm, zcn, zco, zcp, zcq, zcr, own0, zcs, zct, zcu, zcv, zcw, zcx, zcy, zcz, zda, zdb, zdc, zdd, zde, zdf, zdg, zdh, zdi, zdj, zdk, zdl, zdm, zdn, zdo, zdp, zdq, zdr, zds, zdt, zdu, Option.getD_some, Option.getD_none, zfb, zfc, zfd, zfe, zff, zfg, zfh, zfi, Option.map_some, Option.map_none, Option.bind_some, List.map_cons, List.map_nil, List.cons_append, List.nil_append, ↓reduceIte, Nat.reduceEqDiff, Nat.reduceAdd, decide_true, decide_false, Bool.true_eq_false, Bool.false_eq_true, env0, List.getElem?_cons_zero, List.getElem?_cons_succ, zdv, zdw, zdx, zdy, zdz, zea, zeb, zec, ia22, ld31, zed, zee, zef, zeg, zeh, zei, zej, zek, zel, zem, zen, zeo, zep, zeq, zer, fa_0, fa_1, zes, bd_0, bd_2, zet, fd_1, zeu, Nat.zero_add, st0_1, c0, hneg, u, k1, k2, k3, opA_two, two22_int, k4, ext_0, ext_1, zeq]
    exact finish_c _ _ 2 2 1 _ _ _ _ _ (by simp only [zfi, ↓reduceIte, Nat.reduceEqDiff]) (by simp only [zfi, ↓reduceIte, Nat.reduceEqDiff, hneg, decide_true, decide_false]) rfl
  · rw [if_neg hneg] at c0
    obtain ⟨k1, k2, k3, k4⟩ := key z.natAbs rfl (by omega)
    rw [decide_eq_false hneg] at k4
    simp only [zaa, zab, zac, zad, zae, zaf, zag, zah, zai, zaj, zak, zal, zam, zan, zao, zap, zaq, zar, zas, zat, zau, zav, zaw, zax, zay, zaz, zba, zbb, zbc, zbd, zbe, zbf, zbg, zbh, zbi, zbj, zbk, zbl, zbm, zbn, zbo, zbp, zbq, Nat.reduceBEq, Bool.or_self, Bool.or_false, Bool.or_true, Bool.and_true, Bool.and_false, Bool.true_and, Bool.false_and, Option.isNone_none, Option.isNone_some, Option.isSome_some, Option.isSome_none, zbr, zbs, zbt, zbu, zbv, zbw, zbx, zby, zbz, zca, zcb, zcc, zcd, zce, zcf, zcg, zch, zci, zcj, zck, zcl, zcm, zcn, zco, zcp, zcq, zcr, own0, zcs, zct, zcu, zcv, zcw, zcx, zcy, zcz, zda, zdb, zdc, zdd, zde, zdf, zdg, zdh, zdi, zdj, zdk, zdl, zdm, zdn, zdo, zdp, zdq, zdr, zds, zdt, zdu, Option.getD_some, Option.getD_none, zfb, zfc, zfd, zfe, zff, zfg, zfh, zfi, Option.map_some, Option.map_none, Option.bind_some, List.map_cons, List.map_nil, List.cons_append, List.nil_append, ↓reduceIte, Nat.reduceEqDiff, Nat.reduceAdd, decide_true, decide_false, Bool.true_eq_false, Bool.false_eq_true, env0, List.getElem?_cons_zero, List.getElem?_cons_succ, zdv, zdw, zdx, zdy, zdz, zea, zeb, zec, ia22, ld31, zed, zee, zef, zeg, zeh, zei, zej, zek, zel, zem, zen, zeo, zep, zeq, zer, fa_0, fa_1, zes, bd_0, bd_2, zet, fd_1, zeu, Nat.zero_add, st0_1, c0, hneg, k1, k2, k3, opA_two, two22_int, k4, ext_0, ext_1, zeq]
    exact finish_c _ _ 2 2 1 _ _ _ _ _ (by simp only [zfi, ↓reduceIte, Nat.reduceEqDiff]) (by simp only [zfi, ↓reduceIte, Nat.reduceEqDiff, hneg, decide_true, decide_false]) rfl
theorem cRof64 (n d : Nat) (hn : 100000 ≤ n) (z : Int) (h : -9223372036854775808 ≤ z) (h' : z ≤ 9223372036854775807) (D : Nat) (s : St) : callA cfg0 (evalFn Tryd.prog cfg0 n (d+3)) D s 38 [.int .i64 z] = some (canA .l z, s) :=
  callA_trees rfl (rof64_eq n d hn z h h')

end Go.Ab

/- Small Ints as terms; rows and lists of them, compared. Conditions: numbers that Go has. -/
namespace Go.Ab
open Go.Proofs
set_option maxRecDepth 100000
set_option linter.unusedSimpArgs false

def I64 (v : Int) : Prop := -9223372036854775808 ≤ v ∧ v ≤ 9223372036854775807
def intT (v : Int) : T := .mk 1 (decide (v < 0)) .l (digs v.natAbs) [] 0 .n []
def nilT' : T := .mk 3 false .n [] [] 0 .n []
def tupT (kg : Gk) (us : List T) : T := .mk 5 false .n [] [] 0 kg us
theorem rInt_eq (n d : Nat) (hn : 100000 ≤ n) (v : Int) (h : I64 v) : evalFn Tryd.prog cfg0 n (d+4) 25 [.tree (.int .i64 v)] = some (.tree (encT (intT v)), [[]]) := by
  rw [evalFn_go _ Tryd.func25 (by unfold Tryd.f25; rfl) (by unfold Tryd.f25; decide) (Nat.le_of_ble_eq_true (by unfold Tryd.f25; rfl)) (by kernel_rfl)]
  have c1 := fun D st => cRof64 n d hn v h.1 h.2 D st
  have b1 := bdT_1 1 (decide (v < 0)) .l (digs v.natAbs)
  have st1 := fun st p k => st_Tt st p k (intT v)
  simp only [intT, cellsT, encC, List.map_nil, cellsK, List.length_nil, gr] at st1
  simp only [zaa, zab, zac, zad, zae, zaf, zag, zah, zai, zaj, zak, zal, zam, zan, zao, zap, zaq, zar, zas, zat, zau, zav, zaw, zax, zay, zaz, zba, zbb, zbc, zbd, zbe, zbf, zbg, zbh, zbi, zbj, zbk, zbl, zbm, zbn, zbo, zbp, zbq, Nat.reduceBEq, Bool.or_self, Bool.or_false, Bool.or_true, Bool.and_true, Bool.and_false, Bool.true_and, Bool.false_and, Option.isNone_none, Option.isNone_some, Option.isSome_some, Option.isSome_none, zbr, zbs, zbt, zbu, zbv, zbw, zbx, zby, zbz, zca, zcb, zcc, zcd, zce, zcf, zcg, zch, zci, zcj, zck, zcl, zcm, zcn, zco, zcp, zcq, zcr, own0, zcs, zct, zcu, zcv, zcw, zcx, zcy, zcz, zda, zdb, zdc, zdd, zde, zdf, zdg, zdh, zdi, zdj, zdk, zdl, zdm, zdn, zdo, zdp, zdq, zdr, zds, zdt, zdu, Option.getD_some, Option.getD_none, zfb, zfc, zfd, zfe, zff, zfg, zfh, zfi, Option.map_some, Option.map_none, Option.bind_some, List.map_cons, List.map_nil, List.cons_append, List.nil_append, ↓reduceIte, Nat.reduceEqDiff, Nat.reduceAdd, decide_true, decide_false, Bool.true_eq_false, Bool.false_eq_true, env0, List.getElem?_cons_zero, List.getElem?_cons_succ, zdv, zdw, zdx, zdy, zdz, zea, zeb, zec, ia22, ld31, zed, zee, zef, zeg, zeh, zei, zej, zek, zel, zem, zen, zeo, zep, zeq, zer, fa_0, fa_1, zes, bd_0, bd_2, zet, fd_1, zeu, Nat.zero_add, zeroT, c1, canA, encA, b1, st1]
  have st6 := fun t k p st => stT_6 t k p st (.int .i64 0) (.bool false) (.sl [] 0 .nil) (.str []) (.int .i64 0) (.sl [] 0 .nil) (intT v)
  simp only [intT, cellsT, encC, List.map_nil, cellsK, List.length_nil, gr] at st6
  simp only [zaa, zab, zac, zad, zae, zaf, zag, zah, zai, zaj, zak, zal, zam, zan, zao, zap, zaq, zar, zas, zat, zau, zav, zaw, zax, zay, zaz, zba, zbb, zbc, zbd, zbe, zbf, zbg, zbh, zbi, zbj, zbk, zbl, zbm, zbn, zbo, zbp, zbq, Nat.reduceBEq, Bool.or_self, Bool.or_false, Bool.or_true, Bool.and_true, Bool.and_false, Bool.true_and, Bool.false_and, Option.isNone_none, Option.isNone_some, Option.isSome_some, Option.isSome_none, zbr, zbs, zbt, zbu, zbv, zbw, zbx, zby, zbz, zca, zcb, zcc, zcd, zce, zcf, zcg, zch, zci, zcj, zck, zcl, zcm, zcn, zco, zcp, zcq, zcr, own0, zcs, zct, zcu, zcv, zcw, zcx, zcy, zcz, zda, zdb, zdc, zdd, zde, zdf, zdg, zdh, zdi, zdj, zdk, zdl, zdm, zdn, zdo, zdp, zdq, zdr, zds, zdt, zdu, Option.getD_some, Option.getD_none, zfb, zfc, zfd, zfe, zff, zfg, zfh, zfi, Option.map_some, Option.map_none, Option.bind_some, List.map_cons, List.map_nil, List.cons_append, List.nil_append, ↓reduceIte, Nat.reduceEqDiff, Nat.reduceAdd, decide_true, decide_false, Bool.true_eq_false, Bool.false_eq_true, env0, List.getElem?_cons_zero, List.getElem?_cons_succ, zdv, zdw, zdx, zdy, zdz, zea, zeb, zec, ia22, ld31, zed, zee, zef, zeg, zeh, zei, zej, zek, zel, zem, zen, zeo, zep, zeq, zer, fa_0, fa_1, zes, bd_0, bd_2, zet, fd_1, zeu, Nat.zero_add, st6]
  exact finish_cT _ _ _ _ _ (intT v) _ _ _ (by first | (simp only [zfi, ↓reduceIte, Nat.reduceEqDiff]; done) | (simp only [zfi, ↓reduceIte, Nat.reduceEqDiff]; rfl)) (by simp only [intT, cellsT, encC, List.map_nil, cellsK, List.length_nil, gr]; exact (by first | (simp only [zfi, ↓reduceIte, Nat.reduceEqDiff]; done) | (simp only [zfi, ↓reduceIte, Nat.reduceEqDiff]; rfl))) rfl
/-! ### Compared -/
theorem nod_list : ∀ (us : List T) (t : T), nodT (listT us t) = us.length + nodK us + nodT t
  | [], t => by simp [listT, nodK]
  | u :: us, t => by
    have := nod_list us t
    simp only [listT, consT, nodT, nodK, List.length_cons] at this ⊢
    omega
end Go.Ab

/- The statement TermTuples. Conditions: numbers that Go has. -/
namespace Go.Ab
open Go.Proofs
set_option maxRecDepth 100000
set_option linter.unusedSimpArgs false

def intsA (xs : List Int) : List AV := xs.map (AV.int .i64)
theorem ldInts (xs : List Int) (i : Nat) (h : i < xs.length) (st : St) : loadA Tryd.prog 3 st (.rptr ((intsA xs).drop i)) = some (.int .i64 xs[i]) := by
  have e : (intsA xs).drop i = .int .i64 xs[i] :: (intsA xs).drop (i + 1) := by
    rw [List.drop_eq_getElem_cons (by simpa [intsA] using h)]
    simp [intsA]
  rw [e]
  exact ld33 st _ _
theorem bs1T (e : T) : (fillA (fun i => some (i * 6, 6)) (rep 1 zeroT6) [(0, .agg (cellsT e))]).map (AV.sl · 1 .tight) = some (.sl (cellsT e) 1 .tight) := by
  have h := cellsT_len e
  have a1 : splice (rep 1 zeroT6) (0 * 6) (cellsT e) = cellsT e := by
    simp only [splice, Nat.zero_mul, List.take_zero, List.nil_append, Nat.zero_add, h]; exact List.append_nil _
  simp only [fillA, settled, Option.bind_some, cellsOf]
  rw [if_pos ⟨h, by decide⟩, a1]
  rfl
theorem opA_bs1 (call : FuncId → List Arg → Option Out) (q : Bool) (d : Option Tmp) (ty : TypeId) (pos : String) (af : Array Edge) (g : Option (Nat × Bool)) (t : Nat) (env : Env) (s : St) (x : Operand) (e : T) (hx : ev env x = .agg (cellsT e)) :
    opA Tryd.prog cfg0 call q ⟨d, .buildSlice 22 1 #[(0, x)], ty, pos, af, g⟩ t env s = some (.sl (cellsT e) 1 .tight, s) := by
  simp only [opA, tkTk, eszT, zeroT, Option.bind_some, List.map_cons, List.map_nil, hx]
  rw [if_pos ⟨by rfl, by decide⟩]
  show Option.map _ (Option.map _ (fillA (fun i => some (i * 6, 6)) (rep 1 zeroT6) [(0, .agg (cellsT e))])) = _
  have := bs1T e
  rw [this]; rfl
/-- A row that was made, in a term, in a list: what a region that draws its order makes of it. -/
theorem Ap.tup {s : St} {d : Nat} {x : AV} {us : List T} (h : Ap s d x us) : buildA Tryd.prog 29 [(0, .int .i64 5), (4, x)] = some (.agg (cellsT (tupT (kgOf us) us))) := by
  have hs := h.settled
  simp only [buildA, zeroT, tkT, plT, Option.bind_some, fillA, List.getElem?_cons_zero, List.getElem?_cons_succ, hs]
  simp only [tupT, cellsT, encL, encC, List.map_nil, List.length_nil, gr]
  rfl
theorem Ap.list {s : St} {d : Nat} {x : AV} {us : List T} (h : Ap s d x us) (hl : us.length ≤ 1000000) (R D : Nat) : callQ (evalFn Tryd.prog cfg0 R (D+1)) 55 [x, encT nilT'] = some (encT (listT us nilT')) := by
  rcases h with ⟨rfl, rfl⟩ | ⟨_, t, rfl, _⟩
  · exact callQ_trees (vs := [.sl [] 0 .nil, encT nilT']) rfl (tList_eq R D [] .nil nilT' (by decide))
  · exact callQ_loose (vs := [.sl (cellsK us) us.length (.tok d t), encT nilT']) rfl rfl rfl (tList_eq R D us .loose nilT' (by omega))

section
variable (R : Nat) (hR : 100000 ≤ R) (xs ys : List Int) (hx : ∀ x ∈ xs, I64 x) (hy : ∀ x ∈ ys, I64 x) (hxk : xs.length ≤ 30) (hyk : ys.length ≤ 30) (gx gy : Grip) (x5 x6 : AV) (s1 s2 : St) (ap : Ap s1 36 x5 (xs.map intT)) (ap2 : Ap s2 50 x6 (ys.map intT))
include hR hx hy hxk hyk ap ap2
end
end Go.Ab

/- Light terms; the items of a list. Conditions: lengths in range. -/
namespace Go.Ab
open Go.Proofs
set_option maxRecDepth 100000
set_option linter.unusedSimpArgs false

/-! ### Light -/
mutual
def lgT : T → Int → Int
  | .mk _ _ _ l s _ _ ks, n => if (l.length : Int) > 40 ∨ (s.length : Int) > 500 then -1 else lgK ks (n - 1)
def lgK : List T → Int → Int
  | [], n => n
  | t :: r, n => if n ≥ 0 then lgK r (lgT t n) else n
end
mutual
theorem lgT_lt : ∀ (t : T) (n : Int), 0 ≤ n → -1 ≤ lgT t n ∧ lgT t n ≤ n - 1
  | .mk _ _ _ l s _ _ ks, n, h => by
    simp only [lgT]
    split
    · omega
    · by_cases h1 : 0 ≤ n - 1
      · have := lgK_le ks (n - 1) (by omega); omega
      · have h2 : n - 1 = -1 := by omega
        rw [h2]
        cases ks with
        | nil => simp only [lgK]; omega
        | cons a r => simp only [lgK]; rw [if_neg (by omega)]; omega
theorem lgK_le : ∀ (ks : List T) (n : Int), -1 ≤ n → -1 ≤ lgK ks n ∧ lgK ks n ≤ n
  | [], n, h => by simp only [lgK]; omega
  | t :: r, n, h => by
    simp only [lgK]
    split
    · rename_i h0
      have h1 := lgT_lt t n h0
      have h2 := lgK_le r (lgT t n) h1.1
      omega
    · omega
end
mutual
/-- No numbers, no texts that are long. -/
def leanT : T → Prop
  | .mk _ _ _ l s _ _ ks => l.length ≤ 40 ∧ s.length ≤ 500 ∧ leanK ks
def leanK : List T → Prop
  | [] => True
  | t :: r => leanT t ∧ leanK r
end
mutual
theorem lgT_ok : ∀ (t : T) (n : Int), 0 ≤ lgT t n → leanT t ∧ lgT t n = n - nodT t
  | .mk _ _ _ l s _ _ ks, n, h => by
    simp only [lgT] at h ⊢
    split at h
    · omega
    · rename_i hc
      rw [if_neg hc]
      obtain ⟨h1, h2⟩ := lgK_ok ks (n - 1) h
      simp only [leanT, nodT]
      exact ⟨⟨by omega, by omega, h1⟩, by omega⟩
theorem lgK_ok : ∀ (ks : List T) (n : Int), 0 ≤ lgK ks n → leanK ks ∧ lgK ks n = n - nodK ks
  | [], n, h => by simp only [lgK, leanK, nodK]; exact ⟨trivial, by omega⟩
  | t :: r, n, h => by
    simp only [lgK] at h ⊢
    split at h
    · rename_i h0
      rw [if_pos h0]
      obtain ⟨h1, h2⟩ := lgK_ok r (lgT t n) h
      have h3 := nodK_nn r
      obtain ⟨h4, h5⟩ := lgT_ok t n (by omega)
      simp only [leanK, nodK]
      exact ⟨⟨h4, h1⟩, by omega⟩
    · omega
theorem nodK_nn (r : List T) : (0 : Int) ≤ nodK r := by omega
end
set_option maxHeartbeats 8000000 in
theorem light_eq (R : Nat) (hR : 2000 ≤ R) (hR2 : R ≤ 9223372036854775808) : ∀ (d : Nat) (t : T) (n : Int), 0 ≤ n → n < 1000 → n + 2 ≤ (d : Int) → bigT R t → fewT R t →
    evalFn Tryd.prog cfg0 R d 31 [.tree (encT t), .tree (.int .i64 n)] = some (.tree (.int .i64 (lgT t n)), [[], []])
  | 0, t, n, h0, _, hd, _, _ => by omega
  | d + 1, t, n, h0, h1, hd, hb, hf => by
    have IH := light_eq R hR hR2 d
    obtain ⟨k, b, lg, l, s, m, kg, ks⟩ := t
    simp only [bigT] at hb
    simp only [fewT] at hf
    rw [evalFn_go _ Tryd.func31 (by unfold Tryd.f31; rfl) (by unfold Tryd.f31; decide) (Nat.le_of_ble_eq_true (by unfold Tryd.f31; rfl)) (by kernel_rfl)]
    have f0 := i_sub Tryd.prog 3 n 1 (by omega) (by omega)
    have ll := len23
    by_cases c1 : (l.length : Int) > 40
    · have hr : lgT (.mk k b lg l s m kg ks) n = -1 := by simp only [lgT]; rw [if_pos (.inl c1)]
      rw [hr]
      simp only [zaa, zab, zac, zad, zae, zaf, zag, zah, zai, zaj, zak, zal, zam, zan, zao, zap, zaq, zar, zas, zat, zau, zav, zaw, zax, zay, zaz, zba, zbb, zbc, zbd, zbe, zbf, zbg, zbh, zbi, zbj, zbk, zbl, zbm, zbn, zbo, zbp, zbq, Nat.reduceBEq, Bool.or_self, Bool.or_false, Bool.or_true, Bool.and_true, Bool.and_false, Bool.true_and, Bool.false_and, Option.isNone_none, Option.isNone_some, Option.isSome_some, Option.isSome_none, zbr, zbs, zbt, zbu, zbv, zbw, zbx, zby, zbz, zca, zcb, zcc, zcd, zce, zcf, zcg, zch, zci, zcj, zck, zcl, zcm, zcn, zco, zcp, zcq, zcr, own0, zcs, zct, zcu, zcv, zcw, zcx, zcy, zcz, zda, zdb, zdc, zdd, zde, zdf, zdg, zdh, zdi, zdj, zdk, zdl, zdm, zdn, zdo, zdp, zdq, zdr, zds, zdt, zdu, Option.getD_some, Option.getD_none, zfb, zfc, zfd, zfe, zff, zfg, zfh, zfi, Option.map_some, Option.map_none, Option.bind_some, List.map_cons, List.map_nil, List.cons_append, List.nil_append, ↓reduceIte, Nat.reduceEqDiff, Nat.reduceAdd, decide_true, decide_false, Bool.true_eq_false, Bool.false_eq_true, env0, List.getElem?_cons_zero, List.getElem?_cons_succ, zdv, zdw, zdx, zdy, zdz, zea, zeb, zec, ia22, ld31, zed, zee, zef, zeg, zeh, zei, zej, zek, zel, zem, zen, zeo, zep, zeq, zer, fa_0, fa_1, zes, bd_0, bd_2, zet, fd_1, zeu, Nat.zero_add, zev, List.toList_toArray, len9, ix9, zew, zex, zey, zez, zfa, encT, cellsT, f0, faT_1, faT_2, faT_4, faN_1, ldT_2, ldT_4, ldT_l, ll, c1, Nat.reduceAdd]
      exact finish_i _ _ _ _ _ _ _ (by first | (simp only [zfi, ↓reduceIte, Nat.reduceEqDiff]; done) | (simp only [zfi, ↓reduceIte, Nat.reduceEqDiff]; rfl)) rfl
    by_cases c2 : (s.length : Int) > 500
    · have hr : lgT (.mk k b lg l s m kg ks) n = -1 := by simp only [lgT]; rw [if_pos (.inr c2)]
      rw [hr]
      simp only [zaa, zab, zac, zad, zae, zaf, zag, zah, zai, zaj, zak, zal, zam, zan, zao, zap, zaq, zar, zas, zat, zau, zav, zaw, zax, zay, zaz, zba, zbb, zbc, zbd, zbe, zbf, zbg, zbh, zbi, zbj, zbk, zbl, zbm, zbn, zbo, zbp, zbq, Nat.reduceBEq, Bool.or_self, Bool.or_false, Bool.or_true, Bool.and_true, Bool.and_false, Bool.true_and, Bool.false_and, Option.isNone_none, Option.isNone_some, Option.isSome_some, Option.isSome_none, zbr, zbs, zbt, zbu, zbv, zbw, zbx, zby, zbz, zca, zcb, zcc, zcd, zce, zcf, zcg, zch, zci, zcj, zck, zcl, zcm, zcn, zco, zcp, zcq, zcr, own0, zcs, zct, zcu, zcv, zcw, zcx, zcy, zcz, zda, zdb, zdc, zdd, zde, zdf, zdg, zdh, zdi, zdj, zdk, zdl, zdm, zdn, zdo, zdp, zdq, zdr, zds, zdt, zdu, Option.getD_some, Option.getD_none, zfb, zfc, zfd, zfe, zff, zfg, zfh, zfi, Option.map_some, Option.map_none, Option.bind_some, List.map_cons, List.map_nil, List.cons_append, List.nil_append, ↓reduceIte, Nat.reduceEqDiff, Nat.reduceAdd, decide_true, decide_false, Bool.true_eq_false, Bool.false_eq_true, env0, List.getElem?_cons_zero, List.getElem?_cons_succ, zdv, zdw, zdx, zdy, zdz, zea, zeb, zec, ia22, ld31, zed, zee, zef, zeg, zeh, zei, zej, zek, zel, zem, zen, zeo, zep, zeq, zer, fa_0, fa_1, zes, bd_0, bd_2, zet, fd_1, zeu, Nat.zero_add, zev, List.toList_toArray, len9, ix9, zew, zex, zey, zez, zfa, encT, cellsT, f0, faT_1, faT_2, faT_4, faN_1, ldT_2, ldT_4, ldT_l, ll, c1, c2, Nat.reduceAdd]
      exact finish_i _ _ _ _ _ _ _ (by first | (simp only [zfi, ↓reduceIte, Nat.reduceEqDiff]; done) | (simp only [zfi, ↓reduceIte, Nat.reduceEqDiff]; rfl)) rfl
    have hr : lgT (.mk k b lg l s m kg ks) n = lgK ks (n - 1) := by simp only [lgT]; rw [if_neg (by omega)]
    rw [hr]
    simp only [zaa, zab, zac, zad, zae, zaf, zag, zah, zai, zaj, zak, zal, zam, zan, zao, zap, zaq, zar, zas, zat, zau, zav, zaw, zax, zay, zaz, zba, zbb, zbc, zbd, zbe, zbf, zbg, zbh, zbi, zbj, zbk, zbl, zbm, zbn, zbo, zbp, zbq, Nat.reduceBEq, Bool.or_self, Bool.or_false, Bool.or_true, Bool.and_true, Bool.and_false, Bool.true_and, Bool.false_and, Option.isNone_none, Option.isNone_some, Option.isSome_some, Option.isSome_none, zbr, zbs, zbt, zbu, zbv, zbw, zbx, zby, zbz, zca, zcb, zcc, zcd, zce, zcf, zcg, zch, zci, zcj, zck, zcl, zcm, zcn, zco, zcp, zcq, zcr, own0, zcs, zct, zcu, zcv, zcw, zcx, zcy, zcz, zda, zdb, zdc, zdd, zde, zdf, zdg, zdh, zdi, zdj, zdk, zdl, zdm, zdn, zdo, zdp, zdq, zdr, zds, zdt, zdu, Option.getD_some, Option.getD_none, zfb, zfc, zfd, zfe, zff, zfg, zfh, zfi, Option.map_some, Option.map_none, Option.bind_some, List.map_cons, List.map_nil, List.cons_append, List.nil_append, ↓reduceIte, Nat.reduceEqDiff, Nat.reduceAdd, decide_true, decide_false, Bool.true_eq_false, Bool.false_eq_true, env0, List.getElem?_cons_zero, List.getElem?_cons_succ, zdv, zdw, zdx, zdy, zdz, zea, zeb, zec, ia22, ld31, zed, zee, zef, zeg, zeh, zei, zej, zek, zel, zem, zen, zeo, zep, zeq, zer, fa_0, fa_1, zes, bd_0, bd_2, zet, fd_1, zeu, Nat.zero_add, zev, List.toList_toArray, len9, ix9, zew, zex, zey, zez, zfa, encT, cellsT, f0, faT_1, faT_2, faT_4, faN_1, ldT_2, ldT_4, ldT_l, ll, c1, c2, Nat.reduceAdd, den_loop]
    refine loop_ends (X := Nat × Int) (fun x env s' => env 2 = .ptr 2 1 0 ∧ s' 2 = ⟨1, .buf (cellsT (.mk k b lg l s m kg ks))⟩ ∧ env 1 = .int .i64 x.2 ∧ env 5 = .int .i64 (x.1 : Int) ∧ x.1 ≤ ks.length ∧ -1 ≤ x.2 ∧ x.2 ≤ n - 1 ∧ lgK ks (n - 1) = lgK (ks.drop x.1) x.2) (fun x => (x.2 + 1).toNat) (fun _ => (.tree (.int .i64 (lgK ks (n - 1))), [[], []])) ?_ R (0, n - 1) _ _ (by simp only; omega) ⟨(by first | (simp only [zfi, ↓reduceIte, Nat.reduceEqDiff]; done) | (simp only [zfi, ↓reduceIte, Nat.reduceEqDiff]; rfl)), (by first | (simp only [zfi, ↓reduceIte, Nat.reduceEqDiff]; done) | (simp only [zfi, ↓reduceIte, Nat.reduceEqDiff]; rfl)), (by first | (simp only [zfi, ↓reduceIte, Nat.reduceEqDiff]; done) | (simp only [zfi, ↓reduceIte, Nat.reduceEqDiff]; rfl)), (by first | (simp only [zfi, ↓reduceIte, Nat.reduceEqDiff]; done) | (simp only [zfi, ↓reduceIte, Nat.reduceEqDiff]; rfl)), Nat.zero_le _, by simp only; omega, by simp only; omega, rfl⟩
    rintro rr ⟨i, v⟩ hrr ih2 env st ⟨e2, j2, e1, e5, hi, hv0, hv1, hk⟩
    simp only at e1 e5 hi hv0 hv1 hk hrr
    simp only [cellsT] at j2
    cases hdr : ks.drop i with
    | nil =>
      have hil : i = ks.length := by have := congrArg List.length hdr; simp only [List.length_drop, List.length_nil] at this; omega
      subst hil
      rw [hdr] at hk
      simp only [lgK] at hk
      rw [hk]
      have q1 : ¬ ((ks.length : Int) < (ks.length : Int)) := by omega
      simp only [zaa, zab, zac, zad, zae, zaf, zag, zah, zai, zaj, zak, zal, zam, zan, zao, zap, zaq, zar, zas, zat, zau, zav, zaw, zax, zay, zaz, zba, zbb, zbc, zbd, zbe, zbf, zbg, zbh, zbi, zbj, zbk, zbl, zbm, zbn, zbo, zbp, zbq, Nat.reduceBEq, Bool.or_self, Bool.or_false, Bool.or_true, Bool.and_true, Bool.and_false, Bool.true_and, Bool.false_and, Option.isNone_none, Option.isNone_some, Option.isSome_some, Option.isSome_none, zbr, zbs, zbt, zbu, zbv, zbw, zbx, zby, zbz, zca, zcb, zcc, zcd, zce, zcf, zcg, zch, zci, zcj, zck, zcl, zcm, zcn, zco, zcp, zcq, zcr, own0, zcs, zct, zcu, zcv, zcw, zcx, zcy, zcz, zda, zdb, zdc, zdd, zde, zdf, zdg, zdh, zdi, zdj, zdk, zdl, zdm, zdn, zdo, zdp, zdq, zdr, zds, zdt, zdu, Option.getD_some, Option.getD_none, zfb, zfc, zfd, zfe, zff, zfg, zfh, zfi, Option.map_some, Option.map_none, Option.bind_some, List.map_cons, List.map_nil, List.cons_append, List.nil_append, ↓reduceIte, Nat.reduceEqDiff, Nat.reduceAdd, decide_true, decide_false, Bool.true_eq_false, Bool.false_eq_true, zdv, zdw, zdx, zdy, zdz, zea, zeb, zec, ia22, ld31, zed, zee, zef, zeg, zeh, zei, zej, zek, zel, zem, zen, zeo, zep, zeq, zer, fa_0, fa_1, zes, bd_0, bd_2, zet, fd_1, zeu, Nat.zero_add, e2, j2, e1, e5, faT_4, ldT_4, lenTk, q1]
      exact finish_i _ _ _ _ _ _ _ (by first | (simp only [zfi, ↓reduceIte, Nat.reduceEqDiff]; done) | (simp only [zfi, ↓reduceIte, Nat.reduceEqDiff]; rfl)) rfl
    | cons kid r =>
      have hil : i < ks.length := by have := congrArg List.length hdr; simp only [List.length_drop, List.length_cons] at this; omega
      have q1 : (i : Int) < (ks.length : Int) := by omega
      rw [hdr] at hk
      simp only [lgK] at hk
      by_cases q2 : v ≥ 0
      · rw [if_pos q2] at hk
        have hbk := bigK_at R ks i kid r hdr hb.2.2
        have hfk := fewK_at R ks i kid r hdr hf.2.2
        have cc := fun D st => callA_trees (cfg := cfg0) (d := D) (s := st) (f := 31) (vs := [encT kid, .int .i64 v]) rfl (IH kid v q2 (by omega) (by omega) hbk hfk)
        simp only [encT] at cc
        have ia := fun st => ia_K st ks (gr kg) i hil
        rw [hdr] at ia
        have ld := fun st => ld_K st kid r
        simp only [encT] at ld
        have f5 := i_add Tryd.prog 3 (i : Int) 1 (by omega) (by omega)
        have hl := lgT_lt kid v q2
        simp only [zaa, zab, zac, zad, zae, zaf, zag, zah, zai, zaj, zak, zal, zam, zan, zao, zap, zaq, zar, zas, zat, zau, zav, zaw, zax, zay, zaz, zba, zbb, zbc, zbd, zbe, zbf, zbg, zbh, zbi, zbj, zbk, zbl, zbm, zbn, zbo, zbp, zbq, Nat.reduceBEq, Bool.or_self, Bool.or_false, Bool.or_true, Bool.and_true, Bool.and_false, Bool.true_and, Bool.false_and, Option.isNone_none, Option.isNone_some, Option.isSome_some, Option.isSome_none, zbr, zbs, zbt, zbu, zbv, zbw, zbx, zby, zbz, zca, zcb, zcc, zcd, zce, zcf, zcg, zch, zci, zcj, zck, zcl, zcm, zcn, zco, zcp, zcq, zcr, own0, zcs, zct, zcu, zcv, zcw, zcx, zcy, zcz, zda, zdb, zdc, zdd, zde, zdf, zdg, zdh, zdi, zdj, zdk, zdl, zdm, zdn, zdo, zdp, zdq, zdr, zds, zdt, zdu, Option.getD_some, Option.getD_none, zfb, zfc, zfd, zfe, zff, zfg, zfh, zfi, Option.map_some, Option.map_none, Option.bind_some, List.map_cons, List.map_nil, List.cons_append, List.nil_append, ↓reduceIte, Nat.reduceEqDiff, Nat.reduceAdd, decide_true, decide_false, Bool.true_eq_false, Bool.false_eq_true, zdv, zdw, zdx, zdy, zdz, zea, zeb, zec, ia22, ld31, zed, zee, zef, zeg, zeh, zei, zej, zek, zel, zem, zen, zeo, zep, zeq, zer, fa_0, fa_1, zes, bd_0, bd_2, zet, fd_1, zeu, Nat.zero_add, e2, j2, e1, e5, faT_4, ldT_4, lenTk, q1, q2, ia, ld, cc, f5]
        exact ih2 (i + 1, lgT kid v) _ _ (by simp only; omega) rfl ⟨(by first | (simp only [zfi, ↓reduceIte, Nat.reduceEqDiff, e2]; done) | (simp only [zfi, ↓reduceIte, Nat.reduceEqDiff, e2]; rfl)), by simp only [cellsT]; exact (by first | (simp only [zfi, ↓reduceIte, Nat.reduceEqDiff, j2]; done) | (simp only [zfi, ↓reduceIte, Nat.reduceEqDiff, j2]; rfl)), (by first | (simp only [zfi, ↓reduceIte, Nat.reduceEqDiff]; done) | (simp only [zfi, ↓reduceIte, Nat.reduceEqDiff]; rfl)), (by first | (simp only [zfi, ↓reduceIte, Nat.reduceEqDiff]; done) | (simp only [zfi, ↓reduceIte, Nat.reduceEqDiff]; rfl)), by simp only; omega, by simp only; omega, by simp only; omega, by simp only; rw [drop_next hdr]; exact hk⟩
      · rw [if_neg q2] at hk
        rw [hk]
        simp only [zaa, zab, zac, zad, zae, zaf, zag, zah, zai, zaj, zak, zal, zam, zan, zao, zap, zaq, zar, zas, zat, zau, zav, zaw, zax, zay, zaz, zba, zbb, zbc, zbd, zbe, zbf, zbg, zbh, zbi, zbj, zbk, zbl, zbm, zbn, zbo, zbp, zbq, Nat.reduceBEq, Bool.or_self, Bool.or_false, Bool.or_true, Bool.and_true, Bool.and_false, Bool.true_and, Bool.false_and, Option.isNone_none, Option.isNone_some, Option.isSome_some, Option.isSome_none, zbr, zbs, zbt, zbu, zbv, zbw, zbx, zby, zbz, zca, zcb, zcc, zcd, zce, zcf, zcg, zch, zci, zcj, zck, zcl, zcm, zcn, zco, zcp, zcq, zcr, own0, zcs, zct, zcu, zcv, zcw, zcx, zcy, zcz, zda, zdb, zdc, zdd, zde, zdf, zdg, zdh, zdi, zdj, zdk, zdl, zdm, zdn, zdo, zdp, zdq, zdr, zds, zdt, zdu, Option.getD_some, Option.getD_none, zfb, zfc, zfd, zfe, zff, zfg, zfh, zfi, Option.map_some, Option.map_none, Option.bind_some, List.map_cons, List.map_nil, List.cons_append, List.nil_append, ↓reduceIte, Nat.reduceEqDiff, Nat.reduceAdd, decide_true, decide_false, Bool.true_eq_false, Bool.false_eq_true, zdv, zdw, zdx, zdy, zdz, zea, zeb, zec, ia22, ld31, zed, zee, zef, zeg, zeh, zei, zej, zek, zel, zem, zen, zeo, zep, zeq, zer, fa_0, fa_1, zes, bd_0, bd_2, zet, fd_1, zeu, Nat.zero_add, e2, j2, e1, e5, faT_4, ldT_4, lenTk, q1, q2]
        exact finish_i _ _ _ _ _ _ _ (by first | (simp only [zfi, ↓reduceIte, Nat.reduceEqDiff]; done) | (simp only [zfi, ↓reduceIte, Nat.reduceEqDiff]; rfl)) rfl
theorem Light_eq (R : Nat) (hR : 2000 ≤ R) (hR2 : R ≤ 9223372036854775808) (d : Nat) (t : T) (n : Int) (h0 : 0 ≤ n) (h1 : n < 1000) (hd : n + 2 ≤ (d : Int)) (hb : bigT R t) (hf : fewT R t) :
    evalFn Tryd.prog cfg0 R (d+1) 18 [.tree (encT t), .tree (.int .i64 n)] = some (.tree (.bool (decide (lgT t n ≥ 0))), [[], []]) := by
  rw [evalFn_go _ Tryd.func18 (by unfold Tryd.f18; rfl) (by unfold Tryd.f18; decide) (Nat.le_of_ble_eq_true (by unfold Tryd.f18; rfl)) (by kernel_rfl)]
  have cc := fun D st => callA_trees (cfg := cfg0) (d := D) (s := st) (f := 31) (vs := [encT t, .int .i64 n]) rfl (light_eq R hR hR2 d t n h0 h1 hd hb hf)
  simp only [encT] at cc
  simp only [zaa, zab, zac, zad, zae, zaf, zag, zah, zai, zaj, zak, zal, zam, zan, zao, zap, zaq, zar, zas, zat, zau, zav, zaw, zax, zay, zaz, zba, zbb, zbc, zbd, zbe, zbf, zbg, zbh, zbi, zbj, zbk, zbl, zbm, zbn, zbo, zbp, zbq, Nat.reduceBEq, Bool.or_self, Bool.or_false, Bool.or_true, Bool.and_true, Bool.and_false, Bool.true_and, Bool.false_and, Option.isNone_none, Option.isNone_some, Option.isSome_some, Option.isSome_none, zbr, zbs, zbt, zbu, zbv, zbw, zbx, zby, zbz, zca, zcb, zcc, zcd, zce, zcf, zcg, zch, zci, zcj, zck, zcl, zcm, zcn, zco, zcp, zcq, zcr, own0, zcs, zct, zcu, zcv, zcw, zcx, zcy, zcz, zda, zdb, zdc, zdd, zde, zdf, zdg, zdh, zdi, zdj, zdk, zdl, zdm, zdn, zdo, zdp, zdq, zdr, zds, zdt, zdu, Option.getD_some, Option.getD_none, zfb, zfc, zfd, zfe, zff, zfg, zfh, zfi, Option.map_some, Option.map_none, Option.bind_some, List.map_cons, List.map_nil, List.cons_append, List.nil_append, ↓reduceIte, Nat.reduceEqDiff, Nat.reduceAdd, decide_true, decide_false, Bool.true_eq_false, Bool.false_eq_true, env0, List.getElem?_cons_zero, List.getElem?_cons_succ, zdv, zdw, zdx, zdy, zdz, zea, zeb, zec, ia22, ld31, zed, zee, zef, zeg, zeh, zei, zej, zek, zel, zem, zen, zeo, zep, zeq, zer, fa_0, fa_1, zes, bd_0, bd_2, zet, fd_1, zeu, Nat.zero_add, encT, ldT_u, cc]
  exact finish_b _ _ _ _ _ _ _ (by first | (simp only [zfi, ↓reduceIte, Nat.reduceEqDiff]; done) | (simp only [zfi, ↓reduceIte, Nat.reduceEqDiff]; rfl)) rfl

/-! ### Items -/
def itT : Nat → T → List T → Option (List T)
  | 0, _, _ => none
  | r + 1, t, acc => if kindT t = 3 then some acc else if kindT t = 4 then (match kidsT t with | [h, u] => itT r u (acc ++ [h]) | _ => none) else none
theorem itT_mk (r : Nat) (k : Int) (b : Bool) (lg : Gk) (l : List Nat) (s : List UInt8) (n : Int) (kg : Gk) (ks acc : List T) : itT (r + 1) (.mk k b lg l s n kg ks) acc = if k = 3 then some acc else if k = 4 then (match ks with | [h, u] => itT r u (acc ++ [h]) | _ => none) else none := rfl
def itemsT (t : T) : Option (List T) := itT 2001 t []
def itemsV : Option (List T) → AV
  | some l => .tup [.sl (cellsK l) l.length (gr (kgOf l)), .bool true]
  | none => .tup [.sl [] 0 .nil, .bool false]
theorem finish_Kb (k : Bool) (xs : List Arg) (t t' d : Nat) (x : AV) (us : List T) (env : Env) (s : St) (b : Bool) (os : List (List AV)) (hv : env t = x) (hA : Ap s d x us) (hb : env t' = .bool b) (ho : outsA s 0 xs = some os) :
    finishP Tryd.prog k xs #[.tmp t, .tmp t'] env s = some (.tree (.tup [.sl (cellsK us) us.length (gr (kgOf us)), .bool b]), os) := by
  rw [finishP_t2]
  rcases hA with ⟨rfl, rfl⟩ | ⟨hu, tt, rfl, _⟩
  · simp [finish, hv, hb, settleL, settle, ho, kgOf, gr, cellsK]
  · simp [finish, hv, hb, settleL, settle, ho, kgOf, hu, gr]
set_option maxHeartbeats 8000000 in
theorem items_eq (R : Nat) (hR : 2010 ≤ R) (d : Nat) (t0 : T) : evalFn Tryd.prog cfg0 R (d+1) 53 [.tree (encT t0)] = some (.tree (itemsV (itemsT t0)), [[]]) := by
  rw [evalFn_go _ Tryd.func53 (by unfold Tryd.f53; rfl) (by unfold Tryd.f53; decide) (Nat.le_of_ble_eq_true (by unfold Tryd.f53; rfl)) (by kernel_rfl)]
  simp only [zaa, zab, zac, zad, zae, zaf, zag, zah, zai, zaj, zak, zal, zam, zan, zao, zap, zaq, zar, zas, zat, zau, zav, zaw, zax, zay, zaz, zba, zbb, zbc, zbd, zbe, zbf, zbg, zbh, zbi, zbj, zbk, zbl, zbm, zbn, zbo, zbp, zbq, Nat.reduceBEq, Bool.or_self, Bool.or_false, Bool.or_true, Bool.and_true, Bool.and_false, Bool.true_and, Bool.false_and, Option.isNone_none, Option.isNone_some, Option.isSome_some, Option.isSome_none, zbr, zbs, zbt, zbu, zbv, zbw, zbx, zby, zbz, zca, zcb, zcc, zcd, zce, zcf, zcg, zch, zci, zcj, zck, zcl, zcm, zcn, zco, zcp, zcq, zcr, own0, zcs, zct, zcu, zcv, zcw, zcx, zcy, zcz, zda, zdb, zdc, zdd, zde, zdf, zdg, zdh, zdi, zdj, zdk, zdl, zdm, zdn, zdo, zdp, zdq, zdr, zds, zdt, zdu, Option.getD_some, Option.getD_none, zfb, zfc, zfd, zfe, zff, zfg, zfh, zfi, Option.map_some, Option.map_none, Option.bind_some, List.map_cons, List.map_nil, List.cons_append, List.nil_append, ↓reduceIte, Nat.reduceEqDiff, Nat.reduceAdd, decide_true, decide_false, Bool.true_eq_false, Bool.false_eq_true, env0, List.getElem?_cons_zero, List.getElem?_cons_succ, zef, zeg, zeh, zei, zej, zek, zel, zem, zen, zeo, zep, zeq, zer, fa_0, fa_1, zes, bd_0, bd_2, zet, fd_1, zeu, Nat.zero_add, encT, den_loop]
  refine loop_ends (X := T × List T) (fun x env s => env 1 = .ptr 1 1 0 ∧ s 1 = ⟨1, .buf (cellsT x.1)⟩ ∧ Ap s 29 (env 4) x.2 ∧ x.2.length ≤ 2001 ∧ itT (2001 - x.2.length) x.1 x.2 = itemsT t0) (fun x => 2001 - x.2.length) (fun _ => (.tree (itemsV (itemsT t0)), [[]])) ?_ R (t0, []) _ _ (by simp only [List.length_nil]; omega) ⟨(by first | (simp only [zfi, ↓reduceIte, Nat.reduceEqDiff]; done) | (simp only [zfi, ↓reduceIte, Nat.reduceEqDiff]; rfl)), (by first | (simp only [zfi, ↓reduceIte, Nat.reduceEqDiff]; done) | (simp only [zfi, ↓reduceIte, Nat.reduceEqDiff]; rfl)), .inl ⟨rfl, (by first | (simp only [zfi, ↓reduceIte, Nat.reduceEqDiff]; done) | (simp only [zfi, ↓reduceIte, Nat.reduceEqDiff]; rfl))⟩, by simp, rfl⟩
  rintro rd ⟨t, acc⟩ hrd ih env st ⟨e1, j1, ap, hl, hit⟩
  simp only at j1 ap hl hit hrd
  rw [← hit]
  generalize h4 : env 4 = x4 at ap
  have la : ∀ st, lenA Tryd.prog 22 st x4 = some (.int .i64 (acc.length : Int)) := fun st => by
    rcases ap with ⟨rfl, rfl⟩ | ⟨_, tt, rfl, _⟩
    · exact lenTk st [] 0 .nil
    · exact lenTk st _ _ _
  by_cases q1 : (acc.length : Int) ≤ 2000
  rotate_left
  · have h0 : 2001 - acc.length = 0 := by omega
    rw [h0, itT]
    simp only [zaa, zab, zac, zad, zae, zaf, zag, zah, zai, zaj, zak, zal, zam, zan, zao, zap, zaq, zar, zas, zat, zau, zav, zaw, zax, zay, zaz, zba, zbb, zbc, zbd, zbe, zbf, zbg, zbh, zbi, zbj, zbk, zbl, zbm, zbn, zbo, zbp, zbq, Nat.reduceBEq, Bool.or_self, Bool.or_false, Bool.or_true, Bool.and_true, Bool.and_false, Bool.true_and, Bool.false_and, Option.isNone_none, Option.isNone_some, Option.isSome_some, Option.isSome_none, zbr, zbs, zbt, zbu, zbv, zbw, zbx, zby, zbz, zca, zcb, zcc, zcd, zce, zcf, zcg, zch, zci, zcj, zck, zcl, zcm, zcn, zco, zcp, zcq, zcr, own0, zcs, zct, zcu, zcv, zcw, zcx, zcy, zcz, zda, zdb, zdc, zdd, zde, zdf, zdg, zdh, zdi, zdj, zdk, zdl, zdm, zdn, zdo, zdp, zdq, zdr, zds, zdt, zdu, Option.getD_some, Option.getD_none, zfb, zfc, zfd, zfe, zff, zfg, zfh, zfi, Option.map_some, Option.map_none, Option.bind_some, List.map_cons, List.map_nil, List.cons_append, List.nil_append, ↓reduceIte, Nat.reduceEqDiff, Nat.reduceAdd, decide_true, decide_false, Bool.true_eq_false, Bool.false_eq_true, zdv, zdw, zdx, zdy, zdz, zea, zeb, zec, ia22, ld31, zed, zee, zef, zeg, zeh, zei, zej, zek, zel, zem, zen, zeo, zep, zeq, zer, fa_0, fa_1, zes, bd_0, bd_2, zet, fd_1, zeu, Nat.zero_add, e1, h4, la, q1]
    exact finish_Kb _ _ _ _ 29 _ [] _ _ _ _ (by first | (simp only [zfi, ↓reduceIte, Nat.reduceEqDiff]; done) | (simp only [zfi, ↓reduceIte, Nat.reduceEqDiff]; rfl)) (.inl ⟨rfl, rfl⟩) (by first | (simp only [zfi, ↓reduceIte, Nat.reduceEqDiff]; done) | (simp only [zfi, ↓reduceIte, Nat.reduceEqDiff]; rfl)) rfl
  obtain ⟨r, hr⟩ : ∃ r, 2001 - acc.length = r + 1 := ⟨2000 - acc.length, by omega⟩
  rw [hr] at hit ⊢
  obtain ⟨k, b, lg, l, s, m, kg, ks⟩ := t
  simp only [cellsT] at j1
  rw [itT_mk] at hit ⊢
  by_cases k3 : k = 3
  · rw [if_pos k3]
    have q3 : (k == 3) = true := by rw [k3]; rfl
    simp only [zaa, zab, zac, zad, zae, zaf, zag, zah, zai, zaj, zak, zal, zam, zan, zao, zap, zaq, zar, zas, zat, zau, zav, zaw, zax, zay, zaz, zba, zbb, zbc, zbd, zbe, zbf, zbg, zbh, zbi, zbj, zbk, zbl, zbm, zbn, zbo, zbp, zbq, Nat.reduceBEq, Bool.or_self, Bool.or_false, Bool.or_true, Bool.and_true, Bool.and_false, Bool.true_and, Bool.false_and, Option.isNone_none, Option.isNone_some, Option.isSome_some, Option.isSome_none, zbr, zbs, zbt, zbu, zbv, zbw, zbx, zby, zbz, zca, zcb, zcc, zcd, zce, zcf, zcg, zch, zci, zcj, zck, zcl, zcm, zcn, zco, zcp, zcq, zcr, own0, zcs, zct, zcu, zcv, zcw, zcx, zcy, zcz, zda, zdb, zdc, zdd, zde, zdf, zdg, zdh, zdi, zdj, zdk, zdl, zdm, zdn, zdo, zdp, zdq, zdr, zds, zdt, zdu, Option.getD_some, Option.getD_none, zfb, zfc, zfd, zfe, zff, zfg, zfh, zfi, Option.map_some, Option.map_none, Option.bind_some, List.map_cons, List.map_nil, List.cons_append, List.nil_append, ↓reduceIte, Nat.reduceEqDiff, Nat.reduceAdd, decide_true, decide_false, Bool.true_eq_false, Bool.false_eq_true, zdv, zdw, zdx, zdy, zdz, zea, zeb, zec, ia22, ld31, zed, zee, zef, zeg, zeh, zei, zej, zek, zel, zem, zen, zeo, zep, zeq, zer, fa_0, fa_1, zes, bd_0, bd_2, zet, fd_1, zeu, Nat.zero_add, e1, j1, h4, la, q1, faT_0, ldT_0, i_eqlV, q3]
    exact finish_Kb _ _ _ _ 29 x4 acc _ _ _ _ (by first | (simp only [zfi, ↓reduceIte, Nat.reduceEqDiff]; done) | (simp only [zfi, ↓reduceIte, Nat.reduceEqDiff]; rfl)) ap (by first | (simp only [zfi, ↓reduceIte, Nat.reduceEqDiff]; done) | (simp only [zfi, ↓reduceIte, Nat.reduceEqDiff]; rfl)) rfl
  have q3 : (k == 3) = false := beq_eq_false_iff_ne.mpr k3
  rw [if_neg k3] at hit ⊢
  by_cases k4 : k = 4
  rotate_left
  · rw [if_neg k4]
    have q4 : (k != 4) = true := bne_iff_ne.mpr k4
    simp only [zaa, zab, zac, zad, zae, zaf, zag, zah, zai, zaj, zak, zal, zam, zan, zao, zap, zaq, zar, zas, zat, zau, zav, zaw, zax, zay, zaz, zba, zbb, zbc, zbd, zbe, zbf, zbg, zbh, zbi, zbj, zbk, zbl, zbm, zbn, zbo, zbp, zbq, Nat.reduceBEq, Bool.or_self, Bool.or_false, Bool.or_true, Bool.and_true, Bool.and_false, Bool.true_and, Bool.false_and, Option.isNone_none, Option.isNone_some, Option.isSome_some, Option.isSome_none, zbr, zbs, zbt, zbu, zbv, zbw, zbx, zby, zbz, zca, zcb, zcc, zcd, zce, zcf, zcg, zch, zci, zcj, zck, zcl, zcm, zcn, zco, zcp, zcq, zcr, own0, zcs, zct, zcu, zcv, zcw, zcx, zcy, zcz, zda, zdb, zdc, zdd, zde, zdf, zdg, zdh, zdi, zdj, zdk, zdl, zdm, zdn, zdo, zdp, zdq, zdr, zds, zdt, zdu, Option.getD_some, Option.getD_none, zfb, zfc, zfd, zfe, zff, zfg, zfh, zfi, Option.map_some, Option.map_none, Option.bind_some, List.map_cons, List.map_nil, List.cons_append, List.nil_append, ↓reduceIte, Nat.reduceEqDiff, Nat.reduceAdd, decide_true, decide_false, Bool.true_eq_false, Bool.false_eq_true, zdv, zdw, zdx, zdy, zdz, zea, zeb, zec, ia22, ld31, zed, zee, zef, zeg, zeh, zei, zej, zek, zel, zem, zen, zeo, zep, zeq, zer, fa_0, fa_1, zes, bd_0, bd_2, zet, fd_1, zeu, Nat.zero_add, e1, j1, h4, la, q1, faT_0, ldT_0, i_eqlV, i_neqV, q3, q4]
    exact finish_Kb _ _ _ _ 29 _ [] _ _ _ _ (by first | (simp only [zfi, ↓reduceIte, Nat.reduceEqDiff]; done) | (simp only [zfi, ↓reduceIte, Nat.reduceEqDiff]; rfl)) (.inl ⟨rfl, rfl⟩) (by first | (simp only [zfi, ↓reduceIte, Nat.reduceEqDiff]; done) | (simp only [zfi, ↓reduceIte, Nat.reduceEqDiff]; rfl)) rfl
  have q4 : (k != 4) = false := by rw [k4]; rfl
  rw [if_pos k4] at hit ⊢
  by_cases k2 : ks.length = 2
  rotate_left
  · have hn : (match ks with | [h, u] => itT r u (acc ++ [h]) | _ => none) = none := by
      match ks, k2 with
      | [], _ => rfl
      | [_], _ => rfl
      | [_, _], h => exact absurd rfl h
      | _ :: _ :: _ :: _, _ => rfl
    rw [hn]
    have q5 : ((ks.length : Int) != 2) = true := bne_iff_ne.mpr (by omega)
    simp only [zaa, zab, zac, zad, zae, zaf, zag, zah, zai, zaj, zak, zal, zam, zan, zao, zap, zaq, zar, zas, zat, zau, zav, zaw, zax, zay, zaz, zba, zbb, zbc, zbd, zbe, zbf, zbg, zbh, zbi, zbj, zbk, zbl, zbm, zbn, zbo, zbp, zbq, Nat.reduceBEq, Bool.or_self, Bool.or_false, Bool.or_true, Bool.and_true, Bool.and_false, Bool.true_and, Bool.false_and, Option.isNone_none, Option.isNone_some, Option.isSome_some, Option.isSome_none, zbr, zbs, zbt, zbu, zbv, zbw, zbx, zby, zbz, zca, zcb, zcc, zcd, zce, zcf, zcg, zch, zci, zcj, zck, zcl, zcm, zcn, zco, zcp, zcq, zcr, own0, zcs, zct, zcu, zcv, zcw, zcx, zcy, zcz, zda, zdb, zdc, zdd, zde, zdf, zdg, zdh, zdi, zdj, zdk, zdl, zdm, zdn, zdo, zdp, zdq, zdr, zds, zdt, zdu, Option.getD_some, Option.getD_none, zfb, zfc, zfd, zfe, zff, zfg, zfh, zfi, Option.map_some, Option.map_none, Option.bind_some, List.map_cons, List.map_nil, List.cons_append, List.nil_append, ↓reduceIte, Nat.reduceEqDiff, Nat.reduceAdd, decide_true, decide_false, Bool.true_eq_false, Bool.false_eq_true, zdv, zdw, zdx, zdy, zdz, zea, zeb, zec, ia22, ld31, zed, zee, zef, zeg, zeh, zei, zej, zek, zel, zem, zen, zeo, zep, zeq, zer, fa_0, fa_1, zes, bd_0, bd_2, zet, fd_1, zeu, Nat.zero_add, e1, j1, h4, la, q1, faT_0, ldT_0, faT_4, ldT_4, lenTk, i_eqlV, i_neqV, q3, q4, q5]
    exact finish_Kb _ _ _ _ 29 _ [] _ _ _ _ (by first | (simp only [zfi, ↓reduceIte, Nat.reduceEqDiff]; done) | (simp only [zfi, ↓reduceIte, Nat.reduceEqDiff]; rfl)) (.inl ⟨rfl, rfl⟩) (by first | (simp only [zfi, ↓reduceIte, Nat.reduceEqDiff]; done) | (simp only [zfi, ↓reduceIte, Nat.reduceEqDiff]; rfl)) rfl
  obtain ⟨h, u, rfl⟩ : ∃ h u, ks = [h, u] := by
    match ks, k2 with
    | [h, u], _ => exact ⟨h, u, rfl⟩
  simp only at hit ⊢
  have q5 : (((2 : Nat) : Int) != 2) = false := rfl
  obtain ⟨x', s', a1, a2, a3⟩ := ap.push (by omega) h
  have i0 : ∀ st, indexAddrA Tryd.prog 22 st (.sl (cellsK [h, u]) 2 (gr kg)) (.int .i64 0) = some (.rptr (cellsK [h, u])) := fun st => ia_K st [h, u] (gr kg) 0 (by simp)
  have i1 : ∀ st, indexAddrA Tryd.prog 22 st (.sl (cellsK [h, u]) 2 (gr kg)) (.int .i64 1) = some (.rptr (cellsK [u])) := fun st => ia_K st [h, u] (gr kg) 1 (by simp)
  have l0 := fun st => ld_K st h [u]
  have l1 := fun st => ld_K st u []
  simp only [encT] at l0 l1
  have bs := fun (q : Bool) (d' : Option Tmp) (ty : TypeId) (pos : String) (af : Array Edge) (g : Option (Nat × Bool)) (t : Nat) (env : Env) (s : St) (x : Operand) (hx : ev env x = .agg (cellsT h)) => opA_bs1 (evalFn Tryd.prog cfg0 R d) q d' ty pos af g t env s x _ hx
  have j1' : s' 1 = ⟨1, .buf [.int .i64 k, .bool b, encL lg l, .str s, .int .i64 m, .sl (cellsK [h, u]) 2 (gr kg)]⟩ := by rw [a3 1 (by decide)]; exact j1
  simp only [List.length_cons, List.length_nil, Nat.zero_add, Nat.reduceAdd] at j1
  simp only [zaa, zab, zac, zad, zae, zaf, zag, zah, zai, zaj, zak, zal, zam, zan, zao, zap, zaq, zar, zas, zat, zau, zav, zaw, zax, zay, zaz, zba, zbb, zbc, zbd, zbe, zbf, zbg, zbh, zbi, zbj, zbk, zbl, zbm, zbn, zbo, zbp, zbq, Nat.reduceBEq, Bool.or_self, Bool.or_false, Bool.or_true, Bool.and_true, Bool.and_false, Bool.true_and, Bool.false_and, Option.isNone_none, Option.isNone_some, Option.isSome_some, Option.isSome_none, zbr, zbs, zbt, zbu, zbv, zbw, zbx, zby, zbz, zca, zcb, zcc, zcd, zce, zcf, zcg, zch, zci, zcj, zck, zcl, zcm, zcn, zco, zcp, zcq, zcr, own0, zcs, zct, zcu, zcv, zcw, zcx, zcy, zcz, zda, zdb, zdc, zdd, zde, zdf, zdg, zdh, zdi, zdj, zdk, zdl, zdm, zdn, zdo, zdp, zdq, zdr, zds, zdt, zdu, Option.getD_some, Option.getD_none, zfb, zfc, zfd, zfe, zff, zfg, zfh, zfi, Option.map_some, Option.map_none, Option.bind_some, List.map_cons, List.map_nil, List.cons_append, List.nil_append, ↓reduceIte, Nat.reduceEqDiff, Nat.reduceAdd, decide_true, decide_false, Bool.true_eq_false, Bool.false_eq_true, zdv, zdw, zdx, zdy, zdz, zea, zeb, zec, ia22, ld31, zed, zee, zef, zeg, zeh, zei, zej, zek, zel, zem, zen, zeo, zep, zeq, zer, fa_0, fa_1, zes, bd_0, bd_2, zet, fd_1, zeu, Nat.zero_add, e1, j1, h4, la, q1, faT_0, ldT_0, faT_4, ldT_4, lenTk, i_eqlV, i_neqV, q3, q4, q5, i0, l0]
  rw [bs _ _ _ _ _ _ _ _ _ _ (by first | (simp only [zfi, ↓reduceIte, Nat.reduceEqDiff, zfd]; done) | (simp only [zfi, ↓reduceIte, Nat.reduceEqDiff, zfd]; rfl))]
  simp only [zaa, zab, zac, zad, zae, zaf, zag, zah, zai, zaj, zak, zal, zam, zan, zao, zap, zaq, zar, zas, zat, zau, zav, zaw, zax, zay, zaz, zba, zbb, zbc, zbd, zbe, zbf, zbg, zbh, zbi, zbj, zbk, zbl, zbm, zbn, zbo, zbp, zbq, Nat.reduceBEq, Bool.or_self, Bool.or_false, Bool.or_true, Bool.and_true, Bool.and_false, Bool.true_and, Bool.false_and, Option.isNone_none, Option.isNone_some, Option.isSome_some, Option.isSome_none, zbr, zbs, zbt, zbu, zbv, zbw, zbx, zby, zbz, zca, zcb, zcc, zcd, zce, zcf, zcg, zch, zci, zcj, zck, zcl, zcm, zcn, zco, zcp, zcq, zcr, own0, zcs, zct, zcu, zcv, zcw, zcx, zcy, zcz, zda, zdb, zdc, zdd, zde, zdf, zdg, zdh, zdi, zdj, zdk, zdl, zdm, zdn, zdo, zdp, zdq, zdr, zds, zdt, zdu, Option.getD_some, Option.getD_none, zfb, zfc, zfd, zfe, zff, zfg, zfh, zfi, Option.map_some, Option.map_none, Option.bind_some, List.map_cons, List.map_nil, List.cons_append, List.nil_append, ↓reduceIte, Nat.reduceEqDiff, Nat.reduceAdd, decide_true, decide_false, Bool.true_eq_false, Bool.false_eq_true, zdv, zdw, zdx, zdy, zdz, zea, zeb, zec, ia22, ld31, zed, zee, zef, zeg, zeh, zei, zej, zek, zel, zem, zen, zeo, zep, zeq, zer, fa_0, fa_1, zes, bd_0, bd_2, zet, fd_1, zeu, Nat.zero_add, a1, e1, j1', h4, faT_4, ldT_4, i1, l1, st_Tt, stT_6]
  have ha := a2
  rw [hit]
  refine ih (u, acc ++ [h]) _ _ (by simp; omega) rfl ?_
  refine ⟨(by first | (simp only [zfi, ↓reduceIte, Nat.reduceEqDiff, e1]; done) | (simp only [zfi, ↓reduceIte, Nat.reduceEqDiff, e1]; rfl)), (by first | (simp only [zfi, ↓reduceIte, Nat.reduceEqDiff]; done) | (simp only [zfi, ↓reduceIte, Nat.reduceEqDiff]; rfl)), ?_, by simp; omega, ?_⟩
  · rcases ha with ⟨g1, _⟩ | ⟨g1, tt, g2, g3⟩
    · exact absurd g1 (by simp)
    · exact .inr ⟨g1, tt, g2, by rw [upd_ne _ _ (by decide)]; exact g3⟩
  · simp only [List.length_append, List.length_cons, List.length_nil]
    rw [show 2001 - (acc.length + (0 + 1)) = r by omega]
    exact hit
end Go.Ab

/- How many words a term takes. Conditions: terms that are lean. -/
namespace Go.Ab
open Go.Proofs
set_option maxRecDepth 100000
set_option linter.unusedSimpArgs false

end Go.Ab
