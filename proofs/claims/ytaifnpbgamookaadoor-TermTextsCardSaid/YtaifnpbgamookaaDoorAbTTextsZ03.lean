/- Several texts put together: AbN, AbSim, AbS1, AbRow, AbPrim, AbLiP, AbSb, AbtPr, AbtL1, AbM1, AbM2, AbtL2, AbtL3, AbtL4, AbM3. Conditions: as each part says. -/
import Derived.Test.YtaifnpbgamookaaDoorAbTTextsZ02
import Derived.LoopN
import Derived.Scope
import Derived.Below
import Derived.Test.YtaifnpbgamookaaDoorProg
import Derived.KernelRfl
/- Code, and whole functions: where the abstract run of a call answers, the call answers that. Condition: the program follows the mixed orders. -/
namespace Go.Ab
section
variable {P : Program} {cfg : Cfg} {call : FuncId → List Arg → Option Out}

def exOf : Ex → Exit
  | .normal => .normal
  | .exit id => .exit id
  | .ret => .ret

theorem killF_ok (keep : FuncId → Bool) : ∀ (l : List Oper) (Γ : G), Inv Γ → Inv { Γ with s := killF keep l Γ.s } ∧ Ext Γ { Γ with s := killF keep l Γ.s }
  | [], Γ, h => ⟨h, .refl _⟩
  | o :: l, Γ, h => by
    simp only [killF]
    cases freshD keep o with
    | none => exact killF_ok keep l Γ h
    | some d =>
      obtain ⟨h1, h2⟩ := h.kill (p := d) (t := (Γ.s d).t) (Nat.le_refl _)
      obtain ⟨h3, h4⟩ := killF_ok keep l _ h1
      exact ⟨h3, h2.trans h4⟩
theorem killF_keeps (keep : FuncId → Bool) : ∀ (l : List Oper) (s : St) (p : Nat), (s p).c = .dead → (killF keep l s p).c = .dead
  | [], s, p, h => h
  | o :: l, s, p, h => by
    simp only [killF]
    refine killF_keeps keep l _ p ?_
    cases freshD keep o with
    | some d =>
      by_cases hp : p = d
      · subst hp; simp [killD, upd]
      · simp only [killD]; rw [upd_ne _ _ hp]; exact h
    | none => exact h
theorem killF_dead (keep : FuncId → Bool) : ∀ (l : List Oper) (s : St) (o : Oper) (p : Nat), o ∈ l → freshD keep o = some p → (killF keep l s p).c = .dead
  | [], s, o, p, h, _ => by cases h
  | o' :: l, s, o, p, h, hf => by
    simp only [killF]
    rcases List.mem_cons.1 h with rfl | h
    · rw [hf]
      exact killF_keeps keep l _ p (by simp [killD, upd])
    · exact killF_dead keep l _ o p h hf
theorem Trace.kept {ops : Array Oper} {r : Nat → AV} {E : Nat → Env} {Sg : Nat → St} (hT : Trace P cfg call true ops 0 ops.size r E Sg) {i : Nat} {a : Tmp} (hk : keptA ops i a = true) : ∀ j, i ≤ j → j ≤ ops.size → E j a = E i a
  | 0, h, _ => by have : i = 0 := by omega
                  subst this; rfl
  | j + 1, h, hj => by
    by_cases hij : i = j + 1
    · subst hij; rfl
    · have ih := Trace.kept hT hk j (by omega) (by omega)
      obtain ⟨o, g1, g2, _⟩ := hT.step j (Nat.zero_le _) (by omega)
      have h1 := List.all_eq_true.1 hk j (List.mem_range.2 (by omega))
      simp only [g1, Bool.or_eq_true, decide_eq_true_eq, bne_iff_ne, ne_eq] at h1
      have h2 : o.dst ≠ some a := h1.resolve_left (by omega)
      rw [g2, ← ih]
      cases hd : o.dst with
      | none => rfl
      | some d =>
        have : a ≠ d := fun e => h2 (by rw [hd, e])
        simp [setO, upd, this]
theorem convA_tree {a b : TypeId} {x : AV} (h : isTree x = true) (s s2 : St) : convA P a b s x = convA P a b s2 x := by
  unfold convA
  cases x with
  | own => cases h
  | _ => cases tkOf P a <;> cases tkOf P b <;> rfl
theorem lenA_tree {t : TypeId} {x : AV} (h : isTree x = true) (s s2 : St) : lenA P t s x = lenA P t s2 x := by
  unfold lenA
  cases x with
  | own => cases h
  | _ => cases tkOf P t <;> rfl
theorem loadA_tree {t : TypeId} {x : AV} (h : isTree x = true) (s s2 : St) : loadA P t s x = loadA P t s2 x := by
  unfold loadA
  cases x with
  | ptr => cases h
  | _ => rfl
theorem indexAddrA_tree {t : TypeId} {x ix r : AV} {s : St} (h : indexAddrA P t s x ix = some r) (ht : isTree r = true) (s2 : St) : indexAddrA P t s2 x ix = indexAddrA P t s x ix := by
  unfold indexAddrA at h ⊢
  revert h
  cases tkOf P t <;> cases x <;> cases ix <;> intro hy <;> first | rfl | skip
  all_goals
    simp only [Option.bind_eq_some_iff] at hy
    obtain ⟨z, _, hy⟩ := hy
    split at hy
    · cases hy; cases ht
    · cases hy
theorem fieldAddrA_tree {t : TypeId} {i : Nat} {x r : AV} {s : St} (h : fieldAddrA P t s x i = some r) (ht : isTree r = true) (s2 : St) : fieldAddrA P t s2 x i = fieldAddrA P t s x i := by
  unfold fieldAddrA at h ⊢
  cases hf : fieldOf P t i with
  | none => rfl
  | some y =>
    obtain ⟨ft, of⟩ := y
    rw [hf] at h
    dsimp only at h ⊢
    cases hez : esz P ft with
    | none => rfl
    | some _ =>
      rw [hez] at h
      cases x <;> first | rfl | skip
      dsimp only at h
      split at h
      · cases h; cases ht
      · cases h
theorem loose_still {ops : Array Oper} {r : Nat → AV} {E : Nat → Env} {Sg : Nat → St} (hT : Trace P cfg call true ops 0 ops.size r E Sg) (hA : ∀ i a, looseA cfg.keep ops i = some a → isTree (E ops.size a) = true) : StillAll (P := P) (cfg := cfg) (call := call) cfg.keep ops E (looseI cfg.keep ops) := by
  have hsz : ∀ {i o}, ops[i]? = some o → i < ops.size := fun {i o} ho => by
    rcases Nat.lt_or_ge i ops.size with h | h
    · exact h
    · rw [Array.getElem?_eq_none h] at ho; cases ho
  refine ⟨fun i o ho hI => ?_, fun i o p ho hf => ?_⟩
  · intro v s s' h
    simp only [looseI, Bool.or_eq_true] at hI
    rcases hI with hI | hI
    · simp only [inertI, ho] at hI
      exact opA_inert hI h
    · obtain ⟨a, ha⟩ := Option.isSome_iff_exists.1 hI
      have hx := hA i a ha
      unfold looseA at ha
      rw [ho] at ha
      dsimp only at ha
      cases hr : readerA o with
      | none => rw [hr] at ha; cases ha
      | some b =>
        rw [hr] at ha
        dsimp only at ha
        rw [Option.ite_none_right_eq_some] at ha
        obtain ⟨hc, ha⟩ := ha
        cases ha
        simp only [Bool.and_eq_true] at hc
        have hE := hT.kept hc.1.1 ops.size (by have := hsz ho; omega) (Nat.le_refl _)
        obtain ⟨o', g1, g2, g3⟩ := hT.step i (Nat.zero_le _) (hsz ho)
        rw [ho] at g1; cases g1
        have hc2 := hc.1.2
        clear hc
        have hkeep : (o.dst != some a) = true → isTree (E i a) = true := fun hne => by
          simp only [bne_iff_ne, ne_eq] at hne
          have : E (i + 1) a = E i a := by
            rw [g2]
            cases hd : o.dst with
            | none => rfl
            | some d =>
              have : a ≠ d := fun e => hne (by rw [hd, e])
              simp [setO, upd, this]
          rw [← this, ← hE]; exact hx
        unfold readerA at hr
        split at hr
        · cases hr
        rename_i hg
        have hdst : o.dst = some a → isTree (r i) = true := fun hd => by
          rw [hE, g2, hd] at hx
          simpa [setO, upd] using hx
        split at hr
        · rename_i t b hop
          cases hr
          rw [hop] at hc2
          have ht := hkeep hc2
          unfold opA at h ⊢
          simp only [hop, ev] at h ⊢
          obtain ⟨y, hy, e⟩ := map_some h
          cases e
          exact ⟨rfl, fun s2 => by rw [loadA_tree ht s2 s, hy]; rfl⟩
        · rename_i t u b hop
          cases hr
          rw [hop] at hc2
          have ht := hkeep hc2
          unfold opA at h ⊢
          simp only [hop, ev] at h ⊢
          obtain ⟨y, hy, e⟩ := map_some h
          cases e
          exact ⟨rfl, fun s2 => by rw [convA_tree ht s2 s, hy]; rfl⟩
        · rename_i t x ix hop
          rcases g3 with ⟨_, g4⟩ | ⟨g4, _, _⟩
          · unfold opA at g4 h ⊢
            simp only [hop] at g4 h ⊢
            obtain ⟨y, hy, e⟩ := map_some g4
            obtain ⟨e, -⟩ := Prod.mk.inj e
            rw [e] at hy
            have key := indexAddrA_tree hy (hdst hr)
            obtain ⟨z, hz, e⟩ := map_some h
            cases e
            exact ⟨rfl, fun s2 => by rw [key s2, ← key s, hz]; rfl⟩
          · simp [wantA, hg] at g4
        · rename_i t x k hop
          rcases g3 with ⟨_, g4⟩ | ⟨g4, _, _⟩
          · unfold opA at g4 h ⊢
            simp only [hop] at g4 h ⊢
            obtain ⟨y, hy, e⟩ := map_some g4
            obtain ⟨e, -⟩ := Prod.mk.inj e
            rw [e] at hy
            have key := fieldAddrA_tree hy (hdst hr)
            obtain ⟨z, hz, e⟩ := map_some h
            cases e
            exact ⟨rfl, fun s2 => by rw [key s2, ← key s, hz]; rfl⟩
          · simp [wantA, hg] at g4
        · rename_i c hop
          split at hr
          · rename_i hb
            split at hr
            · rename_i b hx'
              cases hr
              rw [hop] at hc2
              have ht := hkeep hc2
              unfold opA at h ⊢
              simp only [hop, hb, hx'] at h ⊢
              split at h
              · rename_i x t hxx htt
                cases hxx
                simp only [ev] at h ⊢
                obtain ⟨y, hy, e⟩ := map_some h
                cases e
                exact ⟨rfl, fun s2 => by rw [lenA_tree ht s2 s, hy]; rfl⟩
              · cases h
            · cases hr
          · cases hr
        · cases hr
  · cases hl : looseI cfg.keep ops i with
    | false => rfl
    | true =>
      exfalso
      simp only [looseI, Bool.or_eq_true] at hl
      rcases hl with hI | hI
      · simp only [inertI, ho] at hI
        rw [fresh_noisy hf] at hI; cases hI
      · obtain ⟨a, ha⟩ := Option.isSome_iff_exists.1 hI
        unfold looseA at ha
        rw [ho] at ha
        dsimp only at ha
        cases hr : readerA o with
        | none => rw [hr] at ha; cases ha
        | some b =>
          unfold readerA at hr
          unfold freshD at hf
          split at hr
          · cases hr
          rename_i hg
          rw [hg] at hf
          dsimp only at hf
          split at hr <;> rename_i hop <;> first | cases hr | skip
          all_goals rw [hop] at hf
          all_goals first | (cases hf; done) | skip
          split at hr
          · rename_i hb
            simp only [hb] at hf; cases hf
          · cases hr
theorem inert_still {ops : Array Oper} {E : Nat → Env} : StillAll (P := P) (cfg := cfg) (call := call) cfg.keep ops E (inertI ops) := by
  refine ⟨fun i o ho hI => ?_, fun i o p ho hf => ?_⟩
  · intro v s s' h
    simp only [inertI, ho] at hI
    exact opA_inert hI h
  · simp only [inertI, ho]
    exact fresh_noisy hf
theorem settle_tree {s : St} {v : AV} (h : isTree v = true) : settle s v = some (v, s) := by
  unfold settle
  cases v with
  | own => cases h
  | ptr => cases h
  | tupo => cases h
  | aggo => cases h
  | slw => cases h
  | sl xs len g => cases g <;> first | rfl | cases h
  | _ => rfl
theorem ofV_tree (v : Value) : isTree (ofV v) = true := by
  unfold ofV
  split
  · split <;> rfl
  · unfold ofV1
    split <;> rfl
theorem store_at {o : Oper} {d : Nat} {env : Env} {s s1 : St} {r : AV} {b : Tmp} {x : Operand} {q k off p : Nat} (ho : storeS o = some (b, x)) (hb : env b = .ptr q k off) (hx : isTree (ev env x) = true) (hp : p ≠ q) (h : opA P cfg call true o d env s = some (r, s1)) : s1 p = s p := by
  unfold storeS at ho
  split at ho
  · rename_i t b' x' hop
    cases ho
    unfold opA at h
    simp only [hop] at h
    have eb : ev env (.tmp b) = .ptr q k off := hb
    rw [eb] at h
    generalize ev env x = v at hx h
    have h2 : (storeH P t s (.ptr q k off) v).map (AV.tup [], ·) = some (r, s1) ∨ (storeA P t s (.ptr q k off) v).map (AV.tup [], ·) = some (r, s1) := by
      split at h
      · exact .inl h
      · exact .inr h
    rcases h2 with h2 | h2
    · exfalso
      obtain ⟨z, hz, _⟩ := map_some h2
      unfold storeH at hz
      cases v with
      | sl ys len g => cases g <;> first | (cases hx; done) | (cases hz; done)
      | aggo => cases hx
      | slw => cases hx
      | _ => cases hz
    · obtain ⟨z, hz, e⟩ := map_some h2
      cases e
      simp only [storeA, settle_tree hx, Option.bind_some] at hz
      split at hz
      · split at hz
        · split at hz
          · split at hz
            · cases hz; exact upd_ne _ _ hp
            · cases hz
          · split at hz
            · cases hz; exact upd_ne _ _ hp
            · cases hz
        · cases hz
      · cases hz
  · cases ho
theorem Trace.kept0 {ops : Array Oper} {r : Nat → AV} {E : Nat → Env} {Sg : Nat → St} (hT : Trace P cfg call true ops 0 ops.size r E Sg) {i : Nat} {a : Tmp} (hk : keptA ops i a = true) (hi : i ≤ ops.size) : E i a = E ops.size a := (hT.kept hk ops.size hi (Nat.le_refl _)).symm
theorem store_still {ops : Array Oper} {r : Nat → AV} {E : Nat → Env} {Sg : Nat → St} (hT : Trace P cfg call true ops 0 ops.size r E Sg) (hok : okStores cfg.keep ops = true)
    (hA : ∀ i a, looseS ops i = some a → ∀ (j : Nat) (o : Oper) b x, ops[j]? = some o → storeS o = some (b, x) → (∃ xs, E ops.size a = .rptr xs) ∨ ∃ p k off q k' off', E ops.size a = .ptr p k off ∧ E ops.size b = .ptr q k' off' ∧ p ≠ q)
    (hV : ∀ (j : Nat) (o : Oper) b v, ops[j]? = some o → storeS o = some (b, .tmp v) → isTree (E ops.size v) = true) : StillC (P := P) (cfg := cfg) (call := call) cfg.keep ops E Sg (looseIS ops) := by
  have hsz : ∀ {i o}, ops[i]? = some o → i < ops.size := fun {i o} ho => by
    rcases Nat.lt_or_ge i ops.size with h | h
    · exact h
    · rw [Array.getElem?_eq_none h] at ho; cases ho
  have hops : ∀ (j : Nat) (o : Oper), ops[j]? = some o → calmS cfg.keep o = true ∨ ∃ b x, storeS o = some (b, x) ∧ keptA ops j b = true ∧ keptX ops j x = true := fun j o ho => by
    have h1 := List.all_eq_true.1 hok j (List.mem_range.2 (hsz ho))
    rw [ho] at h1
    simp only [Bool.or_eq_true] at h1
    rcases h1 with h1 | h1
    · exact .inl h1
    · cases hs : storeS o with
      | none => rw [hs] at h1; cases h1
      | some y =>
        obtain ⟨b, x⟩ := y
        rw [hs] at h1
        simp only [Bool.and_eq_true] at h1
        exact .inr ⟨b, x, rfl, h1.1, h1.2.1⟩
  -- what a reader's address tells stays as it is
  have hPr : ∀ i a p k off, looseS ops i = some a → E ops.size a = .ptr p k off → ∀ j, j ≤ ops.size → Sg j p = Sg 0 p := fun i a p k off hl hE j => by
    induction j with
    | zero => intro _; rfl
    | succ j ih =>
      intro hj
      rw [← ih (by omega)]
      obtain ⟨o, g1, _, g3⟩ := hT.step j (Nat.zero_le _) (by omega)
      rcases g3 with ⟨_, g4⟩ | ⟨_, _, g4⟩
      · rcases hops j o g1 with hc | ⟨b, x, hs, hkb, hkx⟩
        · simp only [calmS, Bool.and_eq_true, Bool.not_eq_true', Option.isNone_iff_eq_none] at hc
          rw [(opA_calm hc.1 hc.2.2 hc.2.1 g4).1]
        · rcases hA i a hl j o b x g1 hs with ⟨xs, h1⟩ | ⟨p', k', off', q, k2, off2, h1, h2, h3⟩
          · rw [hE] at h1; cases h1
          · rw [hE] at h1
            cases h1
            refine store_at hs ((hT.kept0 hkb (by omega)).trans h2) ?_ h3 g4
            cases x with
            | tmp v =>
              simp only [keptX, Bool.and_eq_true] at hkx
              simp only [ev]
              rw [hT.kept0 hkx.1 (by omega)]
              exact hV j o b v g1 hs
            | const v => exact ofV_tree v
            | _ => cases hkx
      · rw [g4]
  refine ⟨fun i o ho hI => ?_, fun i o p ho hf => ?_⟩
  · intro v s' h
    simp only [looseIS, Bool.or_eq_true] at hI
    rcases hI with hI | hI
    · simp only [inertI, ho] at hI
      exact ⟨(opA_inert hI h).1, fun s2 _ => (opA_inert hI h).2 s2⟩
    · obtain ⟨a, ha⟩ := Option.isSome_iff_exists.1 hI
      have ha0 := ha
      unfold looseS at ha
      rw [ho] at ha
      dsimp only at ha
      cases hr : readerS o with
      | none => rw [hr] at ha; cases ha
      | some b =>
        rw [hr] at ha
        dsimp only at ha
        rw [Option.ite_none_right_eq_some] at ha
        obtain ⟨hc, ha⟩ := ha
        cases ha
        simp only [Bool.and_eq_true] at hc
        have hE := hT.kept0 hc.1 (Nat.le_of_lt (hsz ho))
        have hP : ∀ p k off, E i a = .ptr p k off → ∀ s2 : St, (∀ p, (∀ j, j ≤ ops.size → Sg j p = Sg 0 p) → s2 p = Sg 0 p) → s2 p = Sg i p := fun p k off he s2 hs2 => by
          have h1 := hPr i a p k off ha0 (by rw [← hE]; exact he)
          rw [hs2 p h1, h1 i (Nat.le_of_lt (hsz ho))]
        unfold readerS at hr
        split at hr
        · rename_i t a' hg hop
          cases hr
          unfold opA at h ⊢
          simp only [hop, ev] at h ⊢
          obtain ⟨y, hy, e⟩ := map_some h
          cases e
          refine ⟨rfl, fun s2 hs2 => ?_⟩
          cases hv : E i a with
          | rptr xs => rw [hv] at hy; simp only [loadA] at hy ⊢; rw [hy]; rfl
          | ptr p k off => rw [hv] at hy; simp only [loadA] at hy ⊢; rw [hP p k off hv s2 hs2, hy]; rfl
          | _ => rw [hv] at hy; cases hy
        · rename_i t a' k0 hg hop
          cases hr
          unfold opA at h ⊢
          simp only [hop, ev] at h ⊢
          obtain ⟨y, hy, e⟩ := map_some h
          cases e
          refine ⟨rfl, fun s2 hs2 => ?_⟩
          have key : fieldAddrA P t s2 (E i a) k0 = fieldAddrA P t (Sg i) (E i a) k0 := by
            unfold fieldAddrA
            cases fieldOf P t k0 with
            | none => rfl
            | some z =>
              obtain ⟨ft, o'⟩ := z
              dsimp only
              cases esz P ft with
              | none => rfl
              | some _ =>
                cases hv : E i a with
                | ptr p k off =>
                  have := hP p k off hv s2 hs2
                  have e : live s2 p k = live (Sg i) p k := by unfold live cellsAt; rw [this]
                  dsimp only
                  rw [e]
                | _ => rfl
          rw [key, hy]; rfl
        · rename_i a' hg hop
          cases hr
          unfold opA at h ⊢
          simp only [hop, ev] at h ⊢
          cases hv : E i a with
          | rptr xs => rw [hv] at h; simp only [Option.some.injEq, Prod.mk.injEq] at h ⊢; exact ⟨h.2.symm, fun s2 _ => ⟨h.1, trivial⟩⟩
          | ptr p k off =>
            rw [hv] at h
            dsimp only at h ⊢
            split at h
            · rename_i hl
              cases h
              refine ⟨rfl, fun s2 hs2 => ?_⟩
              have := hP p k off hv s2 hs2
              have hl2 : live s2 p k = true := by
                have e : live s2 p k = live (Sg i) p k := by unfold live cellsAt; rw [this]
                rw [e]; exact hl
              rw [if_pos hl2]
            · cases h
          | _ => rw [hv] at h; cases h
        · cases hr
  · cases hl : looseIS ops i with
    | false => rfl
    | true =>
      exfalso
      simp only [looseIS, Bool.or_eq_true] at hl
      rcases hl with hI | hI
      · simp only [inertI, ho] at hI
        rw [fresh_noisy hf] at hI; cases hI
      · obtain ⟨a, ha⟩ := Option.isSome_iff_exists.1 hI
        unfold looseS at ha
        rw [ho] at ha
        dsimp only at ha
        cases hr : readerS o with
        | none => rw [hr] at ha; cases ha
        | some b =>
          unfold readerS at hr
          unfold freshD at hf
          split at hr
          · rename_i hg ho'; rw [hg, ho'] at hf; cases hf
          · rename_i hg ho'; rw [hg, ho'] at hf; cases hf
          · rename_i hg ho'; rw [hg, ho'] at hf; cases hf
          · cases hr
theorem checksS_ok {ops : Array Oper} {env : Env} (hok : okStores cfg.keep ops = true) (h : ∀ t ∈ checksS ops, gotoOk env t = true) :
    (∀ i a, looseS ops i = some a → ∀ (j : Nat) (o : Oper) b x, ops[j]? = some o → storeS o = some (b, x) → (∃ xs, env a = .rptr xs) ∨ ∃ p k off q k' off', env a = .ptr p k off ∧ env b = .ptr q k' off' ∧ p ≠ q)
    ∧ (∀ (j : Nat) (o : Oper) b v, ops[j]? = some o → storeS o = some (b, .tmp v) → isTree (env v) = true) := by
  have hsz : ∀ {i o}, ops[i]? = some o → i < ops.size := fun {i o} ho => by
    rcases Nat.lt_or_ge i ops.size with h | h
    · exact h
    · rw [Array.getElem?_eq_none h] at ho; cases ho
  have hmem : ∀ (j : Nat) (o : Oper) y, ops[j]? = some o → storeS o = some y → y ∈ storesS ops := fun j o y ho hs => by
    refine List.mem_filterMap.2 ⟨o, ?_, hs⟩
    exact List.mem_of_getElem? (i := j) (by simpa using ho)
  refine ⟨fun i a hl j o b x ho hs => ?_, fun j o b v ho hs => ?_⟩
  · have hi : i < ops.size := by
      rcases Nat.lt_or_ge i ops.size with h | h
      · exact h
      · unfold looseS at hl; rw [Array.getElem?_eq_none h] at hl; cases hl
    have ha : a < 1048575 := by
      unfold looseS at hl
      rw [Array.getElem?_eq_getElem hi] at hl
      dsimp only at hl
      cases hr : readerS ops[i] with
      | none => rw [hr] at hl; cases hl
      | some a' =>
        rw [hr] at hl
        dsimp only at hl
        rw [Option.ite_none_right_eq_some] at hl
        obtain ⟨hc, e⟩ := hl
        cases e
        simp only [Bool.and_eq_true, decide_eq_true_eq] at hc
        exact hc.2
    have hb : b < 1048576 := by
      have h1 := List.all_eq_true.1 hok j (List.mem_range.2 (hsz ho))
      rw [ho] at h1
      simp only [Bool.or_eq_true] at h1
      rcases h1 with h1 | h1
      · exfalso
        unfold storeS at hs
        split at hs
        · rename_i hop
          simp [calmS, loudA, hop] at h1
        · cases hs
      · rw [hs] at h1
        simp only [Bool.and_eq_true, decide_eq_true_eq] at h1
        exact h1.2.2
    have h2 := h ((a + 1) * 1048576 + b) (List.mem_append.2 (.inl (List.mem_flatMap.2 ⟨a, List.mem_filterMap.2 ⟨i, List.mem_range.2 hi, hl⟩, List.mem_map.2 ⟨(b, x), hmem j o _ ho hs, rfl⟩⟩)))
    unfold gotoOk at h2
    obtain ⟨a0, ea⟩ : ∃ a0 : Nat, a = a0 := ⟨a, rfl⟩
    obtain ⟨b0, eb⟩ : ∃ b0 : Nat, b = b0 := ⟨b, rfl⟩
    rw [ea] at ha h2 ⊢
    rw [eb] at hb h2 ⊢
    have ha : @LT.lt Nat _ a0 1048575 := ha
    have hb : @LT.lt Nat _ b0 1048576 := hb
    have e1 : ((a0 + 1) * 1048576 + b0) / 1048576 - 1 = a0 := by omega
    have e2 : ((a0 + 1) * 1048576 + b0) % 1048576 = b0 := by omega
    rw [if_neg (by omega), if_pos (by omega), e1, e2] at h2
    split at h2
    · rename_i xs hv; exact .inl ⟨_, by assumption⟩
    · rename_i p k off q k' off' h3 h4
      refine .inr ⟨p, k, off, q, k', off', h3, h4, ?_⟩
      simpa using h2
    · cases h2
  · have h2 := h (v + 1099511627776) (List.mem_append.2 (.inr (List.mem_filterMap.2 ⟨(b, .tmp v), hmem j o _ ho hs, rfl⟩)))
    unfold gotoOk at h2
    have hv2 : v < 1048576 := by
      have h1 := List.all_eq_true.1 hok j (List.mem_range.2 (hsz ho))
      rw [ho] at h1
      simp only [Bool.or_eq_true] at h1
      rcases h1 with h1 | h1
      · exfalso
        unfold storeS at hs
        split at hs
        · rename_i hop
          simp [calmS, loudA, hop] at h1
        · cases hs
      · rw [hs] at h1
        simp only [keptX, Bool.and_eq_true, decide_eq_true_eq] at h1
        exact h1.2.1.2
    obtain ⟨v0, ev⟩ : ∃ v0 : Nat, v = v0 := ⟨v, rfl⟩
    rw [ev] at h2 hv2 ⊢
    have hv2 : @LT.lt Nat _ v0 1048576 := hv2
    rw [if_neg (by omega), if_neg (by omega), if_pos (by omega)] at h2
    simpa using h2
theorem waits_lt {ops : Array Oper} (hb : ∀ i o, ops[i]? = some o → ∀ e ∈ o.after, Region.binds .any e = true → e.on < i) : ∀ (f i k : Nat), waitsFor ops f i k = true → k < i
  | 0, _, _, h => by simp [waitsFor] at h
  | f + 1, i, k, h => by
    cases ho : ops[i]? with
    | none => simp [waitsFor, ho] at h
    | some o =>
      simp only [waitsFor, ho, Bool.or_eq_true, List.any_eq_true, Bool.and_eq_true, beq_iff_eq] at h
      rcases h with ⟨e, he, hbd, rfl⟩ | ⟨e, he, hbd, hw⟩
      · exact hb i o ho e (Array.mem_def.2 he) hbd
      · have h1 := hb i o ho e (Array.mem_def.2 he) hbd
        have h2 := waits_lt hb f e.on k hw
        omega
theorem noH_ofV (p : Nat) (v : Value) : noH p (ofV v) = true := by
  unfold ofV
  split
  · split <;> rfl
  · unfold ofV1
    split <;> rfl
theorem read_still {ops : Array Oper} {r : Nat → AV} {E : Nat → Env} {Sg : Nat → St} {mm : Nat} (hT : Trace P cfg call true ops 0 ops.size r E Sg) (hD : DrawOk cfg.keep ops (looseIS ops) mm) (hok : okRd cfg.keep ops = true)
    (hC : ∀ t ∈ checksR cfg.keep ops, gotoOk (E ops.size) t = true) : StillOk (P := P) (cfg := cfg) (call := call) cfg.keep ops E Sg (looseIS ops) := by
  have hsz : ∀ {i o}, ops[i]? = some o → i < ops.size := fun {i o} ho => by
    rcases Nat.lt_or_ge i ops.size with h | h
    · exact h
    · rw [Array.getElem?_eq_none h] at ho; cases ho
  -- what a reader's address tells of is turned by nothing but what waits for it
  have hPr : ∀ i a p k off, looseS ops i = some a → E ops.size a = .ptr p k off → ∀ j, j < ops.size → Sg (j + 1) p = Sg j p ∨ waitsFor ops ops.size j i = true := fun i a p k off hl hE j hj => by
    have hi : i < ops.size := by
      rcases Nat.lt_or_ge i ops.size with h | h
      · exact h
      · unfold looseS at hl; rw [Array.getElem?_eq_none h] at hl; cases hl
    have ha : a < 1048575 := by
      unfold looseS at hl
      rw [Array.getElem?_eq_getElem hi] at hl
      dsimp only at hl
      cases hr : readerS ops[i] with
      | none => rw [hr] at hl; cases hl
      | some a' =>
        rw [hr] at hl
        dsimp only at hl
        rw [Option.ite_none_right_eq_some] at hl
        obtain ⟨hc, e⟩ := hl
        cases e
        simp only [Bool.and_eq_true, decide_eq_true_eq] at hc
        exact hc.2
    obtain ⟨o, g1, _, g3⟩ := hT.step j (Nat.zero_le _) hj
    rcases g3 with ⟨_, g4⟩ | ⟨_, _, g4⟩
    · by_cases hcw : (calmS cfg.keep o || waitsFor ops ops.size j i) = true
      · rw [Bool.or_eq_true] at hcw
        rcases hcw with hc | hw
        · simp only [calmS, Bool.and_eq_true, Bool.not_eq_true', Option.isNone_iff_eq_none] at hc
          exact .inl (by rw [(opA_calm hc.1 hc.2.2 hc.2.1 g4).1])
        · exact .inr hw
      · left
        have hmem : ∀ t, t ∈ (((tmpsOf o.op.operands).map fun b => 1152921504606846976 + (a * 1048576 + b)) ++ (match o.dst with | some d => [2305843009213693952 + (a * 1048576 + d)] | none => [2305843009213693952 + (a * 1048576 + 0)])) → gotoOk (E ops.size) t = true := fun t ht => hC t (by
          unfold checksR
          refine List.mem_flatMap.2 ⟨i, List.mem_range.2 hi, ?_⟩
          rw [hl]
          refine List.mem_flatMap.2 ⟨j, List.mem_range.2 hj, ?_⟩
          rw [g1]
          dsimp only
          rw [if_neg hcw]
          exact ht)
        have hkeep := List.all_eq_true.1 hok j (List.mem_range.2 hj)
        rw [g1] at hkeep
        have hncalm : calmS cfg.keep o = false := by
          cases h : calmS cfg.keep o with
          | false => rfl
          | true => rw [h] at hcw; exact absurd rfl hcw
        simp only [hncalm, Bool.false_or, Bool.and_eq_true, List.all_eq_true, decide_eq_true_eq] at hkeep
        obtain ⟨hk1, hk2⟩ := hkeep
        obtain ⟨a0, ea⟩ : ∃ a0 : Nat, a = a0 := ⟨a, rfl⟩
        rw [ea] at ha hmem hE
        have ha : @LT.lt Nat _ a0 1048575 := ha
        have hdst : p ≠ o.dst.getD 0 := by
          obtain ⟨d0, ed, hd0, hin⟩ : ∃ d0 : Nat, o.dst.getD 0 = d0 ∧ d0 < 1048576 ∧ (2305843009213693952 + (a0 * 1048576 + d0)) ∈ (match o.dst with | some d => [2305843009213693952 + (a0 * 1048576 + d)] | none => [2305843009213693952 + (a0 * 1048576 + 0)]) := by
            cases hd : o.dst with
            | none => exact ⟨0, rfl, by decide, by simp⟩
            | some d => rw [hd] at hk2; exact ⟨d, rfl, by simpa using hk2, by simp⟩
          have h1 := hmem _ (List.mem_append.2 (.inr hin))
          rw [ed]
          unfold gotoOk at h1
          have e1 : (2305843009213693952 + (a0 * 1048576 + d0) - 2305843009213693952) / 1048576 = a0 := by omega
          have e2 : (2305843009213693952 + (a0 * 1048576 + d0) - 2305843009213693952) % 1048576 = d0 := by omega
          rw [if_neg (by omega), if_neg (by omega), if_neg (by omega), if_neg (by omega), e1, e2, hE] at h1
          simpa using h1
        refine opA_frame g4 hdst fun x hx => ?_
        cases x with
        | tmp b =>
          have hb : b ∈ tmpsOf o.op.operands := by
            simp only [tmpsOf, List.mem_filterMap]
            exact ⟨.tmp b, Array.mem_def.1 hx, rfl⟩
          obtain ⟨hkb, hb2⟩ := hk1 b hb
          have h1 := hmem (1152921504606846976 + (a0 * 1048576 + b)) (List.mem_append.2 (.inl (List.mem_map.2 ⟨b, hb, rfl⟩)))
          show noH p (E j b) = true
          rw [hT.kept0 hkb (by omega)]
          obtain ⟨b0, eb⟩ : ∃ b0 : Nat, b = b0 := ⟨b, rfl⟩
          rw [eb] at hb2 h1 ⊢
          have hb2 : @LT.lt Nat _ b0 1048576 := hb2
          unfold gotoOk at h1
          have e1 : (1152921504606846976 + (a0 * 1048576 + b0) - 1152921504606846976) / 1048576 = a0 := by omega
          have e2 : (1152921504606846976 + (a0 * 1048576 + b0) - 1152921504606846976) % 1048576 = b0 := by omega
          rw [if_neg (by omega), if_neg (by omega), if_neg (by omega), if_pos (by omega), e1, e2, hE] at h1
          exact h1
        | const v => exact noH_ofV p v
        | global g => rfl
        | func f => rfl
    · exact .inl (by rw [g4])
  refine ⟨fun i o ho hI => ?_, fun i o p ho hf => ?_⟩
  · intro v s' h
    simp only [looseIS, Bool.or_eq_true] at hI
    rcases hI with hI | hI
    · simp only [inertI, ho] at hI
      exact ⟨(opA_inert hI h).1, fun s2 _ => (opA_inert hI h).2 s2⟩
    · obtain ⟨a, ha⟩ := Option.isSome_iff_exists.1 hI
      have ha0 := ha
      unfold looseS at ha
      rw [ho] at ha
      dsimp only at ha
      cases hr : readerS o with
      | none => rw [hr] at ha; cases ha
      | some b =>
        rw [hr] at ha
        dsimp only at ha
        rw [Option.ite_none_right_eq_some] at ha
        obtain ⟨hc, ha⟩ := ha
        cases ha
        simp only [Bool.and_eq_true] at hc
        have hE := hT.kept0 hc.1 (Nat.le_of_lt (hsz ho))
        have hP : ∀ p k off, E i a = .ptr p k off → ∀ s2 : St, (∀ p, (∀ k, k < ops.size → Sg (k + 1) p = Sg k p ∨ waitsFor ops ops.size k i = true) → s2 p = Sg 0 p) → s2 p = Sg i p := fun p k off he s2 hs2 => by
          have h1 := hPr i a p k off ha0 (by rw [← hE]; exact he)
          rw [hs2 p h1]
          have key : ∀ j, j ≤ i → Sg j p = Sg 0 p := by
            intro j
            induction j with
            | zero => intro _; rfl
            | succ j ihj =>
              intro hj
              rw [← ihj (by omega)]
              refine (h1 j (by have := hsz ho; omega)).resolve_right fun hw => ?_
              have := waits_lt hD.back ops.size j i hw
              omega
          exact (key i (Nat.le_refl _)).symm
        unfold readerS at hr
        split at hr
        · rename_i t a' hg hop
          cases hr
          unfold opA at h ⊢
          simp only [hop, ev] at h ⊢
          obtain ⟨y, hy, e⟩ := map_some h
          cases e
          refine ⟨rfl, fun s2 hs2 => ?_⟩
          cases hv : E i a with
          | rptr xs => rw [hv] at hy; simp only [loadA] at hy ⊢; rw [hy]; rfl
          | ptr p k off => rw [hv] at hy; simp only [loadA] at hy ⊢; rw [hP p k off hv s2 hs2, hy]; rfl
          | _ => rw [hv] at hy; cases hy
        · rename_i t a' k0 hg hop
          cases hr
          unfold opA at h ⊢
          simp only [hop, ev] at h ⊢
          obtain ⟨y, hy, e⟩ := map_some h
          cases e
          refine ⟨rfl, fun s2 hs2 => ?_⟩
          have key : fieldAddrA P t s2 (E i a) k0 = fieldAddrA P t (Sg i) (E i a) k0 := by
            unfold fieldAddrA
            cases fieldOf P t k0 with
            | none => rfl
            | some z =>
              obtain ⟨ft, o'⟩ := z
              dsimp only
              cases esz P ft with
              | none => rfl
              | some _ =>
                cases hv : E i a with
                | ptr p k off =>
                  have := hP p k off hv s2 hs2
                  have e : live s2 p k = live (Sg i) p k := by unfold live cellsAt; rw [this]
                  dsimp only
                  rw [e]
                | _ => rfl
          rw [key, hy]; rfl
        · rename_i a' hg hop
          cases hr
          unfold opA at h ⊢
          simp only [hop, ev] at h ⊢
          cases hv : E i a with
          | rptr xs => rw [hv] at h; simp only [Option.some.injEq, Prod.mk.injEq] at h ⊢; exact ⟨h.2.symm, fun s2 _ => ⟨h.1, trivial⟩⟩
          | ptr p k off =>
            rw [hv] at h
            dsimp only at h ⊢
            split at h
            · rename_i hl
              cases h
              refine ⟨rfl, fun s2 hs2 => ?_⟩
              have := hP p k off hv s2 hs2
              have hl2 : live s2 p k = true := by
                have e : live s2 p k = live (Sg i) p k := by unfold live cellsAt; rw [this]
                rw [e]; exact hl
              rw [if_pos hl2]
            · cases h
          | _ => rw [hv] at h; cases h
        · cases hr
  · cases hl : looseIS ops i with
    | false => rfl
    | true =>
      exfalso
      simp only [looseIS, Bool.or_eq_true] at hl
      rcases hl with hI | hI
      · simp only [inertI, ho] at hI
        rw [fresh_noisy hf] at hI; cases hI
      · obtain ⟨a, ha⟩ := Option.isSome_iff_exists.1 hI
        unfold looseS at ha
        rw [ho] at ha
        dsimp only at ha
        cases hr : readerS o with
        | none => rw [hr] at ha; cases ha
        | some b =>
          unfold readerS at hr
          unfold freshD at hf
          split at hr
          · rename_i hg ho'; rw [hg, ho'] at hf; cases hf
          · rename_i hg ho'; rw [hg, ho'] at hf; cases hf
          · rename_i hg ho'; rw [hg, ho'] at hf; cases hf
          · cases hr
theorem region_ok (hcall : FnOk P call) (hm : P.follows .mixedOrders = true) {id : Nat} {ops : Array Oper} {draw : Bool} {m : Nat} (hd1 : ∀ o ∈ ops.toList, ∀ d, o.dst = some d → d < m) {env env' : Env} {s' : St} {Γ : G} {a : Act} {Q : Exit → Act → World → Prop}
    (hd2 : draw = true → drawOk cfg.keep ops = true ∨ (drawOkL cfg.keep ops = true ∧ ∀ i a, looseA cfg.keep ops i = some a → isTree (env' a) = true) ∨ (drawOkS cfg.keep ops = true ∧ ∀ t ∈ checksS ops, gotoOk env' t = true) ∨ (drawOkR cfg.keep ops = true ∧ ∀ t ∈ checksR cfg.keep ops, gotoOk env' t = true))
    (h : opsA P cfg call draw ops ops.toList env (killI cfg.keep draw ops.toList Γ.s) = some (env', s')) (hI : Inv Γ) (he : EnvOk Γ env a m)
    (hQ : ∀ Γ' a', Γ'.s = s' → Inv Γ' → Ext Γ Γ' → EnvOk Γ' env' a' m → Q .normal a' Γ'.w) : (Code.region id ops draw).wp P Q a Γ.w := by
  cases draw with
  | false => exact wp_region_list (opsA_ok hcall ops.toList env Γ a env' s' hd1 h hI he hQ)
  | true =>
    obtain ⟨r, E, Sg, h1, h2, h3, h4, hT⟩ := trace_of ops.toList 0 env (killF cfg.keep ops.toList Γ.s) env' s' (by simp) h
    simp only [Nat.zero_add, Array.length_toList] at h3 h4 hT
    have hdr : ∃ I, DrawOk cfg.keep ops I (ops.toList.findIdx (loudB cfg.keep)) ∧ StillOk (P := P) (cfg := cfg) (call := call) cfg.keep ops E Sg I := by
      rcases hd2 rfl with h | ⟨h, h'⟩ | ⟨h, h'⟩ | ⟨h, h'⟩
      · exact ⟨_, drawOkI_iff h, inert_still.ok Sg⟩
      · rw [drawOkL, Bool.and_eq_true] at h
        exact ⟨_, drawOkI_iff h.1, (loose_still hT (by rw [h3]; exact h')).ok Sg⟩
      · rw [drawOkS, Bool.and_eq_true] at h
        obtain ⟨k1, k2⟩ := checksS_ok h.1 h'
        rw [← h3] at k1 k2
        exact ⟨_, drawOkI_iff h.2, (store_still hT h.1 k1 k2).ok⟩
      · rw [drawOkR, Bool.and_eq_true] at h
        rw [← h3] at h'
        exact ⟨_, drawOkI_iff h.2, read_still hT (drawOkI_iff h.2) h.1 h'⟩
    obtain ⟨I, hdr, hS⟩ := hdr
    obtain ⟨hIk, hEk⟩ := killF_ok cfg.keep ops.toList Γ hI
    obtain ⟨hI2, hE2'⟩ := hIk.drew
    have hE2 := hEk.trans hE2'
    refine wp_region_any hm ?_
    refine draw_ok hcall hdr hd1 hT hS (fun i o p ho hf => by rw [h2]; exact killF_dead cfg.keep ops.toList Γ.s o p (List.mem_of_getElem? (i := i) (by simpa using ho)) hf) (Γ0 := { Γ with s := killF cfg.keep ops.toList Γ.s, w := Γ.w.drew }) (fun Γ' a' g1 g2 g3 g4 => hQ Γ' a' (by rw [g1, h4]) g2 (hE2.trans g3) (by rw [← h3]; exact g4)) ops.size (Array.replicate ops.size false) { Γ with s := killF cfg.keep ops.toList Γ.s, w := Γ.w.drew } a (by simp) ?_ hI2 (.refl _) ?_ ⟨he.defers, he.size, fun t y hy => ?_⟩ (.inl ⟨fun i o _ _ hi => ?_, ⟨fun p _ => by rw [h2], fun i o p _ _ _ => by rw [if_neg (by intro hi; by_cases hio : i < ops.size <;> simp [hio] at hi), h2]⟩⟩)
    · unfold left
      exact Nat.le_trans List.countP_le_length (by simp)
    · intro i o hi
      by_cases hio : i < ops.size <;> simp [hio] at hi
    · rcases hy with ⟨i, hi, _⟩ | ⟨_, hy⟩
      · by_cases hio : i < ops.size <;> simp [hio] at hi
      · rw [hy, h1]; exact V.ext hE2 (he.val t)
    · by_cases hio : i < ops.size <;> simp [hio] at hi
theorem checks_den {n : Nat} {out : Out} {K : Kont} {env : Env} {s : St} : ∀ (l : List Tmp), den P cfg call n (l.foldr (fun t c => .seq (.goto t) c) .skip) K env s = some out → K .normal env s = some out ∧ ∀ a ∈ l, gotoOk env a = true
  | [], h => ⟨h, fun a ha => by cases ha⟩
  | t :: l, h => by
    simp only [List.foldr_cons, den] at h
    split at h
    · rename_i hg
      obtain ⟨h1, h2⟩ := checks_den l h
      refine ⟨h1, fun a ha => ?_⟩
      rcases List.mem_cons.1 ha with rfl | ha
      · exact hg
      · exact h2 a ha
    · cases h

theorem den_ok (hcall : FnOk P call) (hm : P.follows .mixedOrders = true) {n m : Nat} {out : Out} : ∀ (c : Code) (K : Kont) (env : Env) (Γ : G) (a : Act) (Q : Exit → Act → World → Prop), dstOkP cfg.keep m (prune cfg.keep c) = true → den P cfg call n (prune cfg.keep c) K env Γ.s = some out → Inv Γ → EnvOk Γ env a m →
    (∀ ex env' Γ' a', K ex env' Γ'.s = some out → Inv Γ' → Ext Γ Γ' → EnvOk Γ' env' a' m → Q (exOf ex) a' Γ'.w) → c.wp P Q a Γ.w := by
  intro c
  induction c with
  | skip => intro K env Γ a Q _ h hI he hQ; exact wp_skip (hQ .normal env Γ a h hI (.refl _) he)
  | label l => intro K env Γ a Q _ h hI he hQ; exact wp_label (hQ .normal env Γ a h hI (.refl _) he)
  | exit id => intro K env Γ a Q _ h hI he hQ; exact wp_exit (hQ (.exit id) env Γ a h hI (.refl _) he)
  | ret => intro K env Γ a Q _ h hI he hQ; exact wp_ret (hQ .ret env Γ a h hI (.refl _) he)
  | region id ops draw =>
    intro K env Γ a Q hd h hI he hQ
    have hd1 : ∀ (h : (ops.toList.all fun o => match o.dst with | some d => decide (d < m) | none => true) = true), ∀ o ∈ ops.toList, ∀ d, o.dst = some d → d < m := fun h o ho d hdd => by
      have := List.all_eq_true.1 h o ho
      rw [hdd] at this
      simpa using this
    cases draw with
    | false =>
      simp only [prune, den, Option.bind_eq_some_iff] at h
      simp only [prune, dstOkP, Bool.and_eq_true] at hd
      obtain ⟨⟨env', s'⟩, h1, h2⟩ := h
      refine region_ok hcall hm (hd1 hd.1) (fun h => by cases h) h1 hI he fun Γ' a' g1 g2 g3 g4 => hQ .normal env' Γ' a' ?_ g2 g3 g4
      rw [g1]; exact h2
    | true =>
      by_cases hk : drawOk cfg.keep ops = true
      · simp only [prune, hk, if_true] at h hd
        simp only [den, Option.bind_eq_some_iff] at h
        simp only [dstOkP, Bool.and_eq_true] at hd
        obtain ⟨⟨env', s'⟩, h1, h2⟩ := h
        refine region_ok hcall hm (hd1 hd.1) (fun _ => .inl hk) h1 hI he fun Γ' a' g1 g2 g3 g4 => hQ .normal env' Γ' a' ?_ g2 g3 g4
        rw [g1]; exact h2
      · by_cases hkR : markR cfg.keep ops = true
        · simp only [prune, if_neg hk, if_pos hkR] at h hd
          have hd' : dstOkP cfg.keep m (.region id ops true) = true := by
            rw [dstOkP, Bool.and_eq_true] at hd; exact hd.1
          rw [den] at h
          simp only [den, Option.bind_eq_some_iff] at h
          simp only [dstOkP, Bool.and_eq_true] at hd'
          obtain ⟨⟨env', s'⟩, h1, h2⟩ := h
          dsimp only at h2
          obtain ⟨h3, h4⟩ := checks_den _ h2
          have hkR2 : drawOkR cfg.keep ops = true := by
            unfold markR at hkR
            rw [Bool.and_eq_true] at hkR; exact hkR.2
          refine region_ok hcall hm (hd1 hd'.1) (fun _ => .inr (.inr (.inr ⟨hkR2, h4⟩))) h1 hI he fun Γ' a' g1 g2 g3 g4 => hQ .normal env' Γ' a' ?_ g2 g3 g4
          rw [g1]; exact h3
        by_cases hk2 : drawOkL cfg.keep ops = true
        · simp only [prune, if_neg hk, if_neg hkR, if_pos hk2] at h hd
          have hd' : dstOkP cfg.keep m (.region id ops true) = true := by
            rw [dstOkP, Bool.and_eq_true] at hd; exact hd.1
          rw [den] at h
          simp only [den, Option.bind_eq_some_iff] at h
          simp only [dstOkP, Bool.and_eq_true] at hd'
          obtain ⟨⟨env', s'⟩, h1, h2⟩ := h
          dsimp only at h2
          obtain ⟨h3, h4⟩ := checks_den _ h2
          refine region_ok hcall hm (hd1 hd'.1) (fun _ => .inr (.inl ⟨hk2, fun i a ha => ?_⟩)) h1 hI he fun Γ' a' g1 g2 g3 g4 => hQ .normal env' Γ' a' ?_ g2 g3 g4
          · have hi : i < ops.size := by
              rcases Nat.lt_or_ge i ops.size with h | h
              · exact h
              · unfold looseA at ha; rw [Array.getElem?_eq_none h] at ha; cases ha
            have hg := h4 a (List.mem_filterMap.2 ⟨i, List.mem_range.2 hi, ha⟩)
            have hb : a < 1048576 := by
              have hk2' := hk2
              rw [drawOkL, Bool.and_eq_true] at hk2'
              have := List.all_eq_true.1 hk2'.2 i (List.mem_range.2 hi)
              rw [ha] at this
              simpa using this
            unfold gotoOk at hg
            rw [if_pos hb] at hg
            exact hg
          · rw [g1]; exact h3
        · by_cases hk3 : drawOkS cfg.keep ops = true
          · simp only [prune, if_neg hk, if_neg hkR, if_neg hk2, if_pos hk3] at h hd
            have hd' : dstOkP cfg.keep m (.region id ops true) = true := by
              rw [dstOkP, Bool.and_eq_true] at hd; exact hd.1
            rw [den] at h
            simp only [den, Option.bind_eq_some_iff] at h
            simp only [dstOkP, Bool.and_eq_true] at hd'
            obtain ⟨⟨env', s'⟩, h1, h2⟩ := h
            dsimp only at h2
            obtain ⟨h3, h4⟩ := checks_den _ h2
            refine region_ok hcall hm (hd1 hd'.1) (fun _ => .inr (.inr (.inl ⟨hk3, h4⟩))) h1 hI he fun Γ' a' g1 g2 g3 g4 => hQ .normal env' Γ' a' ?_ g2 g3 g4
            rw [g1]; exact h3
          · simp only [prune, if_neg hk, if_neg hkR, if_neg hk2, if_neg hk3] at h; simp [den] at h
  | seq x y ihx ihy =>
    intro K env Γ a Q hd h hI he hQ
    simp only [prune, dstOkP, Bool.and_eq_true] at hd
    simp only [prune, den] at h
    refine wp_seq (ihx _ env Γ a _ hd.1 h hI he fun ex env' Γ' a' g1 g2 g3 g4 => ?_)
    cases ex with
    | normal => exact ihy K env' Γ' a' Q hd.2 g1 g2 g4 fun ex2 env2 Γ2 a2 k1 k2 k3 k4 => hQ ex2 env2 Γ2 a2 k1 k2 (g3.trans k3) k4
    | exit id => exact hQ (.exit id) env' Γ' a' g1 g2 g3 g4
    | ret => exact hQ .ret env' Γ' a' g1 g2 g3 g4
  | cond c x y ihx ihy =>
    intro K env Γ a Q hd h hI he hQ
    simp only [prune, dstOkP, Bool.and_eq_true] at hd
    simp only [prune, den] at h
    have hV := V_ev he.val c
    split at h
    · rename_i hc
      rw [hc, V_bool] at hV
      exact wp_cond_true hV (ihx K env Γ a Q hd.1 h hI he hQ)
    · rename_i hc
      rw [hc, V_bool] at hV
      exact wp_cond_false hV (ihy K env Γ a Q hd.2 h hI he hQ)
    · cases h
  | block id x ih =>
    intro K env Γ a Q hd h hI he hQ
    simp only [prune, dstOkP] at hd
    simp only [prune, den] at h
    refine wp_block (ih _ env Γ a _ hd h hI he fun ex env' Γ' a' g1 g2 g3 g4 => ?_)
    cases ex with
    | normal => exact hQ .normal env' Γ' a' g1 g2 g3 g4
    | exit i =>
      simp only [exOf, Exit.inBlock]
      dsimp only at g1
      split at g1
      · rename_i hi; rw [if_pos hi]; exact hQ .normal env' Γ' a' g1 g2 g3 g4
      · rename_i hi; rw [if_neg hi]; exact hQ (.exit i) env' Γ' a' g1 g2 g3 g4
    | ret => exact hQ .ret env' Γ' a' g1 g2 g3 g4
  | loop x ih =>
    intro K env Γ a Q hd h hI he hQ
    simp only [prune, dstOkP] at hd
    simp only [prune, den] at h
    refine wp_loop_rounds n ?_
    have key : ∀ (k : Nat) (env : Env) (Γ1 : G) (a : Act), loopA (den P cfg call n (prune cfg.keep x)) K k env Γ1.s = some out → Inv Γ1 → Ext Γ Γ1 → EnvOk Γ1 env a m → Code.rounds P x Q k a Γ1.w := by
      intro k
      induction k with
      | zero => intro env Γ1 a h _ _ _; simp [loopA] at h
      | succ k ihk =>
        intro env Γ1 a h hI1 hE1 he1
        simp only [loopA] at h
        rw [rounds_succ]
        refine ih _ env Γ1 a _ hd h hI1 he1 fun ex env' Γ' a' g1 g2 g3 g4 => ?_
        cases ex with
        | normal => exact ihk env' Γ' a' g1 g2 (hE1.trans g3) g4
        | exit id => exact hQ (.exit id) env' Γ' a' g1 g2 (hE1.trans g3) g4
        | ret => exact hQ .ret env' Γ' a' g1 g2 (hE1.trans g3) g4
    exact key n env Γ a h hI (.refl _) he
  | scope x ih =>
    intro K env Γ a Q hd h hI he hQ
    simp only [prune, dstOkP] at hd
    simp only [prune, den] at h
    refine wp_scope_straight (ih K env Γ a _ hd h hI he fun ex env' Γ' a' g1 g2 g3 g4 => ?_)
    cases ex with
    | normal => exact hQ .normal env' Γ' a' g1 g2 g3 g4
    | exit id => exact hQ (.exit id) env' Γ' a' g1 g2 g3 g4
    | ret => exact hQ .ret env' Γ' a' g1 g2 g3 g4
  | rangeFunc f ps x y _ _ => intro K env Γ a Q _ h; simp [prune, den] at h
  | goto l => intro K env Γ a Q _ h; simp [prune, den] at h
  | refuse w => intro K env Γ a Q _ h; simp [prune, den] at h

theorem outsA_iff {s : St} : ∀ (as1 : List Arg) (k : Nat) (os : List (List AV)), outsA s k as1 = some os → ∀ (j : Nat) (a : Arg), as1[j]? = some a → a.mut = true → ∃ xs, os[j]? = some xs ∧ s (k + j) = ⟨0, .buf xs⟩
  | [], _, _, _, j, a, h, _ => by simp at h
  | b :: as1, k, os, h, j, a, ha, hm => by
    simp only [outsA, Option.bind_eq_some_iff] at h
    obtain ⟨o, ho, h⟩ := h
    obtain ⟨os', hos, rfl⟩ := map_some h
    cases j with
    | zero =>
      simp at ha; subst ha
      refine ⟨o, rfl, ?_⟩
      cases b <;> simp [Arg.mut] at hm <;> dsimp only at ho
      all_goals
        split at ho
        · rename_i xs hx; cases ho; exact hx
        · cases ho
    | succ j =>
      obtain ⟨xs, h1, h2⟩ := outsA_iff as1 (k + 1) os' hos j a (by simpa using ha) hm
      exact ⟨xs, by simpa using h1, by rw [show k + (j + 1) = k + 1 + j by omega]; exact h2⟩

theorem settleL_ok : ∀ (vs : List AV) (us : List Value) (vs' : List AV) (s' : St) (Γ : G), Inv Γ → settleL Γ.s vs = some (vs', s') → VA Γ vs us → ∃ Γ', Quiet Γ s' Γ' ∧ VT Γ'.S Γ'.w vs' us
  | [], us, vs', s', Γ, hI, h, hv => by
    cases hv
    simp only [settleL, Option.some.injEq, Prod.mk.injEq] at h
    obtain ⟨rfl, rfl⟩ := h
    exact ⟨Γ, ⟨rfl, rfl, hI, .refl _⟩, VT.nil⟩
  | v :: vs, us, vs', s', Γ, hI, h, hv => by
    cases hv with
    | cons h0 hr =>
      simp only [settleL, Option.bind_eq_some_iff] at h
      obtain ⟨⟨v', s1⟩, h1, h⟩ := h
      obtain ⟨⟨vs'', s2⟩, h2, e⟩ := map_some h
      cases e
      obtain ⟨Γ1, ⟨w1, rfl, I1, E1⟩, g1⟩ := settle_ok hI h1 h0
      have hr' : ∀ {xs us}, VA Γ xs us → VA Γ1 xs us := fun h => by
        induction h with
        | nil => exact .nil
        | cons h _ ih => exact .cons (V.ext E1 h) ih
      obtain ⟨Γ2, ⟨w2, e2, I2, E2⟩, g2⟩ := settleL_ok vs _ vs'' s2 Γ1 I1 h2 (hr' hr)
      refine ⟨Γ2, ⟨w2.trans w1, e2, I2, E1.trans E2⟩, ?_⟩
      simp only [VT]
      exact ⟨_, _, rfl, V0.mono E2.stays _ _ g1, g2⟩

theorem finish1_ok {Γ : G} (hI : Inv Γ) {keep : Bool} {as1 : List Arg} {x : AV} {r : Res} {s1 : St} (h : finish1 keep as1.length Γ.s x = some (r, s1)) {v : Value} (hv : V Γ x v) :
    ∃ Γ', Quiet Γ s1 Γ' ∧ ResOk Γ' as1.length v r := by
  have set : ∀ {y : AV}, V Γ y v → (settle Γ.s y).map (fun (v, s) => (Res.tree v, s)) = some (r, s1) → ∃ Γ', Quiet Γ s1 Γ' ∧ ResOk Γ' as1.length v r := fun {y} hy hs => by
    obtain ⟨⟨y', s2⟩, h1, h2⟩ := map_some hs
    cases h2
    obtain ⟨Γ', hq, h0⟩ := settle_ok hI h1 hy
    exact ⟨Γ', hq, h0⟩
  unfold finish1 at h
  split at h
  · rename_i p t
    split at h
    · rename_i t' xs hp
      split at h
      · rename_i hc
        cases h
        obtain ⟨rfl, hnp⟩ := hc
        exact ⟨Γ, ⟨rfl, rfl, hI, .refl _⟩, p, _, hnp, hp, hv⟩
      · cases h
    · cases h
  · rename_i p t len e
    split at h
    · split at h
      · rename_i t' xs hp
        split at h
        · rename_i hc
          cases h
          obtain ⟨rfl, hnp, _⟩ := hc
          exact ⟨Γ, ⟨rfl, rfl, hI, .refl _⟩, p, _, hnp, hp, hv⟩
        · cases h
      · cases h
    · exact set hv h
  · rename_i xs len p t
    split at h
    · split at h
      · rename_i t' e hp
        split at h
        · rename_i hc
          subst hc
          cases h
          exact ⟨Γ, ⟨rfl, rfl, hI, .refl _⟩, p, _, hp, hv⟩
        · cases h
      · cases h
    · cases h
      exact ⟨Γ, ⟨rfl, rfl, hI, .refl _⟩, hv.1⟩
  · exact set hv h

def rvS (tmps : Array Value) : ResultVar → Sem Value
  | .tmp t => pure (tmps.getD t undef)
  | .cell a t => do loadVar t (← asAddr (tmps.getD a undef))
theorem rv_ok {Γ : G} (hI : Inv Γ) {r : ResultVar} {env : Env} {tmps : Array Value} {y : AV} (h : rvA P Γ.s env r = some y) (hv : ∀ t, V Γ (env t) (tmps.getD t undef)) : ∃ u, (rvS tmps r).run P Γ.w = .ok u Γ.w ∧ V Γ y u := by
  cases r with
  | tmp t =>
    cases h
    exact ⟨_, rfl, hv t⟩
  | cell a t =>
    have ha := hv a
    simp only [rvA] at h
    unfold loadA at h
    split at h
    · rename_i xs he
      rw [he] at ha
      obtain ⟨b, o, hvv, hc⟩ := (V_tree rfl).1 ha
      obtain ⟨v, h1, h2⟩ := loadVar_ok (b := b) (o := o) h (.ofVC hc)
      exact ⟨v, by simpa [rvS, hvv, asAddr] using h1, h2⟩
    · rename_i p i off he
      rw [he] at ha
      obtain ⟨hvv, v, h1, h2⟩ := ldC_ok hI h ha
      exact ⟨v, by simpa [rvS, hvv, asAddr] using h1, h2⟩
    · cases h
theorem results_one {fn : Func} {r : ResultVar} (h : fn.results = #[r]) (tmps : Array Value) {u : Value} {w : World} (hr : (rvS tmps r).run P w = .ok u w) : (results fn tmps).run P w = .ok u w := by
  have e : (results fn tmps) = rvS tmps r := by
    cases r <;> simp [results, h, rvS]
  rw [e, hr]
theorem run_results {fn : Func} {tmps : Array Value} {w : World} {f : ResultVar → Option AV} {Γ : G} (hf : ∀ r y, f r = some y → ∃ u, (rvS tmps r).run P w = .ok u w ∧ V Γ y u) : ∀ {vs : List AV}, fn.results.toList.mapM f = some vs → fn.results.size ≠ 1 →
    ∃ us : List Value, (results fn tmps).run P w = .ok (.tuple us.toArray) w ∧ VA Γ vs us := by
  intro vs h hne
  have key : ∀ (l : List ResultVar) (vs : List AV), l.mapM f = some vs →
      ∃ us : List Value, (l.mapM (fun | .tmp t => pure (tmps.getD t undef) | .cell a t => do loadVar t (← asAddr (tmps.getD a undef)) : ResultVar → Sem Value)).run P w = .ok us w ∧ VA Γ vs us := by
    intro l
    induction l with
    | nil => intro vs h; simp at h; subst h; exact ⟨[], rfl, .nil⟩
    | cons x l ih =>
      intro vs h
      rw [List.mapM_cons] at h
      simp only [Option.bind_eq_bind, Option.bind_eq_some_iff] at h
      obtain ⟨y, hy, ys, hys, h⟩ := h
      cases h
      obtain ⟨us, h1, h2⟩ := ih ys hys
      obtain ⟨u, h3, h4⟩ := hf x y hy
      refine ⟨u :: us, ?_, .cons h4 h2⟩
      rw [List.mapM_cons]
      have h3' : ((fun | .tmp t => pure (tmps.getD t undef) | .cell a t => do loadVar t (← asAddr (tmps.getD a undef)) : ResultVar → Sem Value) x).run P w = .ok u w := by
        cases x <;> exact h3
      simp only [Sem.run_bind, Sem.run_pure, h3', Result.andThen_ok, h1]
  obtain ⟨us, h1, h2⟩ := key _ vs h
  refine ⟨us, ?_, h2⟩
  have hlen : us.length = fn.results.size := by
    have h3 := (VA_iff.1 h2).1
    have h4 : vs.length = fn.results.toList.length := by
      have : ∀ (l : List ResultVar) (vs : List AV), l.mapM f = some vs → vs.length = l.length := by
        intro l
        induction l with
        | nil => intro vs h; simp at h; subst h; rfl
        | cons x l ih =>
          intro vs h
          rw [List.mapM_cons] at h
          simp only [Option.bind_eq_bind, Option.bind_eq_some_iff] at h
          obtain ⟨y, hy, ys, hys, h⟩ := h
          cases h
          simp [ih ys hys]
      exact this _ _ h
    rw [← h3, h4]; simp
  unfold results
  rw [Sem.run_bind, Array.mapM_eq_mapM_toList]
  simp only [Sem.run_map]
  erw [h1]
  simp only [Result.andThen_ok]
  have hne2 : ¬ (us.toArray.size = 1) := by simp; omega
  simp only [hne2, dif_neg, not_false_eq_true]
  rfl

theorem evalFn_ok (hm : P.follows .mixedOrders = true) (hp : FnOk P cfg.prim) (n : Nat) : ∀ d, FnOk P (evalFn P cfg n d)
  | 0 => fun f as1 r os h => by simp [evalFn] at h
  | d + 1 => fun f as1 r os h => by
    have ih := evalFn_ok hm hp n d
    simp only [evalFn] at h
    split at h
    · rename_i o ho
      cases h
      exact hp f as1 r os ho
    split at h
    · cases h
    · rename_i fn hf
      split at h
      · cases h
      · rename_i c hb
        split at h
        · rename_i hc
          obtain ⟨hn1, hn2, hn3⟩ := hc
          refine ⟨⟨fn, c, hf, hn1, hb⟩, fun Γ vs hI hA => ?_⟩
          refine calls_of_wp hf hb ?_
          have hlen := hA.len
          have he : EnvOk Γ (env0 as1) { tmps := vs.toArray ++ Array.replicate (fn.ntmps - vs.toArray.size) undef, defers := [] } fn.ntmps := by
            refine ⟨rfl, by simp only [Array.size_append, List.size_toArray, Array.size_replicate]; omega, fun t => ?_⟩
            rw [Array.getD_eq_getD_getElem?]
            by_cases ht : t < vs.length
            · rw [Array.getElem?_append_left (by simpa using ht)]
              have : vs.toArray[t]? = some vs[t] := by simp [ht]
              rw [this]
              exact hA.val t vs[t] (List.getElem?_eq_getElem ht)
            · have h1 : (vs.toArray ++ Array.replicate (fn.ntmps - vs.toArray.size) undef)[t]?.getD undef = undef := by
                rw [Array.getElem?_append_right (by have := Nat.le_of_not_lt ht; simpa using this)]
                simp only [Array.getElem?_replicate]
                split <;> rfl
              rw [h1]
              have h3 : as1.length ≤ t := by rw [hlen]; exact Nat.le_of_not_lt ht
              have h2 : env0 as1 t = .tup [] := by simp [env0, h3]
              rw [h2]; exact undef_tup
          rw [← hA.s] at h
          have fin0 : ∀ env' Γ' a', finish (cfg.keep f) as1 fn.results env' Γ'.s = some (r, os) → Inv Γ' → Ext Γ Γ' → EnvOk Γ' env' a' fn.ntmps →
              ∃ v, (results fn a'.tmps).run P Γ'.w = .ok v Γ'.w ∧ ∃ u Γ2, Ending.returned v = .returned u ∧ Γ2.w = Γ'.w ∧ Inv Γ2 ∧ Ext Γ Γ2 ∧ FinOk Γ2 as1 r os u := by
            intro env' Γ' a' hfin hI' hE' he'
            unfold finish at hfin
            split at hfin
            · rename_i t hr
              simp only [Option.bind_eq_some_iff] at hfin
              obtain ⟨⟨r1, s1⟩, h1, h2⟩ := hfin
              obtain ⟨os1, h3, e⟩ := map_some h2
              cases e
              obtain ⟨Γ2, ⟨w2, e2, I2, E2⟩, hres⟩ := finish1_ok hI' h1 (he'.val t)
              have hrs : fn.results = #[.tmp t] := by apply Array.ext'; simpa using hr
              refine ⟨_, results_tmp hrs a'.tmps P Γ'.w, _, Γ2, rfl, w2, I2, hE'.trans E2, ⟨fun j a ha hmut => ?_, hres⟩⟩
              have := outsA_iff as1 0 os h3 j a ha hmut
              simpa [e2] using this
            · rename_i hnr
              simp only [Option.bind_eq_some_iff] at hfin
              obtain ⟨vs1, h1, ⟨vs2, s1⟩, h2, h3⟩ := hfin
              obtain ⟨os1, h4, e⟩ := map_some h3
              cases e
              have hne : fn.results.size ≠ 1 := fun h1s => by
                have : ∃ x, fn.results.toList = [x] := by
                  cases hl : fn.results.toList with
                  | nil => rw [← Array.length_toList, hl] at h1s; simp at h1s
                  | cons x l => cases l with
                    | nil => exact ⟨x, rfl⟩
                    | cons y l => rw [← Array.length_toList, hl] at h1s; simp at h1s
                obtain ⟨x, hx⟩ := this
                cases x with
                | tmp t => exact hnr t hx
                | cell a t => rw [hx] at h1; simp at h1
              obtain ⟨us, hrun, hva⟩ := run_results (P := P) (tmps := a'.tmps) (w := Γ'.w) (Γ := Γ') (fun r y hy => by
                cases r with
                | tmp t => cases hy; exact ⟨_, rfl, he'.val t⟩
                | cell a t => cases hy) h1 hne
              obtain ⟨Γ2, ⟨w2, e2, I2, E2⟩, hvt⟩ := settleL_ok vs1 us vs2 s1 Γ' hI' h2 hva
              refine ⟨_, hrun, _, Γ2, rfl, w2, I2, hE'.trans E2, ⟨fun j a ha hmut => ?_, ⟨us, rfl, hvt⟩⟩⟩
              have := outsA_iff as1 0 os h4 j a ha hmut
              simpa [e2] using this
          have fin : ∀ env' Γ' a', finishP P (cfg.keep f) as1 fn.results env' Γ'.s = some (r, os) → Inv Γ' → Ext Γ Γ' → EnvOk Γ' env' a' fn.ntmps →
              ∃ v, (results fn a'.tmps).run P Γ'.w = .ok v Γ'.w ∧ ∃ u Γ2, Ending.returned v = .returned u ∧ Γ2.w = Γ'.w ∧ Inv Γ2 ∧ Ext Γ Γ2 ∧ FinOk Γ2 as1 r os u := by
            intro env' Γ' a' hfin hI' hE' he'
            unfold finishP at hfin
            split at hfin
            · exact fin0 env' Γ' a' hfin hI' hE' he'
            · split at hfin
              · rename_i a t hr
                simp only [Option.bind_eq_some_iff] at hfin
                obtain ⟨y, h1, ⟨y', s1⟩, h2, h3⟩ := hfin
                obtain ⟨os1, h4, e⟩ := map_some h3
                cases e
                obtain ⟨u, hu, hyu⟩ := rv_ok (r := .cell a t) hI' h1 he'.val
                obtain ⟨Γ2, ⟨w2, e2, I2, E2⟩, h0⟩ := settle_ok hI' h2 hyu
                have hrs : fn.results = #[.cell a t] := by apply Array.ext'; simpa using hr
                refine ⟨_, results_one hrs a'.tmps hu, _, Γ2, rfl, w2, I2, hE'.trans E2, ⟨fun j a ha hmut => ?_, h0⟩⟩
                have := outsA_iff as1 0 os h4 j a ha hmut
                simpa [e2] using this
              · rename_i hnr
                simp only [Option.bind_eq_some_iff] at hfin
                obtain ⟨vs1, h1, ⟨vs2, s1⟩, h2, h3⟩ := hfin
                obtain ⟨os1, h4, e⟩ := map_some h3
                cases e
                have hne : fn.results.size ≠ 1 := fun h1s => by
                  have : ∃ x, fn.results.toList = [x] := by
                    cases hl : fn.results.toList with
                    | nil => rw [← Array.length_toList, hl] at h1s; simp at h1s
                    | cons x l => cases l with
                      | nil => exact ⟨x, rfl⟩
                      | cons y l => rw [← Array.length_toList, hl] at h1s; simp at h1s
                  obtain ⟨x, hx⟩ := this
                  cases x with
                  | cell a t => exact hnr a t hx
                  | tmp t =>
                    rename_i hall _
                    rw [hx] at hall; simp [isTmpR] at hall
                obtain ⟨us, hrun, hva⟩ := run_results (P := P) (tmps := a'.tmps) (w := Γ'.w) (Γ := Γ') (fun r y hy => rv_ok hI' hy he'.val) h1 hne
                obtain ⟨Γ2, ⟨w2, e2, I2, E2⟩, hvt⟩ := settleL_ok vs1 us vs2 s1 Γ' hI' h2 hva
                refine ⟨_, hrun, _, Γ2, rfl, w2, I2, hE'.trans E2, ⟨fun j a ha hmut => ?_, ⟨us, rfl, hvt⟩⟩⟩
                have := outsA_iff as1 0 os h4 j a ha hmut
                simpa [e2] using this
          have finQ : ∀ env' Γ' a', finishQ P (cfg.ownAt fn.name) (cfg.keep f) as1 fn.results env' Γ'.s = some (r, os) → Inv Γ' → Ext Γ Γ' → EnvOk Γ' env' a' fn.ntmps →
              ∃ v, (results fn a'.tmps).run P Γ'.w = .ok v Γ'.w ∧ ∃ u Γ2, Ending.returned v = .returned u ∧ Γ2.w = Γ'.w ∧ Inv Γ2 ∧ Ext Γ Γ2 ∧ FinOk Γ2 as1 r os u := by
            intro env' Γ' a' hfin hI' hE' he'
            unfold finishQ at hfin
            split at hfin
            · exact fin env' Γ' a' hfin hI' hE' he'
            unfold finishO at hfin
            split at hfin
            · rename_i t u hr
              split at hfin
              · rename_i p i len e ht hfl
                split at hfin
                · rename_i t' xs hp
                  split at hfin
                  · rename_i hc
                    obtain ⟨rfl, hnp, _⟩ := hc
                    obtain ⟨os1, h3, e⟩ := map_some hfin
                    cases e
                    have hmm : fn.results.toList.mapM (fun r => match r with | ResultVar.tmp t => some (env' t) | _ => none) = some [env' t, env' u] := by rw [hr]; rfl
                    have hne : fn.results.size ≠ 1 := by rw [← Array.length_toList, hr]; simp
                    obtain ⟨us, hrun, hva⟩ := run_results (P := P) (tmps := a'.tmps) (w := Γ'.w) (Γ := Γ') (fun r y hy => by
                      cases r with
                      | tmp t => cases hy; exact ⟨_, rfl, he'.val t⟩
                      | cell a t => cases hy) hmm hne
                    cases hva with
                    | cons hv1 hva =>
                      cases hva with
                      | cons hv2 hva =>
                        cases hva
                        refine ⟨_, hrun, _, Γ', rfl, rfl, hI', hE', ⟨fun j a ha hmut => ?_, ⟨p, _, _, _, hnp, hp, rfl, by rw [← ht]; exact hv1, ?_⟩⟩⟩
                        · have := outsA_iff as1 0 os h3 j a ha hmut
                          simpa using this
                        · simp only [VT]
                          exact ⟨_, _, rfl, (V_tree (by revert hfl; cases env' u <;> simp [flat, isTree])).1 hv2, rfl⟩
                  · cases hfin
                · cases hfin
              · exact fin env' Γ' a' hfin hI' hE' he'
            · exact fin env' Γ' a' hfin hI' hE' he'
          refine den_ok ih hm c _ _ Γ _ _ hn3 h hI he fun ex env' Γ' a' g1 g2 g3 g4 => ?_
          cases ex with
          | exit id => cases g1
          | normal =>
            obtain ⟨v, k1, u, Γ2, k2, k3, k4, k5, k6⟩ := finQ env' Γ' a' g1 g2 g3 g4
            exact ⟨g4.defers, v, k1, u, Γ2, k2, k3, k4, k5, k6⟩
          | ret =>
            obtain ⟨v, k1, u, Γ2, k2, k3, k4, k5, k6⟩ := finQ env' Γ' a' g1 g2 g3 g4
            exact ⟨g4.defers, v, k1, u, Γ2, k2, k3, k4, k5, k6⟩
        · cases h
end
end Go.Ab

/- The abstract run, step by step, as equations for a simplifier. No conditions. -/
namespace Go.Ab
section
variable {P : Program} {cfg : Cfg} {call : FuncId → List Arg → Option Out} {n : Nat}

def seqK (P : Program) (cfg : Cfg) (call : FuncId → List Arg → Option Out) (n : Nat) (b : Code) (K : Kont) : Kont := fun e env s => match e with
  | .normal => den P cfg call n b K env s
  | e => K e env s
def blockK (id : Nat) (K : Kont) : Kont := fun e env s => match e with
  | .exit i => if i = id then K .normal env s else K (.exit i) env s
  | e => K e env s
def loopK (body : Kont → Env → St → Option Out) (K : Kont) (k : Nat) : Kont := fun e env s => match e with
  | .normal => loopA body K k env s
  | e => K e env s
def ops1 (P : Program) (cfg : Cfg) (call : FuncId → List Arg → Option Out) (q : Bool) (all : Array Oper) (l : List Oper) (K : Kont) (env : Env) (s : St) : Option Out := (opsA P cfg call q all l env s).bind fun (env, s) => K .normal env s
def opK (P : Program) (cfg : Cfg) (call : FuncId → List Arg → Option Out) (q : Bool) (all : Array Oper) (d : Option Tmp) (r : List Oper) (K : Kont) (env : Env) : Option (AV × St) → Option Out
  | some (v, s) => ops1 P cfg call q all r K (setO env d v) s
  | none => none

theorem zaa (a b : Code) (K : Kont) (env : Env) (s : St) : den P cfg call n (.seq a b) K env s = den P cfg call n a (seqK P cfg call n b K) env s := by rfl
theorem zbx (id : Nat) (a : Code) (K : Kont) (env : Env) (s : St) : den P cfg call n (.block id a) K env s = den P cfg call n a (blockK id K) env s := by rfl
theorem zab (id : Nat) (ops : List Oper) (K : Kont) (env : Env) (s : St) : den P cfg call n (.region id ops.toArray false) K env s = ops1 P cfg call false ops.toArray ops K env s := by
  simp [den, ops1, killI]
theorem zac (id : Nat) (ops : List Oper) (K : Kont) (env : Env) (s : St) : den P cfg call n (.region id ops.toArray true) K env s = ops1 P cfg call true ops.toArray ops K env (killF cfg.keep ops s) := by
  simp [den, ops1, killI]
theorem zbu (K : Kont) (env : Env) (s : St) : den P cfg call n .skip K env s = K .normal env s := rfl
theorem zbv (l : Nat) (K : Kont) (env : Env) (s : St) : den P cfg call n (.label l) K env s = K .normal env s := rfl
theorem zbw (id : Nat) (K : Kont) (env : Env) (s : St) : den P cfg call n (.exit id) K env s = K (.exit id) env s := rfl
theorem zbt (K : Kont) (env : Env) (s : St) : den P cfg call n .ret K env s = K .ret env s := rfl
theorem zby (a : Code) (K : Kont) (env : Env) (s : St) : den P cfg call n (.scope a) K env s = den P cfg call n a K env s := rfl
theorem den_loop (a : Code) (K : Kont) (env : Env) (s : St) : den P cfg call n (.loop a) K env s = loopA (den P cfg call n a) K n env s := rfl
theorem loopA_succ (body : Kont → Env → St → Option Out) (K : Kont) (k : Nat) (env : Env) (s : St) : loopA body K (k + 1) env s = body (loopK body K k) env s := by rfl
theorem zci (b : Code) (K : Kont) (env : Env) (s : St) : seqK P cfg call n b K .normal env s = den P cfg call n b K env s := rfl
theorem zck (b : Code) (K : Kont) (id : Nat) (env : Env) (s : St) : seqK P cfg call n b K (.exit id) env s = K (.exit id) env s := rfl
theorem zcj (b : Code) (K : Kont) (env : Env) (s : St) : seqK P cfg call n b K .ret env s = K .ret env s := rfl
theorem zcl (id : Nat) (K : Kont) (env : Env) (s : St) : blockK id K .normal env s = K .normal env s := rfl
theorem zcm (id i : Nat) (K : Kont) (env : Env) (s : St) : blockK id K (.exit i) env s = if i = id then K .normal env s else K (.exit i) env s := rfl
theorem zcn (id : Nat) (K : Kont) (env : Env) (s : St) : blockK id K .ret env s = K .ret env s := rfl
theorem zco (body : Kont → Env → St → Option Out) (K : Kont) (k : Nat) (env : Env) (s : St) : loopK body K k .normal env s = loopA body K k env s := rfl
theorem zcp (body : Kont → Env → St → Option Out) (K : Kont) (k i : Nat) (env : Env) (s : St) : loopK body K k (.exit i) env s = K (.exit i) env s := rfl
theorem zcq (body : Kont → Env → St → Option Out) (K : Kont) (k : Nat) (env : Env) (s : St) : loopK body K k .ret env s = K .ret env s := rfl

theorem zch (q : Bool) (all : Array Oper) (K : Kont) (env : Env) (s : St) : ops1 P cfg call q all [] K env s = K .normal env s := by rfl
theorem zcb (q : Bool) (all : Array Oper) (d : Option Tmp) (op : Op) (ty : TypeId) (pos : String) (af : Array Edge) (r : List Oper) (K : Kont) (env : Env) (s : St) :
    ops1 P cfg call q all (⟨d, op, ty, pos, af, none⟩ :: r) K env s = opK P cfg call q all d r K env (opA P cfg call q ⟨d, op, ty, pos, af, none⟩ (d.getD 0) env s) := by
  simp only [ops1, opsA, wantA, opK]
  cases opA P cfg call q ⟨d, op, ty, pos, af, none⟩ (d.getD 0) env s with
  | none => rfl
  | some x => cases x; rfl
theorem zct (q : Bool) (all : Array Oper) (d : Option Tmp) (r : List Oper) (K : Kont) (env : Env) (v : AV) (s : St) : opK P cfg call q all d r K env (some (v, s)) = ops1 P cfg call q all r K (setO env d v) s := rfl
theorem loop_ends {X : Type} {body : Kont → Env → St → Option Out} {K : Kont} (I : X → Env → St → Prop) (μ : X → Nat) (out : X → Out)
    (h : ∀ k x, μ x ≤ k → (∀ y env s, μ y < μ x → out y = out x → I y env s → loopA body K k env s = some (out x)) → ∀ env s, I x env s → body (loopK body K k) env s = some (out x)) :
    ∀ k x env s, μ x < k → I x env s → loopA body K k env s = some (out x)
  | 0, x, env, s, hk, _ => by omega
  | k + 1, x, env, s, hk, hI => by
    rw [loopA_succ]
    exact h k x (by omega) (fun y env s hy ho hI' => by rw [← ho]; exact loop_ends I μ out h k y env s (by omega) hI') env s hI
end
end Go.Ab

/- The abstract run: each operation as an equation for a simplifier. No conditions. -/
namespace Go.Ab
section
variable {P : Program} {cfg : Cfg} {call : FuncId → List Arg → Option Out} {n : Nat}

@[congr] theorem den_congr {c : Code} {K : Kont} {env env' : Env} {s s' : St} (h : env = env') (h' : s = s') : den P cfg call n c K env s = den P cfg call n c K env' s' := by subst h h'; rfl
@[congr] theorem ops1_congr {q : Bool} {all : Array Oper} {l : List Oper} {K : Kont} {env env' : Env} {s s' : St} (h : env = env') (h' : s = s') : ops1 P cfg call q all l K env s = ops1 P cfg call q all l K env' s' := by subst h h'; rfl

def finK (P : Program) (keep : Bool) (as1 : List Arg) (rs : Array ResultVar) : Kont := fun e env s => match e with
  | .normal => finishP P keep as1 rs env s
  | .ret => finishP P keep as1 rs env s
  | _ => none
theorem zcr (keep : Bool) (as1 : List Arg) (rs : Array ResultVar) (env : Env) (s : St) : finK P keep as1 rs .normal env s = finishP P keep as1 rs env s := rfl
theorem zcs (keep : Bool) (as1 : List Arg) (rs : Array ResultVar) (env : Env) (s : St) : finK P keep as1 rs .ret env s = finishP P keep as1 rs env s := rfl
theorem finishP_t1 (P : Program) (k : Bool) (xs : List Arg) (t : Nat) (env : Env) (s : St) : finishP P k xs #[.tmp t] env s = finish k xs #[.tmp t] env s := rfl
theorem finishP_t2 (P : Program) (k : Bool) (xs : List Arg) (t u : Nat) (env : Env) (s : St) : finishP P k xs #[.tmp t, .tmp u] env s = finish k xs #[.tmp t, .tmp u] env s := rfl
theorem finishP_c1 (P : Program) (k : Bool) (xs : List Arg) (a t : Nat) (env : Env) (s : St) : finishP P k xs #[.cell a t] env s = (loadA P t s (env a)).bind fun v => (settle s v).bind fun x => (outsA x.2 0 xs).map (Res.tree x.1, ·) := rfl
theorem finishP_c2 (P : Program) (k : Bool) (xs : List Arg) (a t u : Nat) (env : Env) (s : St) : finishP P k xs #[.cell a t, .tmp u] env s = (loadA P t s (env a)).bind fun v => (settleL s [v, env u]).bind fun x => (outsA x.2 0 xs).map (Res.tree (.tup x.1), ·) := by
  simp only [finishP, List.all_cons, List.all_nil, isTmpR, Bool.false_and, List.mapM_cons, List.mapM_nil, rvA]
  cases loadA P t s (env a) <;> rfl
theorem prune_id {keep : FuncId → Bool} {m : Nat} : ∀ {c : Code}, dstOk keep m c = true → prune keep c = c
  | .region i ops draw, h => by
    simp only [dstOk, Bool.and_eq_true, Bool.or_eq_true, Bool.not_eq_true'] at h
    cases draw with
    | false => rfl
    | true => simp only [prune]; rw [if_pos (h.2.resolve_left (by decide))]
  | .seq a b, h => by
    simp only [dstOk, Bool.and_eq_true] at h
    simp only [prune, prune_id h.1, prune_id h.2]
  | .cond t a b, h => by
    simp only [dstOk, Bool.and_eq_true] at h
    simp only [prune, prune_id h.1, prune_id h.2]
  | .block i a, h => by simp only [dstOk] at h; simp only [prune, prune_id h]
  | .loop a, h => by simp only [dstOk] at h; simp only [prune, prune_id h]
  | .scope a, h => by simp only [dstOk] at h; simp only [prune, prune_id h]
  | .skip, _ => rfl
  | .label _, _ => rfl
  | .exit _, _ => rfl
  | .ret, _ => rfl
  | .rangeFunc .., _ => rfl
  | .goto _, h => by cases h
  | .refuse _, _ => rfl
theorem dstOk_P {keep : FuncId → Bool} {m : Nat} : ∀ {c : Code}, dstOk keep m c = true → dstOkP keep m c = true
  | .region i ops draw, h => by
    simp only [dstOk, dstOkP, Bool.and_eq_true, Bool.or_eq_true] at h ⊢
    exact ⟨h.1, .inl (.inl (.inl h.2))⟩
  | .seq a b, h => by
    simp only [dstOk, Bool.and_eq_true] at h
    simp only [dstOkP, dstOk_P h.1, dstOk_P h.2, Bool.and_self]
  | .cond t a b, h => by
    simp only [dstOk, Bool.and_eq_true] at h
    simp only [dstOkP, dstOk_P h.1, dstOk_P h.2, Bool.and_self]
  | .block i a, h => by simp only [dstOk] at h; simp only [dstOkP, dstOk_P h]
  | .loop a, h => by simp only [dstOk] at h; simp only [dstOkP, dstOk_P h]
  | .scope a, h => by simp only [dstOk] at h; simp only [dstOkP, dstOk_P h]
  | .skip, _ => rfl
  | .label _, _ => rfl
  | .exit _, _ => rfl
  | .ret, _ => rfl
  | .rangeFunc .., _ => rfl
  | .goto _, _ => rfl
  | .refuse _, _ => rfl
theorem evalFn_go {d : Nat} {f : FuncId} {fn : Func} {c : Code} (as1 : List Arg) (hf : P.funcs[f]? = some fn) (hb : fn.body = some c) (hn : fn.name ≠ "runtime.NumGoroutine") (hl : as1.length ≤ fn.ntmps) (hd : (fn.body.map (dstOk cfg.keep fn.ntmps)) = some true) (hp : cfg.prim f as1 = none := by rfl) (ho : cfg.ownAt fn.name = false := by rfl) :
    evalFn P cfg n (d + 1) f as1 = den P cfg (evalFn P cfg n d) n c (finK P (cfg.keep f) as1 fn.results) (env0 as1) (st0 as1) := by
  rw [hb] at hd
  simp only [Option.map_some, Option.some.injEq] at hd
  rw [evalFn]
  simp only [hp, hf, hb, ho]
  rw [prune_id hd, if_pos ⟨hn, hl, dstOk_P hd⟩]
  rfl

theorem zff (env : Env) (t : Nat) : ev env (.tmp t) = env t := rfl
theorem zfg (env : Env) (k : IntKind) (z : Int) : ev env (.const (.int k z)) = .int k z := rfl
theorem zfh (env : Env) (b : Bool) : ev env (.const (.bool b)) = .bool b := rfl
theorem zfi (env : Env) : ev env (.const (.slice none 0 0)) = .sl [] 0 .nil := rfl
theorem zfj (env : Env) (f : FuncId) : ev env (.func f) = .fn f [] := rfl
theorem zfk {α : Type} (f : Nat → α) (i j : Nat) (v : α) : upd f i v j = if j = i then v else f j := rfl
theorem zfd (env : Env) (d : Nat) (v : AV) : setO env (some d) v = upd env d v := rfl
theorem zfe (env : Env) (v : AV) : setO env none v = env := rfl

variable (q : Bool) (d : Option Tmp) (ty : TypeId) (pos : String) (af : Array Edge) (g : Option (Nat × Bool)) (t : Nat) (env : Env) (s : St)
theorem zcu (x : Operand) : opA P cfg call q ⟨d, .move x, ty, pos, af, g⟩ t env s = some (ev env x, s) := rfl
theorem zcv (x : Operand) : opA P cfg call q ⟨d, .assign x, ty, pos, af, g⟩ t env s = some (ev env x, s) := rfl
def pickA (a b : AV) : AV → Option AV
  | .bool c => some (if c = true then a else b)
  | _ => none
theorem zcx (a b : AV) (c : Bool) : pickA a b (.bool c) = some (if c = true then a else b) := rfl
theorem zcw (c a b : Operand) : opA P cfg call q ⟨d, .pick c a b, ty, pos, af, g⟩ t env s = (pickA (ev env a) (ev env b) (ev env c)).map (·, s) := by
  simp only [opA]
  cases ev env c <;> rfl
theorem zcz (o : BinOp) (u v : TypeId) (x y : Operand) : opA P cfg call q ⟨d, .binOp o u x y v, ty, pos, af, g⟩ t env s = (binA P o u (ev env x) (ev env y)).map (·, s) := rfl
theorem zda (o : UnOp) (u : TypeId) (x : Operand) : opA P cfg call q ⟨d, .unOp o u x, ty, pos, af, g⟩ t env s = (unA o (ev env x)).map (·, s) := rfl
theorem zde (u v : TypeId) (x : Operand) : opA P cfg call q ⟨d, .convert u v x, ty, pos, af, g⟩ t env s = (convA P u v s (ev env x)).map (·, s) := rfl
def extA (i : Nat) : AV → Option AV
  | .tup vs => vs[i]?
  | .tupo p t off len e rest => match i with | 0 => some (.own p t off len e) | i + 1 => rest[i]?
  | _ => none
theorem zdv (p t off len e : Nat) (rest : List AV) : extA 0 (.tupo p t off len e rest) = some (.own p t off len e) := rfl
theorem zdw (i p t off len e : Nat) (rest : List AV) : extA (i + 1) (.tupo p t off len e rest) = rest[i]? := rfl
theorem zdu (i : Nat) (vs : List AV) : extA i (.tup vs) = vs[i]? := rfl
theorem zdt (x : Operand) (i : Nat) : opA P cfg call q ⟨d, .extract x i, ty, pos, af, g⟩ t env s = (extA i (ev env x)).map (·, s) := by
  simp only [opA]
  cases ev env x <;> rfl
theorem zdc (u : TypeId) (x : Operand) : opA P cfg call q ⟨d, .load u x, ty, pos, af, g⟩ t env s = (loadA P u s (ev env x)).map (·, s) := rfl
theorem zdd (u : TypeId) (x y : Operand) : opA P cfg call q ⟨d, .store u x y, ty, pos, af, g⟩ t env s = if cfg.ownAt ("=" ++ pos) = true then (storeH P u s (ev env x) (ev env y)).map (AV.tup [], ·) else (storeA P u s (ev env x) (ev env y)).map (AV.tup [], ·) := rfl
theorem zdb (u : TypeId) (x i : Operand) : opA P cfg call q ⟨d, .indexAddr u x i, ty, pos, af, g⟩ t env s = (indexAddrA P u s (ev env x) (ev env i)).map (·, s) := rfl
theorem zfc (u : TypeId) (x i : Operand) : opA P cfg call q ⟨d, .index u x i, ty, pos, af, g⟩ t env s = (indexA P u (ev env x) (ev env i)).map (·, s) := rfl
theorem zdn (u : TypeId) (x : Operand) (lo hi mx : Option Operand) : opA P cfg call q ⟨d, .slice u x lo hi mx, ty, pos, af, g⟩ t env s = (if cfg.ownAt ("/" ++ pos) = true then sliceW P u (quietV q (ev env x)) (lo.map (ev env)) (hi.map (ev env)) (mx.map (ev env)) else sliceA P u s (quietV q (ev env x)) (lo.map (ev env)) (hi.map (ev env)) (mx.map (ev env))).map (·, s) := rfl
theorem zdo (v : AV) : quietV false v = v := rfl
theorem zdp (q : Bool) (xs : List AV) (n : Nat) (g : Grip) : quietV q (.sl xs n g) = .sl xs n g := by cases q <;> rfl
theorem zdq (q : Bool) (b : List UInt8) : quietV q (.str b) = .str b := by cases q <;> rfl
theorem zdf (u : TypeId) (x y : Operand) : opA P cfg call q ⟨d, .makeSlice u x y, ty, pos, af, g⟩ t env s = makeA P u t s (ev env x) (ev env y) := rfl
theorem opA_bs (u : TypeId) (len : Nat) (parts : Array (Nat × Operand)) : opA P cfg call q ⟨d, .buildSlice u len parts, ty, pos, af, g⟩ t env s = match tkOf P u with
    | .sl e => (esz P e).bind fun n => (zeroOf P e).bind fun z => if z.length = n ∧ len * n ≤ 4096 then ((fillA (fun i => some (i * n, n)) (rep len z) (parts.toList.map fun (i, x) => (i, ev env x))).map (.sl · len .tight)).map (·, s) else none
    | _ => none := rfl
theorem zcy (x : Operand) (u : TypeId) : opA P cfg call q ⟨d, .call ⟨.builtin .len, #[x], #[u]⟩, ty, pos, af, g⟩ t env s = (lenA P u s (ev env x)).map (·, s) := rfl
theorem zdg (x y : Operand) (us : Array TypeId) : opA P cfg call false ⟨d, .call ⟨.builtin .append, #[x, y], us⟩, ty, pos, af, g⟩ t env s = if cfg.ownAt pos = true then appendO P us t s (ev env x) (ev env y) else if cfg.ownAt ("^" ++ pos) = true then appendW P us t s (ev env x) (ev env y) else appendA P us t s (ev env x) (ev env y) := rfl
theorem zdh (x : Tmp) (y : Operand) (us : Array TypeId) : opA P cfg call true ⟨d, .call ⟨.builtin .append, #[.tmp x, y], us⟩, ty, pos, af, g⟩ t env s = appendA P us t s (env x) (ev env y) := by
  cases g <;> rfl
theorem zdi (y : Operand) (us : Array TypeId) (d : Tmp) : opA P cfg call true ⟨some d, .call ⟨.builtin .append, #[.const (.slice none 0 0), y], us⟩, ty, pos, af, none⟩ t env s = if isTree (ev env y) = true then appendA P us t s (.sl [] 0 .nil) (ev env y) else none := by
  show (if (!isTree (ev env y)) = true then none else appendA P us t s (.sl [] 0 .nil) (ev env y)) = _
  cases isTree (ev env y) <;> rfl
theorem zdj (y : Operand) (us : Array TypeId) (x : Nat × Bool) : opA P cfg call true ⟨d, .call ⟨.builtin .append, #[.const (.slice none 0 0), y], us⟩, ty, pos, af, some x⟩ t env s = appendA P us t s (.sl [] 0 .nil) (ev env y) := rfl
theorem zdk (x y : Operand) (us : Array TypeId) : opA P cfg call q ⟨d, .call ⟨.builtin .copy, #[x, y], us⟩, ty, pos, af, g⟩ t env s = copyA P us s (ev env x) (ev env y) := rfl
theorem zdl (x y : Operand) (us : Array TypeId) : opA P cfg call q ⟨d, .call ⟨.builtin .max, #[x, y], us⟩, ty, pos, af, g⟩ t env s = (foldA max2A (ev env x) [ev env y]).map (·, s) := rfl
theorem zdm (x y : Operand) (us : Array TypeId) : opA P cfg call q ⟨d, .call ⟨.builtin .min, #[x, y], us⟩, ty, pos, af, g⟩ t env s = (foldA min2A (ev env x) [ev env y]).map (·, s) := rfl
theorem zdr (f : FuncId) (xs : Array Operand) (us : Array TypeId) : opA P cfg call false ⟨d, .call ⟨.value (.func f), xs, us⟩, ty, pos, af, g⟩ t env s = callA cfg call t s f (xs.toList.map (ev env) ++ []) := rfl
def callQQ (cfg : Cfg) (call : FuncId → List Arg → Option Out) (b : Bool) (d : Nat) (s : St) (f : FuncId) (vs : List AV) : Option (AV × St) := match b with
  | true => if vs.all isTree then callA cfg call d s f vs else none
  | false => (callQ call f vs).map (·, s)
theorem zbp (dd : Nat) (s : St) (f : FuncId) (vs : List AV) : callQQ cfg call false dd s f vs = (callQ call f vs).map (·, s) := rfl
theorem zbq (dd : Nat) (s : St) (f : FuncId) (vs : List AV) : callQQ cfg call true dd s f vs = if vs.all isTree = true then callA cfg call dd s f vs else none := rfl
def callLL (cfg : Cfg) (call : FuncId → List Arg → Option Out) (l b : Bool) (d : Nat) (s : St) (f : FuncId) (vs : List AV) : Option (AV × St) := match l with
  | true => callA cfg call d s f vs
  | false => callQQ cfg call b d s f vs
theorem zbr (b : Bool) (dd : Nat) (s : St) (f : FuncId) (vs : List AV) : callLL cfg call false b dd s f vs = callQQ cfg call b dd s f vs := rfl
theorem zbs (b : Bool) (dd : Nat) (s : St) (f : FuncId) (vs : List AV) : callLL cfg call true b dd s f vs = callA cfg call dd s f vs := rfl
theorem zds (f : FuncId) (xs : Array Operand) (us : Array TypeId) : opA P cfg call true ⟨d, .call ⟨.value (.func f), xs, us⟩, ty, pos, af, g⟩ t env s = callLL cfg call (cfg.keep (f + 1048576)) (cfg.keep f && g.isNone && d.isSome) t s f (xs.toList.map (ev env) ++ []) := by
  have hc : loudC cfg.keep ⟨d, .call ⟨.value (.func f), xs, us⟩, ty, pos, af, g⟩ = cfg.keep (f + 1048576) := rfl
  cases hl : cfg.keep (f + 1048576) with
  | true => simp only [opA, ev, if_true, hc, hl, callLL]
  | false =>
    have hfr : freshD cfg.keep ⟨d, .call ⟨.value (.func f), xs, us⟩, ty, pos, af, g⟩ = if (cfg.keep f && g.isNone && d.isSome) = true then d else none := by
      cases g <;> cases d <;> cases h : cfg.keep f <;> simp [freshD, h, hl]
    have hs : (freshD cfg.keep ⟨d, .call ⟨.value (.func f), xs, us⟩, ty, pos, af, g⟩).isSome = (cfg.keep f && g.isNone && d.isSome) := by
      rw [hfr]
      cases g <;> cases d <;> cases cfg.keep f <;> rfl
    simp only [opA, ev, if_true, hc, hl, Bool.false_eq_true, if_false, hs, callLL]
    cases cfg.keep f && g.isNone && d.isSome <;> rfl
end

section
variable {P : Program} {cfg : Cfg} {call : FuncId → List Arg → Option Out}
def condV (A B : Option Out) : AV → Option Out
  | .bool b => if b = true then A else B
  | _ => none
@[congr] theorem condV_congr {A B : Option Out} {v v' : AV} (h : v = v') : condV A B v = condV A B v' := by rw [h]
theorem zca (A B : Option Out) (b : Bool) : condV A B (.bool b) = if b = true then A else B := rfl
theorem zbz {n : Nat} (c : Operand) (a b : Code) (K : Kont) (env : Env) (s : St) : den P cfg call n (.cond c a b) K env s = condV (den P cfg call n a K env s) (den P cfg call n b K env s) (ev env c) := by
  simp only [den]
  cases h : ev env c with
  | bool x => cases x <;> rfl
  | _ => rfl
def guardV (w : Bool) (A B : Option Out) : AV → Option Out
  | .bool b => if b = w then A else B
  | .tup _ => B
  | _ => none
@[congr] theorem guardV_congr {w : Bool} {A B : Option Out} {v v' : AV} (h : v = v') : guardV w A B v = guardV w A B v' := by rw [h]
theorem zcd (w : Bool) (A B : Option Out) (b : Bool) : guardV w A B (.bool b) = if b = w then A else B := rfl
theorem zce (w : Bool) (A B : Option Out) (vs : List AV) : guardV w A B (.tup vs) = B := rfl
def guardD (all : Array Oper) (j : Nat) (env : Env) : AV := match (all[j]?).bind (·.dst) with
  | some t => env t
  | none => .undef
theorem zcc (q : Bool) (all : Array Oper) (d : Option Tmp) (op : Op) (ty : TypeId) (pos : String) (af : Array Edge) (j : Nat) (w : Bool) (r : List Oper) (K : Kont) (env : Env) (s : St) :
    ops1 P cfg call q all (⟨d, op, ty, pos, af, some (j, w)⟩ :: r) K env s = guardV w (opK P cfg call q all d r K env (opA P cfg call q ⟨d, op, ty, pos, af, some (j, w)⟩ (d.getD 0) env s)) (ops1 P cfg call q all r K (setO env d (.tup [])) s) (guardD all j env) := by
  simp only [ops1, opsA, wantA, opK, guardD]
  cases (all[j]?).bind (·.dst) with
  | none => rfl
  | some t =>
    simp only
    cases env t with
    | bool b =>
      simp only [guardV]
      cases b <;> cases w <;> simp <;> (try rfl)
      all_goals
        cases opA P cfg call q _ (d.getD 0) env s with
        | none => rfl
        | some x => cases x; rfl
    | tup vs => simp [guardV]
    | _ => simp [guardV]
theorem zcf (d : Nat) (op : Op) (ty : TypeId) (pos : String) (af : Array Edge) (g : Option (Nat × Bool)) (l : List Oper) (env : Env) : guardD ⟨⟨some d, op, ty, pos, af, g⟩ :: l⟩ 0 env = env d := rfl
theorem zcg (o : Oper) (l : List Oper) (j : Nat) (env : Env) : guardD ⟨o :: l⟩ (j + 1) env = guardD ⟨l⟩ j env := by
  simp [guardD]
end
def killM (m : Option Nat) (s : St) : St := match m with
  | some d => killD s d
  | none => s
theorem zaf (s : St) : killM none s = s := rfl
theorem zag (d : Nat) (s : St) : killM (some d) s = upd s d ⟨(s d).t, .dead⟩ := rfl
theorem zad (k : FuncId → Bool) (s : St) : killF k [] s = s := rfl
theorem zae (k : FuncId → Bool) (o : Oper) (r : List Oper) (s : St) : killF k (o :: r) s = killF k r (killM (freshD k o) s) := rfl
section
variable {k : FuncId → Bool} {d : Option Tmp} {ty : TypeId} {pos : String} {af : Array Edge} {g : Option (Nat × Bool)}
theorem zah (x : Operand) : freshD k ⟨d, .move x, ty, pos, af, g⟩ = none := by cases g <;> rfl
theorem zai (x : Operand) : freshD k ⟨d, .assign x, ty, pos, af, g⟩ = none := by cases g <;> rfl
theorem zaj (a b c : Operand) : freshD k ⟨d, .pick a b c, ty, pos, af, g⟩ = none := by cases g <;> rfl
theorem zak (o : BinOp) (u v : TypeId) (x y : Operand) : freshD k ⟨d, .binOp o u x y v, ty, pos, af, g⟩ = none := by cases g <;> rfl
theorem zal (o : UnOp) (u : TypeId) (x : Operand) : freshD k ⟨d, .unOp o u x, ty, pos, af, g⟩ = none := by cases g <;> rfl
theorem zam (u v : TypeId) (x : Operand) : freshD k ⟨d, .convert u v x, ty, pos, af, g⟩ = none := by cases g <;> rfl
theorem zan (x : Operand) (i : Nat) : freshD k ⟨d, .extract x i, ty, pos, af, g⟩ = none := by cases g <;> rfl
theorem zao (u : TypeId) (x : Operand) : freshD k ⟨d, .load u x, ty, pos, af, g⟩ = none := by cases g <;> rfl
theorem zap (u : TypeId) (x y : Operand) : freshD k ⟨d, .store u x y, ty, pos, af, g⟩ = none := by cases g <;> rfl
theorem zaq (u : TypeId) (x : Operand) (i : Nat) : freshD k ⟨d, .fieldAddr u x i, ty, pos, af, g⟩ = none := by cases g <;> rfl
theorem zar (u : TypeId) (x : Operand) (i : Nat) : freshD k ⟨d, .field u x i, ty, pos, af, g⟩ = none := by cases g <;> rfl
theorem zas (u : TypeId) (x i : Operand) : freshD k ⟨d, .indexAddr u x i, ty, pos, af, g⟩ = none := by cases g <;> rfl
theorem zat (u : TypeId) (x i : Operand) : freshD k ⟨d, .index u x i, ty, pos, af, g⟩ = none := by cases g <;> rfl
theorem zau (u : TypeId) (x : Operand) (lo hi mx : Option Operand) : freshD k ⟨d, .slice u x lo hi mx, ty, pos, af, g⟩ = none := by cases g <;> rfl
theorem zav (u : TypeId) (parts : Array (Nat × Operand)) : freshD k ⟨d, .build u parts, ty, pos, af, g⟩ = none := by cases g <;> rfl
theorem zaw (u : TypeId) (len : Nat) (parts : Array (Nat × Operand)) : freshD k ⟨d, .buildSlice u len parts, ty, pos, af, g⟩ = none := by cases g <;> rfl
theorem zax (u : TypeId) (x : Operand) : freshD k ⟨d, .box u x, ty, pos, af, g⟩ = none := by cases g <;> rfl
theorem zay (x : Operand) : freshD k ⟨d, .nilCheck x, ty, pos, af, g⟩ = none := by cases g <;> rfl
theorem zaz (xs : Array Operand) (us : Array TypeId) : freshD k ⟨d, .call ⟨.builtin .len, xs, us⟩, ty, pos, af, g⟩ = none := by cases g <;> rfl
theorem zba (xs : Array Operand) (us : Array TypeId) : freshD k ⟨d, .call ⟨.builtin .copy, xs, us⟩, ty, pos, af, g⟩ = none := by cases g <;> rfl
theorem zbb (xs : Array Operand) (us : Array TypeId) : freshD k ⟨d, .call ⟨.builtin .max, xs, us⟩, ty, pos, af, g⟩ = none := by cases g <;> rfl
theorem zbc (xs : Array Operand) (us : Array TypeId) : freshD k ⟨d, .call ⟨.builtin .min, xs, us⟩, ty, pos, af, g⟩ = none := by cases g <;> rfl
theorem zbd (xs : Array Operand) (us : Array TypeId) : freshD k ⟨d, .call ⟨.builtin .cap, xs, us⟩, ty, pos, af, g⟩ = none := by cases g <;> rfl
theorem zbe (x : Tmp) (y : Operand) (us : Array TypeId) : freshD k ⟨d, .call ⟨.builtin .append, #[.tmp x, y], us⟩, ty, pos, af, g⟩ = none := by cases g <;> rfl
theorem zbf (y : Operand) (us : Array TypeId) : freshD k ⟨d, .call ⟨.builtin .append, #[.const (.slice none 0 0), y], us⟩, ty, pos, af, none⟩ = d := rfl
theorem zbg (x y : Operand) (us : Array TypeId) (z : Nat × Bool) : freshD k ⟨d, .call ⟨.builtin .append, #[x, y], us⟩, ty, pos, af, some z⟩ = none := rfl
theorem zbh (x : Tmp) (xs : Array Operand) (us : Array TypeId) : freshD k ⟨d, .call ⟨.value (.tmp x), xs, us⟩, ty, pos, af, g⟩ = none := by cases g <;> rfl
theorem zbi (f : FuncId) (xs : Array Operand) (us : Array TypeId) : freshD k ⟨d, .call ⟨.value (.func f), xs, us⟩, ty, pos, af, none⟩ = if k (f + 1048576) = true then none else if k f = true then d else none := rfl
theorem zbj (f : FuncId) (xs : Array Operand) (us : Array TypeId) (x : Nat × Bool) : freshD k ⟨d, .call ⟨.value (.func f), xs, us⟩, ty, pos, af, some x⟩ = none := rfl
theorem zbk (u : TypeId) : freshD k ⟨d, .alloc u, ty, pos, af, none⟩ = d := rfl
theorem zbl (u : TypeId) (x : Nat × Bool) : freshD k ⟨d, .alloc u, ty, pos, af, some x⟩ = none := rfl
theorem zbm (u : TypeId) (x y : Operand) : freshD k ⟨d, .makeSlice u x y, ty, pos, af, none⟩ = d := rfl
theorem zbn (u : TypeId) (x y : Operand) (z : Nat × Bool) : freshD k ⟨d, .makeSlice u x y, ty, pos, af, some z⟩ = none := rfl
end
end Go.Ab

/- From the abstract run to what a statement asks: a function that gives true, and leaves the heap below as it was. Conditions: none beyond the abstract run's answer. -/
namespace Go.Ab
open Go.RowKit
section
variable {P : Program} {cfg : Cfg}

def IsRow (k : IntKind) (w : World) (a : Option Addr) (len cap : Nat) (zs : List Int) : Prop :=
  (a = none ∧ len = 0 ∧ cap = 0 ∧ zs = []) ∨
  ∃ x, a = some x ∧ len ≤ cap ∧ cap ≤ maxLen ∧ zs.length = cap ∧ (∀ i, i < zs.length → w.cell? (x.add i) = some (.int k (zs.getD i 0))) ∧ ∀ n ∈ zs, (Lit.int k n).wf = true
def old (w : World) : Nat → Nat → Prop := fun b _ => b < w.heap.size
theorem VC_ints {k : IntKind} {w : World} {b : Nat} : ∀ (zs : List Int) (o : Nat), (∀ i, i < zs.length → w.cell? ⟨b, o + i, none⟩ = some (.int k (zs.getD i 0))) → VC (old w) w (zs.map (AV.int k)) b o
  | [], _, _ => by simp only [List.map_nil, VC]
  | z :: zs, o, h => by
    simp only [List.map_cons, VC]
    have h0 := h 0 (by simp)
    refine ⟨?_, ⟨.int k z, by simpa using h0, rfl, by simp [V0]⟩, VC_ints zs (o + 1) fun i hi => ?_⟩
    · unfold old
      rw [Nat.add_zero, World.cell?] at h0
      have : (w.heap[b]?).isSome := by
        cases hb : w.heap[b]? with
        | none => simp only [hb] at h0; cases h0
        | some _ => rfl
      simpa using this
    · have := h (i + 1) (by simpa using hi)
      rw [show o + 1 + i = o + (i + 1) by omega]
      simpa using this
theorem V0_row {k : IntKind} {w : World} {a : Option Addr} {len cap : Nat} {zs : List Int} (h : IsRow k w a len cap zs) : V0 (old w) w (.sl ((zs.take len).map (AV.int k)) len .loose) (.slice a len cap) := by
  simp only [V0]
  rcases h with ⟨rfl, rfl, rfl, rfl⟩ | ⟨x, rfl, hl, _, hz, hc, _⟩
  · exact ⟨none, 0, rfl, by omega, by simp, by simp [Grip.isTok], .inl ⟨by simp, rfl, rfl⟩⟩
  · refine ⟨some x, cap, rfl, hl, by simp, by simp [Grip.isTok], ?_⟩
    by_cases h0 : cap = 0
    · subst h0
      have : len = 0 := by omega
      subst this
      exact .inl ⟨by simp, rfl, rfl⟩
    · obtain ⟨b, o, spot⟩ := x
      have hs : spot = none := by
        have := hc 0 (by omega)
        simpa [Addr.add] using World.cell?_spot this
      subst hs
      refine .inr ⟨b, o, rfl, VC_ints _ o fun i hi => ?_⟩
      rw [List.length_take] at hi
      have := hc i (by omega)
      have e : (⟨b, o, none⟩ : Addr).add i = ⟨b, o + i, none⟩ := by
        unfold Addr.add
        split
        · rename_i h; simp [h]
        · rfl
      rw [e] at this
      rw [show (zs.take len).getD i 0 = zs.getD i 0 by rw [List.getD_eq_getElem?_getD, List.getD_eq_getElem?_getD, List.getElem?_take, if_pos (by omega)]]
      exact this

theorem lawCallsP (hm : P.follows .mixedOrders = true) (hp : FnOk P cfg.prim) {n d : Nat} {f : FuncId} {xs : List Arg} {vs : List Value} {w : World} {os : List (List AV)} {r : AV} (he : evalFn P cfg n d f xs = some (.tree r, os))
    (hl : xs.length = vs.length) (hs : st0 xs = fun _ => ⟨0, .dead⟩) (hv : ∀ (j : Nat) (v : Value), vs[j]? = some v → V0 (old w) w (env0 xs j) v ∧ isTree (env0 xs j) = true) (b : Bool) (hr : r = .bool b) :
    Calls P f vs.toArray w fun e w' => e = .returned (.bool b) ∧ Below w.heap.size w w' := by
  subst hr
  have hnr : ∀ p b o, ¬ Rg (⟨fun _ => ⟨0, 0, 0⟩, fun _ => ⟨0, .dead⟩, old w, w⟩ : G) p b o := fun p b o h => by simp [Rg] at h
  have hI : Inv (⟨fun _ => ⟨0, 0, 0⟩, fun _ => ⟨0, .dead⟩, old w, w⟩ : G) := ⟨⟨fun p => by simp [EntOk, EntC], fun p q b o _ h => absurd h (hnr p b o), fun b o h => ⟨h, fun p => hnr p b o⟩⟩, fun p t xs hs h => by simp at h⟩
  refine ((evalFn_ok hm hp n d f xs _ os he).2 _ vs hI ⟨hs.symm, hl, fun j v hj => V.of0 (hv j v hj).1 (hv j v hj).2⟩).mono ?_
  rintro e w' ⟨v, Γ', rfl, rfl, _, hE, hF⟩
  have hres := hF.res
  simp only [ResOk, V0] at hres
  exact ⟨by rw [hres], hE.os, hE.tape, hE.output, hE.size, fun k hk => hE.block k hk fun p o => hnr p k o⟩
end
end Go.Ab

/- Functions that the abstract run takes by their contracts: what a call that turns nothing below leaves; strings.Join. Conditions: the contract. -/
namespace Go.Ab
open Go.RowKit
section
variable {P : Program}

theorem Inv.below {Γ : G} (hI : Inv Γ) {w' : World} (hb : Below Γ.w.heap.size Γ.w w') : Inv { Γ with w := w' } ∧ Ext Γ { Γ with w := w' } := by
  have hst : Stays Γ.S Γ.w Γ.S w' := fun b o hs => ⟨hs, cell_of_block (hb.block b (hI.stay b o hs).1) o⟩
  refine hI.more (fun p t xs hs h => ⟨h, rfl, fun o ⟨v, hv⟩ => cell_of_block (hb.block _ (World.block_lt_of_cell? _ _ hv)) o⟩) ?_
  refine ⟨⟨fun p => ?_, hI.apart, fun b o hs => ⟨Nat.lt_of_lt_of_le (hI.stay b o hs).1 hb.size, (hI.stay b o hs).2⟩⟩, ?_⟩
  · have h := hI.ent p
    unfold EntOk at h ⊢
    revert h
    show EntC (Γ.φ p) Γ.S Γ.w (Γ.s p).c → EntC (Γ.φ p) Γ.S w' (Γ.s p).c
    cases (Γ.s p).c with
    | dead => exact fun _ => trivial
    | buf xs =>
      simp only [EntC]
      intro ⟨h1, h2, h3, h4⟩
      have hbl := hb.block _ h1
      refine ⟨Nat.lt_of_lt_of_le h1 hb.size, fun o => by rw [frozen_of_block hbl]; exact h2 o, fun i x hx => ?_, fun i hi => by rw [cell_of_block hbl]; exact h4 i hi⟩
      obtain ⟨v, k1, k2, k3⟩ := h3 i x hx
      exact ⟨v, by rw [cell_of_block hbl]; exact k1, k2, V0.mono hst _ _ k3⟩
    | frz xs =>
      simp only [EntC]
      exact VC.mono hst xs _ _
    | mix xs hs =>
      simp only [EntC]
      intro ⟨h1, h2, h3, h4⟩
      have hbl := hb.block _ h1
      refine ⟨Nat.lt_of_lt_of_le h1 hb.size, fun o => by rw [frozen_of_block hbl]; exact h2 o, fun i x hx => ?_, fun i hi => by rw [cell_of_block hbl]; exact h4 i hi⟩
      obtain ⟨v, k1, k2, k3⟩ := h3 i x hx
      exact ⟨v, by rw [cell_of_block hbl]; exact k1, k2, V0.mono hst _ _ k3⟩
    | tok e =>
      simp only [EntC]
      intro h i hi
      obtain ⟨⟨v, k1⟩, k2⟩ := h i hi
      have hlt : (Γ.φ p).blk < Γ.w.heap.size := by
        rw [World.cell?] at k1
        have : (Γ.w.heap[(Γ.φ p).blk]?).isSome := by
          cases hb : Γ.w.heap[(Γ.φ p).blk]? with
          | none => simp only [hb] at k1; cases k1
          | some _ => rfl
        simpa using this
      have hbl := hb.block _ hlt
      exact ⟨⟨v, by rw [cell_of_block hbl]; exact k1⟩, by rw [frozen_of_block hbl]; exact k2⟩
  · exact ⟨hst, hb.os, hb.tape, hb.output, hb.size, fun b hlt _ => hb.block b hlt, fun b o hlt _ => cell_of_block (hb.block b hlt) o, fun b o hlt _ => frozen_of_block (hb.block b hlt) o, fun b o h => .inl h, fun p b o h => .inl ⟨p, h⟩, fun _ => Nat.le_refl _,
      fun _ _ xs _ h => ⟨⟨xs, h, rfl⟩, rfl⟩, fun _ _ _ _ h => ⟨h, rfl⟩⟩

theorem prim_plain {f : FuncId} {as1 : List Arg} {r : AV} {os : List (List AV)} (hr : ∀ (j : Nat) (a : Arg), as1[j]? = some a → a.mut = false)
    (h : ∀ (Γ : G) (vs : List Value), Inv Γ → ArgOk Γ as1 vs → Calls P f vs.toArray Γ.w fun e w' => ∃ v, e = .returned v ∧ V0 Γ.S w' r v ∧ Below Γ.w.heap.size Γ.w w') :
    ∀ (Γ : G) (vs : List Value), Inv Γ → ArgOk Γ as1 vs → Calls P f vs.toArray Γ.w fun e w' => ∃ v Γ', e = .returned v ∧ Γ'.w = w' ∧ Inv Γ' ∧ Ext Γ Γ' ∧ FinOk Γ' as1 (.tree r) os v := fun Γ vs hI hA =>
  (h Γ vs hI hA).mono fun e w' ⟨v, he, hv, hb⟩ => ⟨v, { Γ with w := w' }, he, rfl, (hI.below hb).1, (hI.below hb).2, ⟨fun j a ha hm => (by rw [hr j a ha] at hm; cases hm), hv⟩⟩

def strsOf : List AV → Option (List (List UInt8))
  | [] => some []
  | .str s :: r => (strsOf r).map (s :: ·)
  | _ => none
def joinP : List Arg → Option Out
  | [.tree (.sl xs len _), .tree (.str sep)] => (strsOf xs).bind fun ss => if len = ss.length ∧ (sep.intercalate ss).length ≤ 140737488355328 ∧ ss.length ≤ 140737488355328 then some (.tree (.str (sep.intercalate ss)), [[], []]) else none
  | _ => none
structure JoinC (P : Program) (f : FuncId) : Prop where
  here : ∃ fn c, P.funcs[f]? = some fn ∧ fn.name ≠ "runtime.NumGoroutine" ∧ fn.body = some c
  empty : ∀ (a : Option Addr) (c : Nat) (sep : ByteArray) (w : World), Calls P f #[.slice a 0 c, .string sep] w fun e w' => e = .returned (.string ⟨#[]⟩) ∧ w' = w
  full : ∀ (bk o c : Nat) (xs : List ByteArray) (sep : ByteArray) (w : World), (∀ (j : Nat) x, xs[j]? = some x → w.cell? ⟨bk, o + j, none⟩ = some (.string x)) → bk < w.heap.size → xs.length ≤ 140737488355328 → xs.length ≤ c →
    (sep.data.toList.intercalate (xs.map (·.data.toList))).length ≤ 140737488355328 →
    Calls P f #[.slice (some ⟨bk, o, none⟩) xs.length c, .string sep] w fun e w' => e = .returned (.string ⟨(sep.data.toList.intercalate (xs.map (·.data.toList))).toArray⟩) ∧ Below w.heap.size w w'
theorem strsOf_cells {S : Nat → Nat → Prop} {w : World} {b : Nat} : ∀ (xs : List AV) (ss : List (List UInt8)) (o : Nat), strsOf xs = some ss → VC S w xs b o → ∀ (j : Nat) (x : ByteArray), (ss.map fun s => (⟨s.toArray⟩ : ByteArray))[j]? = some x → S b (o + j) ∧ w.cell? ⟨b, o + j, none⟩ = some (.string x)
  | [], ss, o, h, _ => by cases h; simp
  | x :: xs, ss, o, h, hc => by
    unfold strsOf at h
    split at h
    · rename_i heq; cases heq
    · rename_i s r heq
      cases heq
      rw [Option.map_eq_some_iff] at h
      obtain ⟨ss', h1, rfl⟩ := h
      simp only [VC, V0] at hc
      obtain ⟨hS, ⟨v, hv, _, rfl⟩, hr⟩ := hc
      intro j y hj
      cases j with
      | zero => simp at hj; subst hj; exact ⟨hS, hv⟩
      | succ j =>
        have := strsOf_cells xs ss' (o + 1) h1 hr j y (by simpa using hj)
        rw [show o + (j + 1) = o + 1 + j by omega]
        exact this
    · cases h
theorem join_ok {f : FuncId} (hJ : JoinC P f) {as1 : List Arg} {r : Res} {os : List (List AV)} (h : joinP as1 = some (r, os)) : (∃ fn c, P.funcs[f]? = some fn ∧ fn.name ≠ "runtime.NumGoroutine" ∧ fn.body = some c) ∧ ∀ (Γ : G) (vs : List Value), Inv Γ → ArgOk Γ as1 vs →
    Calls P f vs.toArray Γ.w fun e w' => ∃ v Γ', e = .returned v ∧ Γ'.w = w' ∧ Inv Γ' ∧ Ext Γ Γ' ∧ FinOk Γ' as1 r os v := by
  refine ⟨hJ.here, ?_⟩
  unfold joinP at h
  split at h
  · rename_i xs len g sep
    rw [Option.bind_eq_some_iff] at h
    obtain ⟨ss, h1, h2⟩ := h
    split at h2
    · rename_i hc
      obtain ⟨hlen, hj, hn⟩ := hc
      cases h2
      refine prim_plain (fun j a ha => by match j, ha with | 0, ha => cases ha; rfl | 1, ha => cases ha; rfl) fun Γ vs hI hA => ?_
      have hl := hA.len
      obtain ⟨v0, v1, rfl⟩ : ∃ v0 v1, vs = [v0, v1] := by
        match vs, hl with
        | [v0, v1], _ => exact ⟨v0, v1, rfl⟩
      have k0 := hA.val 0 v0 rfl
      have k1 := hA.val 1 v1 rfl
      have k0 : V Γ (.sl xs len g) v0 := k0
      have k1 : V Γ (.str sep) v1 := k1
      have k0 : V0 Γ.S Γ.w (.sl xs len .loose) v0 := by
        cases g with
        | tok p t => exact k0.1
        | _ =>
          have k0 : V0 Γ.S Γ.w (.sl xs len _) v0 := k0
          simp only [V0] at k0 ⊢
          obtain ⟨a, cap, hv, hcap, _, _, hr⟩ := k0
          exact ⟨a, cap, hv, hcap, (fun h => by cases h), ⟨rfl, (fun h => by cases h)⟩, hr⟩
      have k1 : V0 Γ.S Γ.w (.str sep) v1 := k1
      simp only [V0] at k0 k1
      obtain ⟨a, cap, rfl, hcap, _, _, hr⟩ := k0
      subst k1
      rcases hr with ⟨rfl, h0, _⟩ | ⟨b, o, rfl, hc⟩
      · cases h1
        subst h0
        refine (hJ.empty a cap ⟨sep.toArray⟩ Γ.w).mono fun e w' ⟨he, hw⟩ => ⟨_, he, ?_, hw ▸ Below.refl _ _⟩
        simp only [V0]; rfl
      · by_cases hss : ss = []
        · subst hss
          simp only [List.length_nil] at hlen
          subst hlen
          refine (hJ.empty _ cap ⟨sep.toArray⟩ Γ.w).mono fun e w' ⟨he, hw⟩ => ⟨_, he, ?_, hw ▸ Below.refl _ _⟩
          simp only [V0]; rfl
        · have hcells := strsOf_cells xs ss o h1 hc
          have hlt : b < Γ.w.heap.size := by
            have h0 : 0 < ss.length := List.length_pos_iff.mpr hss
            have := (hcells 0 _ (by rw [List.getElem?_map, List.getElem?_eq_getElem h0]; rfl)).1
            exact (hI.stay _ _ this).1
          have hm : (ss.map fun s => (⟨s.toArray⟩ : ByteArray)).map (·.data.toList) = ss := by
            rw [List.map_map]
            exact (List.map_congr_left fun s _ => by simp).trans (List.map_id ss)
          have key := hJ.full b o cap (ss.map fun s => (⟨s.toArray⟩ : ByteArray)) ⟨sep.toArray⟩ Γ.w (fun j x hx => (hcells j x hx).2) hlt (by rw [List.length_map]; exact hn) (by rw [List.length_map]; omega) (by rw [hm]; simpa using hj)
          rw [hm, List.length_map, ← hlen] at key
          refine key.mono fun e w' ⟨he, hb⟩ => ⟨_, he, ?_, hb⟩
          simp only [V0]
    · cases h2
  · cases h
end
end Go.Ab

/- What term.List makes of a row of terms, as trees. Definitions only. -/
namespace Go.Ab
def chunk (xs : List AV) (i : Nat) : List AV := (xs.drop (i * 6)).take 6
def consV (t u : List AV) : List AV := [.int .i64 4, .bool false, .sl [] 0 .nil, .str [], .int .i64 0, .sl (t ++ u) 2 .tight]
def lstN (xs : List AV) : Nat → List AV → List AV
  | 0, ys => ys
  | n + 1, ys => lstN xs n (consV (chunk xs n) ys)
def listP : List Arg → Option Out
  | [.tree (.sl xs len _), .tree (.agg ys)] => if xs.length = len * 6 ∧ ys.length = 6 ∧ len ≤ 9223372036854775807 then some (.tree (.agg (lstN xs len ys)), [[], []]) else none
  | _ => none
theorem consV_len (t u : List AV) : (consV t u).length = 6 := rfl
theorem chunk_len {xs : List AV} {len i : Nat} (h : xs.length = len * 6) (hi : i < len) : (chunk xs i).length = 6 := by
  have h1 : (i + 1) * 6 ≤ len * 6 := Nat.mul_le_mul_right 6 hi
  simp only [chunk, List.length_take, List.length_drop]
  omega
def downTo : Nat → List Nat
  | 0 => []
  | n + 1 => n :: downTo n
theorem fold_down (xs : List AV) : ∀ (n : Nat) (ys : List AV), (downTo n).foldl (fun acc i => consV (chunk xs i) acc) ys = lstN xs n ys
  | 0, _ => rfl
  | n + 1, ys => by simp only [downTo, List.foldl_cons, lstN]; exact fold_down xs n _
end Go.Ab

/- The equations of the abstract run put together, for a simplifier. No conditions. -/
namespace Go.Ab
theorem simD : type_of% (And.intro @zaa (And.intro @zab (And.intro @zac (And.intro @zad (And.intro @zae (And.intro @zaf (And.intro @zag (And.intro @zah (And.intro @zai (And.intro @zaj (And.intro @zak (And.intro @zal (And.intro @zam (And.intro @zan (And.intro @zao (And.intro @zap (And.intro @zaq (And.intro @zar (And.intro @zas (And.intro @zat (And.intro @zau (And.intro @zav (And.intro @zaw (And.intro @zax (And.intro @zay (And.intro @zaz (And.intro @zba (And.intro @zbb (And.intro @zbc (And.intro @zbd (And.intro @zbe (And.intro @zbf (And.intro @zbg (And.intro @zbh (And.intro @zbi (And.intro @zbj (And.intro @zbk (And.intro @zbl (And.intro @zbm (And.intro @zbn (And.intro @zbp (And.intro @zbr (And.intro @zbs (And.intro @zbq (And.intro @Bool.or_self (And.intro @Bool.or_false (And.intro @Bool.or_true (And.intro @Bool.and_true (And.intro @Bool.and_false (And.intro @Bool.true_and (And.intro @Bool.false_and (And.intro @Option.isNone_none.{0} (And.intro @Option.isNone_some.{0} (And.intro @Option.isSome_some.{0} (And.intro @Option.isSome_none.{0} (And.intro @zbt (And.intro @zbu (And.intro @zbv (And.intro @zbw (And.intro @zbx (And.intro @zby (And.intro @zbz (And.intro @zca (And.intro @zcb (And.intro @zcc (And.intro @zcd (And.intro @zce (And.intro @zcf (And.intro @zcg (And.intro @zch (And.intro @zcj (And.intro @zck (And.intro @zcn (And.intro @zco (And.intro @zcq (And.intro @zcr (And.intro @zcs (And.intro @zct (And.intro @zcu (And.intro @zcv (And.intro @zcw (And.intro @zcx (And.intro @zcy (And.intro @zcz (And.intro @zda (And.intro @zdb (And.intro @zdc (And.intro @zdd (And.intro @zde (And.intro @zdf (And.intro @zdg (And.intro @zdh (And.intro @zdi (And.intro @zdj (And.intro @zdk (And.intro @zdl (And.intro @zdm (And.intro @zdn (And.intro @zdo (And.intro @zdp (And.intro @zdq (And.intro @zdr (And.intro @zds (And.intro @zdt (And.intro @zdu (And.intro @zdv (And.intro @zdw (And.intro @Option.getD_some.{0} (And.intro @Option.getD_none.{0} (And.intro @zfd (And.intro @zfe (And.intro @zff (And.intro @zfg (And.intro @zfh (And.intro @zfi (And.intro @zfj (And.intro @zfk (And.intro @Option.map_some.{0,0} (And.intro @Option.map_none.{0,0} (And.intro @Option.bind_some.{0,0} (And.intro @List.map_cons.{0,0} (And.intro @List.map_nil.{0,0} (And.intro @List.cons_append.{0} (And.intro @List.nil_append.{0} (And.intro @decide_true (And.intro @decide_false (And.intro @Bool.true_eq_false (@Bool.false_eq_true)))))))))))))))))))))))))))))))))))))))))))))))))))))))))))))))))))))))))))))))))))))))))))))))))))))))))))))))))))))))))))))))) := And.intro @zaa (And.intro @zab (And.intro @zac (And.intro @zad (And.intro @zae (And.intro @zaf (And.intro @zag (And.intro @zah (And.intro @zai (And.intro @zaj (And.intro @zak (And.intro @zal (And.intro @zam (And.intro @zan (And.intro @zao (And.intro @zap (And.intro @zaq (And.intro @zar (And.intro @zas (And.intro @zat (And.intro @zau (And.intro @zav (And.intro @zaw (And.intro @zax (And.intro @zay (And.intro @zaz (And.intro @zba (And.intro @zbb (And.intro @zbc (And.intro @zbd (And.intro @zbe (And.intro @zbf (And.intro @zbg (And.intro @zbh (And.intro @zbi (And.intro @zbj (And.intro @zbk (And.intro @zbl (And.intro @zbm (And.intro @zbn (And.intro @zbp (And.intro @zbr (And.intro @zbs (And.intro @zbq (And.intro @Bool.or_self (And.intro @Bool.or_false (And.intro @Bool.or_true (And.intro @Bool.and_true (And.intro @Bool.and_false (And.intro @Bool.true_and (And.intro @Bool.false_and (And.intro @Option.isNone_none.{0} (And.intro @Option.isNone_some.{0} (And.intro @Option.isSome_some.{0} (And.intro @Option.isSome_none.{0} (And.intro @zbt (And.intro @zbu (And.intro @zbv (And.intro @zbw (And.intro @zbx (And.intro @zby (And.intro @zbz (And.intro @zca (And.intro @zcb (And.intro @zcc (And.intro @zcd (And.intro @zce (And.intro @zcf (And.intro @zcg (And.intro @zch (And.intro @zcj (And.intro @zck (And.intro @zcn (And.intro @zco (And.intro @zcq (And.intro @zcr (And.intro @zcs (And.intro @zct (And.intro @zcu (And.intro @zcv (And.intro @zcw (And.intro @zcx (And.intro @zcy (And.intro @zcz (And.intro @zda (And.intro @zdb (And.intro @zdc (And.intro @zdd (And.intro @zde (And.intro @zdf (And.intro @zdg (And.intro @zdh (And.intro @zdi (And.intro @zdj (And.intro @zdk (And.intro @zdl (And.intro @zdm (And.intro @zdn (And.intro @zdo (And.intro @zdp (And.intro @zdq (And.intro @zdr (And.intro @zds (And.intro @zdt (And.intro @zdu (And.intro @zdv (And.intro @zdw (And.intro @Option.getD_some.{0} (And.intro @Option.getD_none.{0} (And.intro @zfd (And.intro @zfe (And.intro @zff (And.intro @zfg (And.intro @zfh (And.intro @zfi (And.intro @zfj (And.intro @zfk (And.intro @Option.map_some.{0,0} (And.intro @Option.map_none.{0,0} (And.intro @Option.bind_some.{0,0} (And.intro @List.map_cons.{0,0} (And.intro @List.map_nil.{0,0} (And.intro @List.cons_append.{0} (And.intro @List.nil_append.{0} (And.intro @decide_true (And.intro @decide_false (And.intro @Bool.true_eq_false (@Bool.false_eq_true)))))))))))))))))))))))))))))))))))))))))))))))))))))))))))))))))))))))))))))))))))))))))))))))))))))))))))))))))))))))))))))))
theorem simC : type_of% (And.intro simD @zcl) := And.intro simD @zcl
theorem simB : type_of% (And.intro simC (And.intro @zci (And.intro @zcp @zcm))) := And.intro simC (And.intro @zci (And.intro @zcp @zcm))
theorem simA : type_of% (And.intro @env0.eq_1 (And.intro @List.getElem?_cons_zero.{0} @List.getElem?_cons_succ.{0})) := And.intro @env0.eq_1 (And.intro @List.getElem?_cons_zero.{0} @List.getElem?_cons_succ.{0})
end Go.Ab

/- How the abstract run takes this program's functions; what is known of functions that are not run: strings.Join, term.List. No conditions. -/
namespace Go.Ab
def prim0 (f : FuncId) (xs : List Arg) : Option Out := if f == 28 then joinP xs else if f == 18 then listP xs else none
def cfg0 : Cfg := ⟨fun _ _ => false, fun _ => false, prim0, fun _ => false⟩
theorem own0 (p : String) : cfg0.ownAt p = false := rfl
theorem zbo (f : FuncId) : cfg0.keep f = false := rfl
theorem lin0 (f : FuncId) (j : Nat) : cfg0.lin f j = false := rfl
end Go.Ab

/- Lists of limbs as trees, and the operations upon them. Conditions: lengths and places in range. -/
namespace Go.Ab
open Go.Proofs
def encC (l : List Nat) : List AV := l.map fun (x : Nat) => .int .u32 (x : Int)
inductive Gk where
  | t | l | n
def gr : Gk → Grip
  | .t => .tight
  | .l => .loose
  | .n => .nil
def encL (b : Gk) (l : List Nat) : AV := .sl (encC l) l.length (gr b)
theorem encC_len (l : List Nat) : (encC l).length = l.length := by simp [encC]
theorem encC_app (l m : List Nat) : encC (l ++ m) = encC l ++ encC m := by simp [encC]
theorem encC_get (l : List Nat) (i : Nat) (h : i < l.length) : (encC l)[i]? = some (.int .u32 ((l.getD i 0 : Nat) : Int)) := by
  simp [encC, List.getD, List.getElem?_eq_getElem h]
theorem encC_drop (l : List Nat) (i : Nat) : (encC l).drop i = encC (l.drop i) := by simp [encC]
theorem encC_take (l : List Nat) (i : Nat) : (encC l).take i = encC (l.take i) := by simp [encC]
theorem encC_set (l : List Nat) (i x : Nat) : (encC l).set i (.int .u32 (x : Int)) = encC (l.set i x) := by simp [encC, List.map_set]

theorem tk3 : tkOf Tryd.prog 3 = .int .i64 := by kernel_rfl
theorem tk4 : tkOf Tryd.prog 4 = .bool := by kernel_rfl
theorem tk22 : tkOf Tryd.prog 23 = .sl 50 := by kernel_rfl
theorem tk31 : tkOf Tryd.prog 50 = .int .u32 := by kernel_rfl
theorem tk40 : tkOf Tryd.prog 111 = .int .u64 := by kernel_rfl
theorem esz31 : esz Tryd.prog 50 = some 1 := by kernel_rfl
theorem by31 : byOf Tryd.prog 50 = 4 := by kernel_rfl
theorem sh31 : shOf Tryd.prog 50 = some (false, 1) := by kernel_rfl
theorem zero31 : zeroOf Tryd.prog 50 = some [.int .u32 0] := by kernel_rfl

theorem zdx (s : St) (b : Gk) (l : List Nat) : lenA Tryd.prog 23 s (encL b l) = some (.int .i64 (l.length : Int)) := by
  simp only [lenA, tk22, encL]
theorem zdy (s : St) (g : Grip) (xs : List AV) (n : Nat) : lenA Tryd.prog 23 s (.sl xs n g) = some (.int .i64 (n : Int)) := by
  simp only [lenA, tk22]
theorem ia22 (s : St) (b : Gk) (l : List Nat) (k : IntKind) (i : Int) (h0 : 0 ≤ i) (h : i < l.length) : indexAddrA Tryd.prog 23 s (encL b l) (.int k i) = some (.rptr (encC (l.drop i.toNat))) := by
  simp only [indexAddrA, tk22, encL, esz31, Option.bind_some, h0, h, and_self, if_true, Nat.mul_one, encC_drop]
theorem ld31 (s : St) (l : List Nat) (i : Nat) (h : i < l.length) : loadA Tryd.prog 50 s (.rptr (encC (l.drop i))) = some (.int .u32 ((l.getD i 0 : Nat) : Int)) := by
  simp only [loadA, partA, sh31]
  rw [encC_get _ _ (by simp; omega)]
  simp [List.getD, List.getElem?_drop]
theorem zef (s : St) (x : Nat) (h : x < 4294967296) : convA Tryd.prog 50 111 s (.int .u32 (x : Int)) = some (.int .u64 (x : Int)) := by
  simp only [convA, tk31, tk40, IntKind.wrap, IntKind.bits, IntKind.signed]
  congr 2
  simp; omega
theorem zeg (s : St) (x : Nat) : convA Tryd.prog 111 50 s (.int .u64 (x : Int)) = some (.int .u32 ((x % 4294967296 : Nat) : Int)) := by
  simp only [convA, tk31, tk40, IntKind.wrap, IntKind.bits, IntKind.signed]
  congr 2

section
variable (P : Program) (t : TypeId)
theorem i64_wrap (a : Int) (h : -9223372036854775808 ≤ a) (h' : a ≤ 9223372036854775807) : IntKind.i64.wrap a = a := by
  simp [IntKind.wrap, IntKind.bits, IntKind.signed]
  split <;> omega
theorem i_add (a b : Int) (h : -9223372036854775808 ≤ a + b) (h' : a + b ≤ 9223372036854775807) : binA P .add t (.int .i64 a) (.int .i64 b) = some (.int .i64 (a + b)) := by
  simp [binA, intA, i64_wrap _ h h']
theorem i_sub (a b : Int) (h : -9223372036854775808 ≤ a - b) (h' : a - b ≤ 9223372036854775807) : binA P .sub t (.int .i64 a) (.int .i64 b) = some (.int .i64 (a - b)) := by
  simp [binA, intA, i64_wrap _ h h']
theorem i_mul (a b : Int) (h : -9223372036854775808 ≤ a * b) (h' : a * b ≤ 9223372036854775807) : binA P .mul t (.int .i64 a) (.int .i64 b) = some (.int .i64 (a * b)) := by
  simp [binA, intA, i64_wrap _ h h']
theorem zdz (k : IntKind) (a b : Int) : binA P .lss t (.int k a) (.int k b) = some (.bool (decide (a < b))) := by simp [binA, intA]
theorem zea (k : IntKind) (a b : Int) : binA P .leq t (.int k a) (.int k b) = some (.bool (decide (a ≤ b))) := by simp [binA, intA]
theorem zeb (k : IntKind) (a b : Int) : binA P .gtr t (.int k a) (.int k b) = some (.bool (decide (a > b))) := by simp [binA, intA]
theorem zec (k : IntKind) (a b : Int) : binA P .geq t (.int k a) (.int k b) = some (.bool (decide (a ≥ b))) := by simp [binA, intA]
theorem zed (k : IntKind) (a b : Int) : binA P .eql t (.int k a) (.int k b) = some (.bool (a == b)) := by simp [binA, intA]
theorem zee (k : IntKind) (a b : Int) : binA P .neq t (.int k a) (.int k b) = some (.bool (a != b)) := by simp [binA, intA]
theorem u64_wrap (x : Nat) : IntKind.u64.wrap (x : Int) = ((x % 18446744073709551616 : Nat) : Int) := by
  simp [IntKind.wrap, IntKind.bits, IntKind.signed]
theorem u_add (a b : Nat) : binA P .add t (.int .u64 (a : Int)) (.int .u64 (b : Int)) = some (.int .u64 (((a + b) % 18446744073709551616 : Nat) : Int)) := by
  simp only [binA, intA, if_true, ← Int.natCast_add, u64_wrap]
theorem u_sub (a b : Nat) (h : b ≤ 18446744073709551616) : binA P .sub t (.int .u64 (a : Int)) (.int .u64 (b : Int)) = some (.int .u64 (((a + (18446744073709551616 - b)) % 18446744073709551616 : Nat) : Int)) := by
  simp only [binA, intA, if_true, IntKind.wrap, IntKind.bits, IntKind.signed]
  congr 2
  simp; omega
theorem u_shr (a : Nat) (k : IntKind) (z : Int) (h : 0 ≤ z) (h' : z ≤ 64) : binA P .shr t (.int .u64 (a : Int)) (.int k z) = some (.int .u64 ((a / 2 ^ z.toNat : Nat) : Int)) := by
  simp only [binA, shA, if_neg (Int.not_lt.mpr h), IntKind.bits]
  rw [Nat.min_eq_left (by omega)]
  congr 2
  rw [Int.fdiv_eq_ediv_of_nonneg _ (by exact Int.le_of_lt (Int.pow_pos (by decide)))]
  simp
theorem u_shl (a : Nat) (k : IntKind) (z : Int) (h : 0 ≤ z) (h' : z ≤ 64) : binA P .shl t (.int .u64 (a : Int)) (.int k z) = some (.int .u64 (((a * 2 ^ z.toNat) % 18446744073709551616 : Nat) : Int)) := by
  simp only [binA, shA, if_neg (Int.not_lt.mpr h), IntKind.bits]
  rw [Nat.min_eq_left (by omega), ← u64_wrap]
  congr 3
theorem u_or (a b : Nat) (h : a < 18446744073709551616) (h' : b < 18446744073709551616) : binA P .or t (.int .u64 (a : Int)) (.int .u64 (b : Int)) = some (.int .u64 (((a ||| b) : Nat) : Int)) := by
  have h1 : (BitVec.ofInt 64 (a : Int) ||| BitVec.ofInt 64 (b : Int)).toNat = a ||| b := by
    rw [BitVec.toNat_or, BitVec.ofInt_natCast, BitVec.ofInt_natCast, BitVec.toNat_ofNat, BitVec.toNat_ofNat, Nat.mod_eq_of_lt h, Nat.mod_eq_of_lt h']
  have := Nat.or_lt_two_pow (n := 64) h h'
  show some (AV.int .u64 (IntKind.u64.wrap ((BitVec.ofInt 64 (a : Int) ||| BitVec.ofInt 64 (b : Int)).toNat : Int))) = _
  rw [h1, u64_wrap, Nat.mod_eq_of_lt this]
end
theorem simL : type_of% (And.intro @zdx (And.intro @zdy (And.intro @zdz (And.intro @zea (And.intro @zeb (And.intro @zec (And.intro @zed (And.intro @zee (And.intro @ia22 (And.intro @ld31 (And.intro @zef @zeg))))))))))) := And.intro @zdx (And.intro @zdy (And.intro @zdz (And.intro @zea (And.intro @zeb (And.intro @zec (And.intro @zed (And.intro @zee (And.intro @ia22 (And.intro @ld31 (And.intro @zef @zeg))))))))))
end Go.Ab

/- Numbers as lists of limbs: plain arithmetic, no program in sight. -/
namespace Go.Ab
abbrev B : Nat := 4294967296
def Limbs (l : List Nat) : Prop := ∀ x ∈ l, x < 4294967296
def val : List Nat → Nat
  | [] => 0
  | x :: r => x + B * val r
def digs (v : Nat) : List Nat := if _h : v = 0 then [] else (v % B) :: digs (v / B)
termination_by v
decreasing_by exact Nat.div_lt_self (by omega) (by decide)
theorem digs_0 : digs 0 = [] := by rw [digs]; simp
theorem digs_pos (v : Nat) (h : v ≠ 0) : digs v = (v % B) :: digs (v / B) := by rw [digs]; simp [h]
theorem limbs_nil : Limbs [] := by intro x h; cases h
theorem limbs_cons {x : Nat} {l : List Nat} (h : x < B) (hl : Limbs l) : Limbs (x :: l) := by
  intro y hy
  rcases List.mem_cons.mp hy with rfl | hy
  · exact h
  · exact hl y hy
theorem Limbs.tail {x : Nat} {l : List Nat} (h : Limbs (x :: l)) : Limbs l := fun y hy => h y (List.mem_cons_of_mem _ hy)
theorem Limbs.head {x : Nat} {l : List Nat} (h : Limbs (x :: l)) : x < B := h x (List.mem_cons_self ..)
theorem Limbs.app {l m : List Nat} (h : Limbs l) (h' : Limbs m) : Limbs (l ++ m) := fun x hx => (List.mem_append.mp hx).elim (h x) (h' x)
theorem Limbs.take {l : List Nat} (h : Limbs l) (k : Nat) : Limbs (l.take k) := fun x hx => h x (List.mem_of_mem_take hx)
theorem Limbs.drop {l : List Nat} (h : Limbs l) (k : Nat) : Limbs (l.drop k) := fun x hx => h x (List.mem_of_mem_drop hx)
theorem limbs_one {x : Nat} (h : x < B) : Limbs [x] := limbs_cons h limbs_nil
theorem limbs_digs (v : Nat) : Limbs (digs v) := by
  induction v using Nat.strongRecOn with
  | _ v ih =>
    by_cases h : v = 0
    · subst h; rw [digs_0]; exact limbs_nil
    · rw [digs_pos v h]
      exact limbs_cons (Nat.mod_lt _ (by decide)) (ih _ (Nat.div_lt_self (by omega) (by decide)))
theorem val_digs (v : Nat) : val (digs v) = v := by
  induction v using Nat.strongRecOn with
  | _ v ih =>
    by_cases h : v = 0
    · subst h; rw [digs_0]; rfl
    · rw [digs_pos v h, val, ih _ (Nat.div_lt_self (by omega) (by decide))]
      exact Nat.mod_add_div v B
theorem val_app (l m : List Nat) : val (l ++ m) = val l + B ^ l.length * val m := by
  induction l with
  | nil => simp [val]
  | cons x l ih =>
    simp only [List.cons_append, val, ih, List.length_cons, Nat.pow_succ]
    rw [Nat.mul_add, Nat.add_assoc, Nat.mul_comm (B ^ l.length) B, Nat.mul_assoc]
theorem val_lt (l : List Nat) (h : Limbs l) : val l < B ^ l.length := by
  induction l with
  | nil => simp [val]
  | cons x l ih =>
    have h1 := ih h.tail
    have h2 := h.head
    simp only [val, List.length_cons, Nat.pow_succ]
    have : B * (val l + 1) ≤ B * B ^ l.length := Nat.mul_le_mul_left _ h1
    rw [Nat.mul_comm (B ^ l.length) B]
    have e : B * (val l + 1) = B * val l + B := by rw [Nat.mul_add, Nat.mul_one]
    omega
theorem digs_val (l : List Nat) (h : Limbs l) (hc : ∀ x, l.getLast? = some x → x ≠ 0) : digs (val l) = l := by
  induction l with
  | nil => exact digs_0
  | cons x l ih =>
    have hx := h.head
    have h2 : (x + B * val l) / B = val l := by
      rw [Nat.add_mul_div_left _ _ (by decide), Nat.div_eq_of_lt hx, Nat.zero_add]
    have h1 : (x + B * val l) % B = x := by
      rw [Nat.add_mul_mod_self_left, Nat.mod_eq_of_lt hx]
    have hne : x + B * val l ≠ 0 := by
      cases l with
      | nil =>
        have := hc x rfl
        omega
      | cons y l =>
        intro h0
        have hv : val (y :: l) = 0 := by
          rcases Nat.eq_zero_or_pos (val (y :: l)) with h | h
          · exact h
          · have : B * 1 ≤ B * val (y :: l) := Nat.mul_le_mul_left _ h
            simp only [B] at *
            omega
        have := ih h.tail (by intro z hz; exact hc z (by simpa [List.getLast?_cons] using hz))
        rw [hv, digs_0] at this
        cases this
    show digs (x + B * val l) = x :: l
    rw [digs_pos _ hne, h1, h2]
    cases l with
    | nil => simp [val, digs_0]
    | cons y l => rw [ih h.tail (by intro z hz; exact hc z (by simpa [List.getLast?_cons] using hz))]
theorem digs_len (v k : Nat) (h : v < B ^ k) : (digs v).length ≤ k := by
  induction k generalizing v with
  | zero => have : v = 0 := by simpa using h
            subst this; rw [digs_0]; simp
  | succ k ih =>
    by_cases h0 : v = 0
    · subst h0; rw [digs_0]; simp
    · rw [digs_pos v h0, List.length_cons]
      have : v / B < B ^ k := by
        rw [Nat.div_lt_iff_lt_mul (by decide)]
        rwa [Nat.pow_succ] at h
      have := ih _ this
      omega
theorem val_rep (k : Nat) : val (List.replicate k 0) = 0 := by
  induction k with
  | zero => rfl
  | succ k ih => simp [List.replicate_succ, val, ih]
theorem val_take_succ (l : List Nat) (k : Nat) (h : k < l.length) : val (l.take (k + 1)) = val (l.take k) + B ^ k * l.getD k 0 := by
  rw [List.take_succ_eq_append_getElem h, val_app]
  simp [val, Nat.min_eq_left (Nat.le_of_lt h), List.getD, List.getElem?_eq_getElem h]
theorem getD_of_ge (l : List Nat) (k : Nat) (h : l.length ≤ k) : l.getD k 0 = 0 := by
  rw [List.getD_eq_getElem?_getD, List.getElem?_eq_none h]; rfl
theorem val_take_succ' (l : List Nat) (k : Nat) : val (l.take (k + 1)) = val (l.take k) + B ^ k * l.getD k 0 := by
  by_cases h : k < l.length
  · exact val_take_succ l k h
  · rw [getD_of_ge l k (by omega), List.take_of_length_le (by omega), List.take_of_length_le (by omega)]
    simp
end Go.Ab

/- Comparing numbers by limbs from the top: plain arithmetic. -/
namespace Go.Ab
def cmpZ (x y : Nat) : Int := if x < y then -1 else if y < x then 1 else 0
theorem cmpZ_self (x : Nat) : cmpZ x x = 0 := by simp [cmpZ]
theorem cmpZ_eq0 (x y : Nat) : cmpZ x y = 0 ↔ x = y := by
  unfold cmpZ
  split
  · constructor
    · intro h; cases h
    · omega
  · split
    · constructor
      · intro h; cases h
      · omega
    · constructor
      · omega
      · intro; rfl
theorem lt_top (C x y p q H : Nat) (hx : x < C) (hpq : p < q) : x + C * p + H < y + C * q + H := by
  have h := Nat.mul_le_mul_left C (Nat.succ_le_of_lt hpq)
  have e : C * (p + 1) = C * p + C := by rw [Nat.mul_add, Nat.mul_one]
  simp only [Nat.succ_eq_add_one] at h
  omega
theorem val_take_lt (l : List Nat) (hl : Limbs l) (k : Nat) : val (l.take k) < B ^ k := by
  have h := val_lt _ (hl.take k)
  have h2 : (l.take k).length ≤ k := by rw [List.length_take]; omega
  exact Nat.lt_of_lt_of_le h (Nat.pow_le_pow_right (by decide) h2)
def Alike (a b : List Nat) (k : Nat) : Prop := ∃ h, val a = val (a.take k) + B ^ k * h ∧ val b = val (b.take k) + B ^ k * h
theorem alike_top (a b : List Nat) (k : Nat) (ha : a.length ≤ k) (hb : b.length ≤ k) : Alike a b k := ⟨0, by rw [List.take_of_length_le ha]; simp, by rw [List.take_of_length_le hb]; simp⟩
theorem alike_down (a b : List Nat) (k : Nat) (h : Alike a b (k + 1)) (he : a.getD k 0 = b.getD k 0) : Alike a b k := by
  obtain ⟨u, h1, h2⟩ := h
  refine ⟨a.getD k 0 + B * u, ?_, ?_⟩
  · rw [h1, val_take_succ', Nat.mul_add, Nat.pow_succ, Nat.mul_assoc, Nat.add_assoc]
  · rw [h2, val_take_succ', Nat.mul_add, Nat.pow_succ, Nat.mul_assoc, Nat.add_assoc, he]
theorem alike_ne (a b : List Nat) (ha : Limbs a) (hb : Limbs b) (k : Nat) (h : Alike a b (k + 1)) (he : a.getD k 0 ≠ b.getD k 0) : cmpZ (val a) (val b) = cmpZ (a.getD k 0) (b.getD k 0) := by
  obtain ⟨u, h1, h2⟩ := h
  rw [val_take_succ'] at h1 h2
  rcases Nat.lt_or_gt_of_ne he with hh | hh
  · have := lt_top (B ^ k) (val (a.take k)) (val (b.take k)) _ _ (B ^ (k + 1) * u) (val_take_lt a ha k) hh
    rw [← h1, ← h2] at this
    simp only [cmpZ, this, hh, if_true]
  · have := lt_top (B ^ k) (val (b.take k)) (val (a.take k)) _ _ (B ^ (k + 1) * u) (val_take_lt b hb k) hh
    rw [← h1, ← h2] at this
    have h3 : ¬ val a < val b := by omega
    have h4 : ¬ a.getD k 0 < b.getD k 0 := by omega
    simp only [cmpZ, this, hh, h3, h4, if_true, if_false]
theorem alike_0 (a b : List Nat) (h : Alike a b 0) : val a = val b := by
  obtain ⟨u, h1, h2⟩ := h
  simp [val] at h1 h2
  omega
def blen (v : Nat) : Nat := if v = 0 then 0 else Nat.log2 v + 1
end Go.Ab

/- The program's number lists: reading, comparing, what their functions compute. Conditions: lengths and places in range. -/
namespace Go.Ab
open Go.Proofs
set_option maxRecDepth 100000
set_option linter.unusedSimpArgs false

theorem getD_lt (l : List Nat) (hl : ∀ x ∈ l, x < 4294967296) (i : Nat) : l.getD i 0 < 4294967296 := by
  by_cases h : i < l.length
  · rw [List.getD_eq_getElem?_getD, List.getElem?_eq_getElem h]
    exact hl _ (List.getElem_mem h)
  · rw [List.getD_eq_getElem?_getD, List.getElem?_eq_none (by omega)]; decide

theorem at_eq (n d : Nat) (b : Gk) (l : List Nat) (hl : ∀ x ∈ l, x < 4294967296) (i : Int) (hi : 0 ≤ i) : evalFn Tryd.prog cfg0 n (d+1) 93 [.tree (encL b l), .tree (.int .i64 i)] = some (.tree (.int .u64 ((l.getD i.toNat 0 : Nat) : Int)), [[],[]]) := by
  rw [evalFn_go _ Tryd.func93 (by unfold Tryd.f93; rfl) (by unfold Tryd.f93; decide) (Nat.le_of_ble_eq_true (by unfold Tryd.f93; rfl)) (by kernel_rfl)]
  have hx := getD_lt l hl i.toNat
  by_cases h : i < l.length
  · have h' : i.toNat < l.length := by omega
    simp only [simB, zbo, Nat.reduceBEq, own0, ↓reduceIte, Nat.reduceEqDiff, Nat.reduceAdd, simA, simL, h, hi, h', hx]
    rfl
  · have hx : l.getD i.toNat 0 = 0 := by
      rw [List.getD_eq_getElem?_getD, List.getElem?_eq_none (by omega)]; rfl
    simp only [simB, zbo, Nat.reduceBEq, own0, ↓reduceIte, Nat.reduceEqDiff, Nat.reduceAdd, simA, simL, h, hx]
    rfl

theorem nan_eq (n d : Nat) (x : Nat) : evalFn Tryd.prog cfg0 n (d+1) 116 [.tree (.int .u64 (x : Int))] = some (.tree (.bool false), [[]]) := by
  rw [evalFn_go _ Tryd.func116 (by unfold Tryd.f116; rfl) (by unfold Tryd.f116; decide) (Nat.le_of_ble_eq_true (by unfold Tryd.f116; rfl)) (by kernel_rfl)]
  simp only [simB, zbo, Nat.reduceBEq, own0, ↓reduceIte, Nat.reduceEqDiff, Nat.reduceAdd, simA, simL, bne_self_eq_false]
  rfl

theorem argA_int (cfg : Cfg) (f : FuncId) (s : St) (j : Nat) (k : IntKind) (z : Int) : argA cfg f s j (.int k z) = some (.tree (.int k z)) := rfl
theorem argA_L (cfg : Cfg) (f : FuncId) (s : St) (j : Nat) (b : Gk) (l : List Nat) : argA cfg f s j (encL b l) = some (.tree (encL b l)) := by
  cases b <;> rfl
theorem callA_int1 (call : FuncId → List Arg → Option Out) (d : Nat) (s : St) (f : FuncId) (k : IntKind) (z : Int) (v : AV) (hc : call f [.tree (.int k z)] = some (.tree v, [[]])) : callA cfg0 call d s f [.int k z] = some (v, s) := by
  simp [callA, argsA, argA, givesL, lendsL, givesOf, lendsOf, hc, backA, resA]
theorem callA_int2 (call : FuncId → List Arg → Option Out) (d : Nat) (s : St) (f : FuncId) (k : IntKind) (z : Int) (k' : IntKind) (z' : Int) (v : AV) (hc : call f [.tree (.int k z), .tree (.int k' z')] = some (.tree v, [[], []])) : callA cfg0 call d s f [.int k z, .int k' z'] = some (v, s) := by
  simp [callA, argsA, argA, givesL, lendsL, givesOf, lendsOf, hc, backA, resA]
theorem gives_L (b : Gk) (l : List Nat) (a : Arg) : givesOf (encL b l) a = none := by cases b <;> cases a <;> rfl
theorem lends_L (b : Gk) (l : List Nat) (a : Arg) : lendsOf (encL b l) a = none := by cases b <;> cases a <;> rfl
theorem callA_L1 (call : FuncId → List Arg → Option Out) (d : Nat) (s : St) (f : FuncId) (b : Gk) (l : List Nat) (v : AV) (hc : call f [.tree (encL b l)] = some (.tree v, [[]])) : callA cfg0 call d s f [encL b l] = some (v, s) := by
  simp [callA, argsA, argA_L, givesL, lendsL, gives_L, lends_L, hc, backA, resA]
theorem callA_L2 (call : FuncId → List Arg → Option Out) (d : Nat) (s : St) (f : FuncId) (b : Gk) (l : List Nat) (b' : Gk) (l' : List Nat) (v : AV) (hc : call f [.tree (encL b l), .tree (encL b' l')] = some (.tree v, [[], []])) : callA cfg0 call d s f [encL b l, encL b' l'] = some (v, s) := by
  simp [callA, argsA, argA_L, givesL, lendsL, gives_L, lends_L, hc, backA, resA]
theorem gives_int (k : IntKind) (z : Int) (a : Arg) : givesOf (.int k z) a = none := by cases a <;> rfl
theorem lends_int (k : IntKind) (z : Int) (a : Arg) : lendsOf (.int k z) a = none := by cases a <;> rfl
theorem callA_Li (call : FuncId → List Arg → Option Out) (d : Nat) (s : St) (f : FuncId) (b : Gk) (l : List Nat) (k : IntKind) (z : Int) (v : AV) (hc : call f [.tree (encL b l), .tree (.int k z)] = some (.tree v, [[], []])) : callA cfg0 call d s f [encL b l, .int k z] = some (v, s) := by
  simp [callA, argsA, argA_L, argA_int, givesL, lendsL, gives_L, lends_L, gives_int, lends_int, hc, backA, resA]

theorem compare_eq (n d : Nat) (x y : Nat) : evalFn Tryd.prog cfg0 n (d+2) 92 [.tree (.int .u64 (x : Int)), .tree (.int .u64 (y : Int))] = some (.tree (.int .i64 (cmpZ x y)), [[], []]) := by
  rw [evalFn_go _ Tryd.func92 (by unfold Tryd.f92; rfl) (by unfold Tryd.f92; decide) (Nat.le_of_ble_eq_true (by unfold Tryd.f92; rfl)) (by kernel_rfl)]
  simp only [cmpZ]
  by_cases h : x < y
  · have h' : (x : Int) < y := by omega
    simp only [simB, zbo, Nat.reduceBEq, own0, ↓reduceIte, Nat.reduceEqDiff, Nat.reduceAdd, simA, simL, callA_int1 _ _ _ _ _ _ _ (nan_eq n d _), h, h']
    rfl
  · by_cases g : y < x
    · have h' : ¬ (x : Int) < y := by omega
      have g' : (x : Int) > y := by omega
      simp only [simB, zbo, Nat.reduceBEq, own0, ↓reduceIte, Nat.reduceEqDiff, Nat.reduceAdd, simA, simL, callA_int1 _ _ _ _ _ _ _ (nan_eq n d _), h, h', g, g']
      rfl
    · have h' : ¬ (x : Int) < y := by omega
      have g' : ¬ (x : Int) > y := by omega
      simp only [simB, zbo, Nat.reduceBEq, own0, ↓reduceIte, Nat.reduceEqDiff, Nat.reduceAdd, simA, simL, callA_int1 _ _ _ _ _ _ _ (nan_eq n d _), h, h', g, g']
      rfl
end Go.Ab

/- What the program's Norm computes. Conditions: limbs in range, not too many. -/
namespace Go.Ab
open Go.Proofs
set_option maxRecDepth 100000
set_option linter.unusedSimpArgs false

def encR (v : Nat) : AV := encL (if v = 0 then .n else .l) (digs v)
def dead : St := fun _ => ⟨0, .dead⟩
theorem st0_1 (v : AV) : st0 [.tree v] = dead := by
  funext j; cases j <;> simp [st0, dead]
theorem st0_2 (v w : AV) : st0 [.tree v, .tree w] = dead := by
  funext j
  match j with
  | 0 | 1 | _ + 2 => simp [st0, dead]
theorem rep_zero (k : Nat) : rep k [AV.int .u32 0] = encC (List.replicate k 0) := by
  induction k with
  | zero => rfl
  | succ k ih => simp only [rep, List.replicate_succ, List.flatten_cons, encC, List.map_cons] at *; rw [ih]; rfl
theorem make22 (d : Nat) (s : St) (z : Int) (h : 0 ≤ z) (h' : z ≤ 2147483648) : makeA Tryd.prog 23 d s (.int .i64 z) (.int .i64 z) = some (.own d ((s d).t + 1) 0 z.toNat 1, upd s d ⟨(s d).t + 1, .buf (encC (List.replicate z.toNat 0))⟩) := by
  simp only [makeA, tk22, esz31, zero31, by31, Option.bind_some, rep_zero]
  rw [if_pos ⟨h, Int.le_refl _, h', by decide, rfl⟩]
theorem splice_enc (m l : List Nat) (k : Nat) : splice (encC m) k (encC l) = encC (m.take k ++ l ++ m.drop (k + l.length)) := by
  simp [splice, encC]
theorem copy22 (s : St) (p t : Nat) (m l : List Nat) (b : Gk) : copyA Tryd.prog #[23, 23] (upd s p ⟨t, .buf (encC m)⟩) (.own p t 0 m.length 1) (encL b l) =
    some (.int .i64 (Nat.min l.length m.length : Nat), upd (upd s p ⟨t, .buf (encC m)⟩) p ⟨t, .buf (encC (l.take m.length ++ m.drop l.length))⟩) := by
  have e1 : (#[23, 23] : Array TypeId)[0]? = some 23 := rfl
  have e2 : (#[23, 23] : Array TypeId)[1]? = some 23 := rfl
  simp only [copyA, e1, e2, Option.map_some, tk22, esz31, Option.bind_some, moreA, encL, encC_len, Nat.mul_one, if_true, zfk, ↓reduceIte]
  rw [if_pos ⟨trivial, trivial, by omega⟩]
  simp only [encC_take, splice_enc, List.take_zero, List.nil_append, Nat.zero_add]
  congr 6
  rw [List.length_take]
  congr 1
  · rw [show l.length.min m.length = min l.length m.length from rfl]
    rcases Nat.le_total l.length m.length with h | h
    · rw [Nat.min_eq_left h, List.take_of_length_le (Nat.le_refl _), List.take_of_length_le h]
    · rw [Nat.min_eq_right h]
  · rw [show l.length.min m.length = min l.length m.length from rfl]
    rcases Nat.le_total l.length m.length with h | h
    · rw [Nat.min_eq_left h, Nat.min_eq_left (Nat.le_refl _)]
    · rw [Nat.min_eq_right h, Nat.min_eq_left h, List.drop_of_length_le (Nat.le_refl _), List.drop_of_length_le h]
theorem own_ends (s : St) (np p t k : Nat) (xs : List AV) (h : k * 1 ≤ xs.length) : finish1 false np (upd s p ⟨t, .buf xs⟩) (.own p t 0 k 1) = some (.tree (.sl (xs.take k) k .loose), upd (upd s p ⟨t, .buf xs⟩) p ⟨t, .frz xs⟩) := by
  have : k ≤ xs.length := by omega
  simp [finish1, settle, zfk, this]

theorem finish_tree (k : Bool) (xs : List Arg) (t : Nat) (env : Env) (s s' : St) (v v' : AV) (os : List (List AV)) (hv : env t = v) (hf : finish1 k xs.length s v = some (.tree v', s')) (ho : outsA s' 0 xs = some os) :
    finishP Tryd.prog k xs #[.tmp t] env s = some (.tree v', os) := by
  simp only [finishP_t1, finishP_t2, finish, hv, hf, ho, Option.bind_some, Option.map_some]

theorem norm_eq (n d : Nat) (b : Gk) (l : List Nat) (hl : Limbs l) (hn : l.length < n) (hlen : l.length ≤ 1000000) : evalFn Tryd.prog cfg0 n (d+1) 80 [.tree (encL b l)] = some (.tree (encR (val l)), [[]]) := by
  rw [evalFn_go _ Tryd.func80 (by unfold Tryd.f80; rfl) (by unfold Tryd.f80; decide) (Nat.le_of_ble_eq_true (by unfold Tryd.f80; rfl)) (by kernel_rfl)]
  simp only [simB, zbo, Nat.reduceBEq, own0, ↓reduceIte, Nat.reduceEqDiff, Nat.reduceAdd, simA, simL, st0_1, den_loop]
  refine loop_ends (X := Nat) (fun k env s => env 0 = encL b l ∧ env 3 = .int .i64 (k : Int) ∧ s = dead ∧ k ≤ l.length ∧ val (l.take k) = val l) id (fun _ => (.tree (encR (val l)), [[]])) ?_ n l.length _ _ hn ⟨rfl, rfl, rfl, Nat.le_refl _, by simp⟩
  intro k x hx ih env s ⟨h0, h3, hs, hk, hv⟩
  subst hs
  by_cases hp : x = 0
  · subst hp
    have q1 : ¬ (((0 : Nat) : Int) > 0) := by omega
    have q2 : ((((0 : Nat) : Int)) == 0) = true := rfl
    have hv0 : val l = 0 := by rw [← hv]; rfl
    simp only [simB, zbo, Nat.reduceBEq, own0, ↓reduceIte, Nat.reduceEqDiff, Nat.reduceAdd, simL, h0, h3, q1, q2]
    rw [hv0]
    rw [show encR 0 = .sl [] 0 .nil by rw [encR, digs_0]; rfl]
    exact finish_tree _ _ _ _ _ _ (.sl [] 0 .nil) _ _ (by simp only [zfk, ↓reduceIte]) rfl rfl
  · obtain ⟨y, rfl⟩ : ∃ y, x = y + 1 := ⟨x - 1, by omega⟩
    have p1 : ((y + 1 : Nat) : Int) > 0 := by omega
    have p2 : ((y + 1 : Nat) : Int) - 1 = (y : Int) := by omega
    have p3 : (y : Int) < l.length := by omega
    have p4 : y < l.length := by omega
    have p6 : (0 : Int) ≤ y := by omega
    have e1 : binA Tryd.prog .sub 3 (.int .i64 ((y + 1 : Nat) : Int)) (.int .i64 1) = some (.int .i64 (y : Int)) := by rw [i_sub _ _ _ _ (by omega) (by omega), p2]
    by_cases hz : l.getD y 0 = 0
    · have p5 : (((l.getD y 0 : Nat) : Int) == 0) = true := by rw [hz]; rfl
      simp only [simB, zbo, Nat.reduceBEq, own0, ↓reduceIte, Nat.reduceEqDiff, Nat.reduceAdd, simL, h0, h3, p1, e1, p6, p3, Int.toNat_natCast, p4, p5]
      refine ih y _ _ (Nat.lt_succ_self _) rfl ⟨?_, ?_, rfl, by omega, ?_⟩
      · simp only [zfk, ↓reduceIte, Nat.reduceEqDiff, h0]
      · simp only [zfk, ↓reduceIte, Nat.reduceEqDiff]
      · rw [← hv, val_take_succ _ _ p4, hz, Nat.mul_zero, Nat.add_zero]
    · have p5 : (((l.getD y 0 : Nat) : Int) == 0) = false := by
        rw [beq_eq_false_iff_ne]; omega
      have p7 : (((y + 1 : Nat) : Int) == 0) = false := by
        rw [beq_eq_false_iff_ne]; omega
      have e2 := make22 22 dead ((y + 1 : Nat) : Int) (by omega) (by omega)
      rw [Int.toNat_natCast] at e2
      have e3 := copy22 dead 22 1 (List.replicate (y + 1) 0) l b
      rw [List.length_replicate] at e3
      have e4 : (dead 22).t + 1 = 1 := rfl
      simp only [simB, zbo, Nat.reduceBEq, own0, ↓reduceIte, Nat.reduceEqDiff, Nat.reduceAdd, simL, h0, h3, p1, e1, p6, p3, Int.toNat_natCast, p4, p5, p7, e2, e3, e4]
      have ec : l.take (y + 1) ++ (List.replicate (y + 1) 0).drop l.length = l.take (y + 1) := by
        rw [List.drop_of_length_le (by simp; omega), List.append_nil]
      have el : (l.take (y + 1)).length = y + 1 := by rw [List.length_take]; omega
      have er : encR (val l) = .sl (encC (l.take (y + 1))) (y + 1) .loose := by
        have hd : digs (val l) = l.take (y + 1) := by
          rw [← hv]
          refine digs_val _ (hl.take _) ?_
          intro x hx
          rw [List.getLast?_eq_getElem?, el, Nat.add_sub_cancel, List.getElem?_take, if_pos (Nat.lt_succ_self y)] at hx
          rw [List.getD_eq_getElem?_getD, hx] at hz
          exact hz
        have hne : val l ≠ 0 := by
          intro h
          rw [h, digs_0] at hd
          rw [← hd] at el
          cases el
        rw [encR, hd, encL, el]
        simp [hne, gr]
      rw [ec, er]
      have := own_ends (upd dead 22 ⟨1, .buf (encC (List.replicate (y + 1) 0))⟩) 1 22 1 (y + 1) (encC (l.take (y + 1))) (by rw [encC_len, el]; omega)
      have ht : (encC (l.take (y + 1))).take (y + 1) = encC (l.take (y + 1)) := List.take_of_length_le (by rw [encC_len, el]; exact Nat.le_refl _)
      rw [ht] at this
      exact finish_tree _ _ _ _ _ _ (.own 22 1 0 (y + 1) 1) _ _ (by simp only [zfk, ↓reduceIte, Nat.reduceEqDiff]) this rfl
end Go.Ab

/- What the program's Cmp, Len compute. Conditions: limbs in range, not too many. -/
namespace Go.Ab
open Go.Proofs
set_option maxRecDepth 100000
set_option linter.unusedSimpArgs false

theorem at_call (n d : Nat) (b : Gk) (l : List Nat) (hl : Limbs l) (k : Nat) (D : Nat) (s : St) : callA cfg0 (evalFn Tryd.prog cfg0 n (d+1)) D s 93 [encL b l, .int .i64 (k : Int)] = some (.int .u64 ((l.getD k 0 : Nat) : Int), s) :=
  callA_Li _ _ _ _ _ _ _ _ _ (at_eq n d b l hl k (by omega))
theorem compare_call (n d : Nat) (x y : Nat) (D : Nat) (s : St) : callA cfg0 (evalFn Tryd.prog cfg0 n (d+2)) D s 92 [.int .u64 (x : Int), .int .u64 (y : Int)] = some (.int .i64 (cmpZ x y), s) :=
  callA_int2 _ _ _ _ _ _ _ _ _ (compare_eq n d x y)
theorem max_eq (a b : Nat) : foldA max2A (.int .i64 (a : Int)) [.int .i64 (b : Int)] = some (.int .i64 ((max a b : Nat) : Int)) := by
  simp only [foldA, max2A, Option.bind_some]
  congr 2
  rcases Nat.le_total a b with h | h
  · rw [Nat.max_eq_right h]
    split <;> omega
  · rw [Nat.max_eq_left h]
    split <;> omega

theorem cmp_eq (n d : Nat) (b b' : Gk) (l m : List Nat) (hl : Limbs l) (hm : Limbs m) (hn : l.length < n) (hn' : m.length < n) (hll : l.length ≤ 1000000) (hml : m.length ≤ 1000000) :
    evalFn Tryd.prog cfg0 n (d+3) 64 [.tree (encL b l), .tree (encL b' m)] = some (.tree (.int .i64 (cmpZ (val l) (val m))), [[], []]) := by
  rw [evalFn_go _ Tryd.func64 (by unfold Tryd.f64; rfl) (by unfold Tryd.f64; decide) (Nat.le_of_ble_eq_true (by unfold Tryd.f64; rfl)) (by kernel_rfl)]
  have e0 := i_sub Tryd.prog 3 ((max l.length m.length : Nat) : Int) 1 (by omega) (by omega)
  simp only [simB, zbo, Nat.reduceBEq, own0, ↓reduceIte, Nat.reduceEqDiff, Nat.reduceAdd, simA, simL, st0_2, max_eq, e0, den_loop]
  refine loop_ends (X := Nat) (fun k env s => env 0 = encL b l ∧ env 1 = encL b' m ∧ env 5 = .int .i64 ((k : Int) - 1) ∧ s = dead ∧ k ≤ max l.length m.length ∧ Alike l m k) id (fun _ => (.tree (.int .i64 (cmpZ (val l) (val m))), [[], []])) ?_ n (max l.length m.length) _ _ (by simp only [id]; omega) ⟨rfl, rfl, rfl, rfl, Nat.le_refl _, alike_top _ _ _ (by omega) (by omega)⟩
  intro k x hx ih env s ⟨h0, h1, h5, hs, hk, hv⟩
  subst hs
  by_cases hp : x = 0
  · subst hp
    have q1 : ¬ (((0 : Nat) : Int) - 1 ≥ 0) := by omega
    simp only [simB, zbo, Nat.reduceBEq, own0, ↓reduceIte, Nat.reduceEqDiff, Nat.reduceAdd, simL, h0, h1, h5, q1]
    rw [alike_0 _ _ hv, cmpZ_self]
    exact finish_tree _ _ _ _ _ _ (.int .i64 0) _ _ (by simp only [zfk, ↓reduceIte]) rfl rfl
  · obtain ⟨y, rfl⟩ : ∃ y, x = y + 1 := ⟨x - 1, by omega⟩
    have p2 : ((y + 1 : Nat) : Int) - 1 = (y : Int) := by omega
    rw [p2] at h5
    have p6 : (y : Int) ≥ 0 := by omega
    have e1 := i_sub Tryd.prog 3 (y : Int) 1 (by omega) (by omega)
    have c1 := at_call n (d + 1) b l hl y
    have c2 := at_call n (d + 1) b' m hm y
    have c3 := compare_call n d (l.getD y 0) (m.getD y 0)
    by_cases hz : l.getD y 0 = m.getD y 0
    · have p5 : (cmpZ (l.getD y 0) (m.getD y 0) != 0) = false := by rw [hz, cmpZ_self]; rfl
      simp only [simB, zbo, Nat.reduceBEq, own0, ↓reduceIte, Nat.reduceEqDiff, Nat.reduceAdd, simL, h0, h1, h5, p6, c1, c2, c3, e1, p5]
      refine ih y _ _ (Nat.lt_succ_self _) rfl ⟨?_, ?_, ?_, rfl, by omega, alike_down _ _ _ hv hz⟩
      · simp only [zfk, ↓reduceIte, Nat.reduceEqDiff, h0]
      · simp only [zfk, ↓reduceIte, Nat.reduceEqDiff, h1]
      · simp only [zfk, ↓reduceIte, Nat.reduceEqDiff]
    · have p5 : (cmpZ (l.getD y 0) (m.getD y 0) != 0) = true := by rw [bne_iff_ne]; intro h; exact hz ((cmpZ_eq0 _ _).mp h)
      simp only [simB, zbo, Nat.reduceBEq, own0, ↓reduceIte, Nat.reduceEqDiff, Nat.reduceAdd, simL, h0, h1, h5, p6, c1, c2, c3, e1, p5]
      rw [alike_ne _ _ hl hm _ hv hz]
      exact finish_tree _ _ _ _ _ _ (.int .i64 (cmpZ (l.getD y 0) (m.getD y 0))) _ _ (by simp only [zfk, ↓reduceIte, Nat.reduceEqDiff]) rfl rfl
end Go.Ab

/- Sums and differences limb by limb: plain arithmetic. -/
namespace Go.Ab
theorem pow_take (l : List Nat) (k : Nat) : val (l.take (k + 1)) = val (l.take k) + B ^ k * l.getD k 0 := val_take_succ' l k
theorem val_snoc (l : List Nat) (x : Nat) : val (l ++ [x]) = val l + B ^ l.length * x := by
  rw [val_app]; simp [val]
theorem add_step (a b o : List Nat) (i c : Nat) (ho : o.length = i) (h : val o + B ^ i * c = val (a.take i) + val (b.take i)) :
    val (o ++ [(c + (a.getD i 0 + b.getD i 0)) % 4294967296]) + B ^ (i + 1) * ((c + (a.getD i 0 + b.getD i 0)) / 4294967296) = val (a.take (i + 1)) + val (b.take (i + 1)) := by
  rw [val_snoc, ho, pow_take, pow_take]
  generalize a.getD i 0 = x
  generalize b.getD i 0 = y
  have e : B ^ i * ((c + (x + y)) % 4294967296) + B ^ (i + 1) * ((c + (x + y)) / 4294967296) = B ^ i * c + B ^ i * x + B ^ i * y := by
    rw [Nat.pow_succ, Nat.mul_assoc, ← Nat.mul_add]
    have : (c + (x + y)) % 4294967296 + B * ((c + (x + y)) / 4294967296) = c + (x + y) := Nat.mod_add_div _ _
    rw [this, Nat.mul_add, Nat.mul_add]; omega
  omega
theorem add_end (a b o : List Nat) (i c : Nat) (hl : Limbs a) (hm : Limbs b) (ha : a.length < i) (hb : b.length < i) (h : val o + B ^ i * c = val (a.take i) + val (b.take i)) : val o = val a + val b := by
  rw [List.take_of_length_le (by omega), List.take_of_length_le (by omega)] at h
  have h1 := val_lt a hl
  have h2 := val_lt b hm
  obtain ⟨k, rfl⟩ : ∃ k, i = k + 1 := ⟨i - 1, by omega⟩
  have h3 : B ^ a.length ≤ B ^ k := Nat.pow_le_pow_right (by decide) (by omega)
  have h4 : B ^ b.length ≤ B ^ k := Nat.pow_le_pow_right (by decide) (by omega)
  rcases Nat.eq_zero_or_pos c with rfl | hc
  · rw [Nat.mul_zero, Nat.add_zero] at h; exact h
  · exfalso
    have : B ^ (k + 1) * 1 ≤ B ^ (k + 1) * c := Nat.mul_le_mul_left _ hc
    have h5 : B ^ (k + 1) = 4294967296 * B ^ k := by rw [Nat.pow_succ, Nat.mul_comm]
    omega
theorem sub_step (a b o : List Nat) (i c v w : Nat) (ho : o.length = i) (h' : val o + val (b.take i) = val (a.take i) + B ^ i * c) (hv : v + b.getD i 0 + c = a.getD i 0 + 4294967296 * w) :
    val (o ++ [v]) + val (b.take (i + 1)) = val (a.take (i + 1)) + B ^ (i + 1) * w := by
  rw [val_snoc, ho, pow_take, pow_take]
  generalize a.getD i 0 = x at *
  generalize b.getD i 0 = y at *
  have e : B ^ i * v + B ^ i * y + B ^ i * c = B ^ i * x + B ^ (i + 1) * w := by
    rw [Nat.pow_succ, Nat.mul_assoc, ← Nat.mul_add, ← Nat.mul_add, ← Nat.mul_add, hv]
  omega
theorem sub_end (a b o : List Nat) (i c : Nat) (ha : a.length ≤ i) (hb : b.length ≤ i) (ho : Limbs o) (hi : o.length = i) (hle : val b ≤ val a) (h : val o + val (b.take i) = val (a.take i) + B ^ i * c) : val o = val a - val b := by
  rw [List.take_of_length_le ha, List.take_of_length_le hb] at h
  have h1 := val_lt o ho
  rw [hi] at h1
  rcases Nat.eq_zero_or_pos c with rfl | hc
  · rw [Nat.mul_zero, Nat.add_zero] at h; omega
  · exfalso
    have : B ^ i * 1 ≤ B ^ i * c := Nat.mul_le_mul_left _ hc
    omega
end Go.Ab
