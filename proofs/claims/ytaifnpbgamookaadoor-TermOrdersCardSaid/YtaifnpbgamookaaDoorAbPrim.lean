/- Functions that the abstract run takes by their contracts: what a call that turns nothing below leaves; strings.Join. Conditions: the contract. -/
import Derived.Test.YtaifnpbgamookaaDoorAbRow
namespace Go.Ab
open Go.RowKit
section
variable {P : Program}

/-- Behind what leaves all blocks as they were. -/
theorem Inv.below {Γ : G} (hI : Inv Γ) {w' : World} (hb : Below Γ.w.heap.size Γ.w w') : Inv { Γ with w := w' } ∧ Ext Γ { Γ with w := w' } := by
  have hst : Stays Γ.S Γ.w Γ.S w' := fun b o hs => ⟨hs, cell_of_block (hb.block b (hI.stay b o hs).1) o⟩
  refine ⟨⟨fun p => ?_, hI.apart, fun b o hs => ⟨Nat.lt_of_lt_of_le (hI.stay b o hs).1 hb.size, (hI.stay b o hs).2⟩⟩, ?_⟩
  · have h := hI.ent p
    unfold EntOk at h ⊢
    revert h
    show EntC (Γ.φ p) Γ.S Γ.w (Γ.s p).c → EntC (Γ.φ p) Γ.S w' (Γ.s p).c
    cases (Γ.s p).c with
    | dead => exact fun _ => trivial
    | buf xs =>
      simp only [EntC]
      intro ⟨h1, h2, h3, h4⟩
      have hbl := hb.block _ h1
      refine ⟨Nat.lt_of_lt_of_le h1 hb.size, fun o => by rw [frozen_of_block hbl]; exact h2 o, fun i x hx => ?_, fun i hi => by rw [cell_of_block hbl]; exact h4 i hi⟩
      obtain ⟨v, k1, k2, k3⟩ := h3 i x hx
      exact ⟨v, by rw [cell_of_block hbl]; exact k1, k2, V0.mono hst _ _ k3⟩
    | frz xs =>
      simp only [EntC]
      exact VC.mono hst xs _ _
    | tok e =>
      simp only [EntC]
      intro h i hi
      obtain ⟨⟨v, k1⟩, k2⟩ := h i hi
      have hlt : (Γ.φ p).blk < Γ.w.heap.size := by
        rw [World.cell?] at k1
        have : (Γ.w.heap[(Γ.φ p).blk]?).isSome := by
          cases hb : Γ.w.heap[(Γ.φ p).blk]? with
          | none => simp only [hb] at k1; cases k1
          | some _ => rfl
        simpa using this
      have hbl := hb.block _ hlt
      exact ⟨⟨v, by rw [cell_of_block hbl]; exact k1⟩, by rw [frozen_of_block hbl]; exact k2⟩
  · exact ⟨hst, hb.os, hb.tape, hb.output, hb.size, fun b hlt _ => hb.block b hlt, fun b o hlt _ => cell_of_block (hb.block b hlt) o, fun b o hlt _ => frozen_of_block (hb.block b hlt) o, fun b o h => .inl h, fun p b o h => .inl ⟨p, h⟩, fun _ => Nat.le_refl _,
      fun _ _ xs _ h => ⟨⟨xs, h, rfl⟩, rfl⟩, fun _ _ _ _ h => ⟨h, rfl⟩⟩

/-- A contract of a function that gives a tree without cells and turns nothing below. -/
theorem prim_plain {f : FuncId} {as : List Arg} {r : AV} {os : List (List AV)} (hr : ∀ (j : Nat) (a : Arg), as[j]? = some a → a.mut = false)
    (h : ∀ (Γ : G) (vs : List Value), Inv Γ → ArgOk Γ as vs → Calls P f vs.toArray Γ.w fun e w' => ∃ v, e = .returned v ∧ V0 Γ.S w' r v ∧ Below Γ.w.heap.size Γ.w w') :
    ∀ (Γ : G) (vs : List Value), Inv Γ → ArgOk Γ as vs → Calls P f vs.toArray Γ.w fun e w' => ∃ v Γ', e = .returned v ∧ Γ'.w = w' ∧ Inv Γ' ∧ Ext Γ Γ' ∧ FinOk Γ' as (.tree r) os v := fun Γ vs hI hA =>
  (h Γ vs hI hA).mono fun e w' ⟨v, he, hv, hb⟩ => ⟨v, { Γ with w := w' }, he, rfl, (hI.below hb).1, (hI.below hb).2, ⟨fun j a ha hm => (by rw [hr j a ha] at hm; cases hm), hv⟩⟩

/-! ### strings.Join -/
def strsOf : List AV → Option (List (List UInt8))
  | [] => some []
  | .str s :: r => (strsOf r).map (s :: ·)
  | _ => none
def joinP : List Arg → Option Out
  | [.tree (.sl xs len _), .tree (.str sep)] => (strsOf xs).bind fun ss => if len = ss.length ∧ (sep.intercalate ss).length ≤ 140737488355328 ∧ ss.length ≤ 140737488355328 then some (.tree (.str (sep.intercalate ss)), [[], []]) else none
  | _ => none
structure JoinC (P : Program) (f : FuncId) : Prop where
  here : ∃ fn c, P.funcs[f]? = some fn ∧ fn.name ≠ "runtime.NumGoroutine" ∧ fn.body = some c
  empty : ∀ (a : Option Addr) (c : Nat) (sep : ByteArray) (w : World), Calls P f #[.slice a 0 c, .string sep] w fun e w' => e = .returned (.string ⟨#[]⟩) ∧ w' = w
  full : ∀ (bk o c : Nat) (xs : List ByteArray) (sep : ByteArray) (w : World), (∀ (j : Nat) x, xs[j]? = some x → w.cell? ⟨bk, o + j, none⟩ = some (.string x)) → bk < w.heap.size → xs.length ≤ 140737488355328 → xs.length ≤ c →
    (sep.data.toList.intercalate (xs.map (·.data.toList))).length ≤ 140737488355328 →
    Calls P f #[.slice (some ⟨bk, o, none⟩) xs.length c, .string sep] w fun e w' => e = .returned (.string ⟨(sep.data.toList.intercalate (xs.map (·.data.toList))).toArray⟩) ∧ Below w.heap.size w w'
theorem strsOf_cells {S : Nat → Nat → Prop} {w : World} {b : Nat} : ∀ (xs : List AV) (ss : List (List UInt8)) (o : Nat), strsOf xs = some ss → VC S w xs b o → ∀ (j : Nat) (x : ByteArray), (ss.map fun s => (⟨s.toArray⟩ : ByteArray))[j]? = some x → S b (o + j) ∧ w.cell? ⟨b, o + j, none⟩ = some (.string x)
  | [], ss, o, h, _ => by cases h; simp
  | x :: xs, ss, o, h, hc => by
    unfold strsOf at h
    split at h
    · rename_i heq; cases heq
    · rename_i s r heq
      cases heq
      rw [Option.map_eq_some_iff] at h
      obtain ⟨ss', h1, rfl⟩ := h
      simp only [VC, V0] at hc
      obtain ⟨hS, ⟨v, hv, _, rfl⟩, hr⟩ := hc
      intro j y hj
      cases j with
      | zero => simp at hj; subst hj; exact ⟨hS, hv⟩
      | succ j =>
        have := strsOf_cells xs ss' (o + 1) h1 hr j y (by simpa using hj)
        rw [show o + (j + 1) = o + 1 + j by omega]
        exact this
    · cases h
theorem join_ok {f : FuncId} (hJ : JoinC P f) {as : List Arg} {r : Res} {os : List (List AV)} (h : joinP as = some (r, os)) : (∃ fn c, P.funcs[f]? = some fn ∧ fn.name ≠ "runtime.NumGoroutine" ∧ fn.body = some c) ∧ ∀ (Γ : G) (vs : List Value), Inv Γ → ArgOk Γ as vs →
    Calls P f vs.toArray Γ.w fun e w' => ∃ v Γ', e = .returned v ∧ Γ'.w = w' ∧ Inv Γ' ∧ Ext Γ Γ' ∧ FinOk Γ' as r os v := by
  refine ⟨hJ.here, ?_⟩
  unfold joinP at h
  split at h
  · rename_i xs len g sep
    rw [Option.bind_eq_some_iff] at h
    obtain ⟨ss, h1, h2⟩ := h
    split at h2
    · rename_i hc
      obtain ⟨hlen, hj, hn⟩ := hc
      cases h2
      refine prim_plain (fun j a ha => by match j, ha with | 0, ha => cases ha; rfl | 1, ha => cases ha; rfl) fun Γ vs hI hA => ?_
      have hl := hA.len
      obtain ⟨v0, v1, rfl⟩ : ∃ v0 v1, vs = [v0, v1] := by
        match vs, hl with
        | [v0, v1], _ => exact ⟨v0, v1, rfl⟩
      have k0 := hA.val 0 v0 rfl
      have k1 := hA.val 1 v1 rfl
      have k0 : V Γ (.sl xs len g) v0 := k0
      have k1 : V Γ (.str sep) v1 := k1
      have k0 : V0 Γ.S Γ.w (.sl xs len .loose) v0 := by
        cases g with
        | tok p t => exact k0.1
        | _ =>
          have k0 : V0 Γ.S Γ.w (.sl xs len _) v0 := k0
          simp only [V0] at k0 ⊢
          obtain ⟨a, cap, hv, hcap, _, _, hr⟩ := k0
          exact ⟨a, cap, hv, hcap, (fun h => by cases h), ⟨rfl, (fun h => by cases h)⟩, hr⟩
      have k1 : V0 Γ.S Γ.w (.str sep) v1 := k1
      simp only [V0] at k0 k1
      obtain ⟨a, cap, rfl, hcap, _, _, hr⟩ := k0
      subst k1
      rcases hr with ⟨rfl, h0, _⟩ | ⟨b, o, rfl, hc⟩
      · cases h1
        subst h0
        refine (hJ.empty a cap ⟨sep.toArray⟩ Γ.w).mono fun e w' ⟨he, hw⟩ => ⟨_, he, ?_, hw ▸ Below.refl _ _⟩
        simp only [V0]; rfl
      · by_cases hss : ss = []
        · subst hss
          simp only [List.length_nil] at hlen
          subst hlen
          refine (hJ.empty _ cap ⟨sep.toArray⟩ Γ.w).mono fun e w' ⟨he, hw⟩ => ⟨_, he, ?_, hw ▸ Below.refl _ _⟩
          simp only [V0]; rfl
        · have hcells := strsOf_cells xs ss o h1 hc
          have hlt : b < Γ.w.heap.size := by
            have h0 : 0 < ss.length := List.length_pos_iff.mpr hss
            have := (hcells 0 _ (by rw [List.getElem?_map, List.getElem?_eq_getElem h0]; rfl)).1
            exact (hI.stay _ _ this).1
          have hm : (ss.map fun s => (⟨s.toArray⟩ : ByteArray)).map (·.data.toList) = ss := by
            rw [List.map_map]
            exact (List.map_congr_left fun s _ => by simp).trans (List.map_id ss)
          have key := hJ.full b o cap (ss.map fun s => (⟨s.toArray⟩ : ByteArray)) ⟨sep.toArray⟩ Γ.w (fun j x hx => (hcells j x hx).2) hlt (by rw [List.length_map]; exact hn) (by rw [List.length_map]; omega) (by rw [hm]; simpa using hj)
          rw [hm, List.length_map, ← hlen] at key
          refine key.mono fun e w' ⟨he, hb⟩ => ⟨_, he, ?_, hb⟩
          simp only [V0]
    · cases h2
  · cases h
end
end Go.Ab
