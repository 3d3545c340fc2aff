/- term.check. Conditions: limbs in range; so many nodes at most. -/
import Derived.Test.YtaifnpbgamookaaDoorAbtT7
namespace Go.Ab
open Go.Proofs
set_option maxRecDepth 100000
set_option linter.unusedSimpArgs false

mutual
/-- What term.check tells, and what it leaves of the count. -/
def chkT : T → Int → Int → Bool × Int
  | .mk k b lg l s n kg ks, deep, left =>
    if left - 1 < 0 ∨ deep > 60 ∨ ownT (.mk k b lg l s n kg ks) = false then (false, left - 1)
    else if k = 4 then chkC ks deep (left - 1) else chkK ks (deep + 1) (left - 1)
def chkC : List T → Int → Int → Bool × Int
  | [], _, left => (false, left)
  | h :: r, deep, left => if (chkT h (deep + 1) left).1 = true then chkL r deep (chkT h (deep + 1) left).2 else chkT h (deep + 1) left
def chkL : List T → Int → Int → Bool × Int
  | [], _, left => (false, left)
  | t :: _, deep, left => chkT t deep left
def chkK : List T → Int → Int → Bool × Int
  | [], _, left => (true, left)
  | t :: r, deep, left => if (chkT t deep left).1 = true then chkK r deep (chkT t deep left).2 else chkT t deep left
end
theorem own_kids {k : Int} {b : Bool} {lg : Gk} {l : List Nat} {s : List UInt8} {n : Int} {kg : Gk} {ks : List T} (h : ownT (.mk k b lg l s n kg ks) = true) (hk : k = 4) : ∃ x y, ks = [x, y] := by
  subst hk
  simp only [ownT, ↓reduceIte, Bool.and_eq_true, decide_eq_true_eq] at h
  match ks, h.2.1.2 with
  | [x, y], _ => exact ⟨x, y, rfl⟩
mutual
theorem chkT_nod : ∀ (t : T) (deep left : Int), (chkT t deep left).1 = true → (chkT t deep left).2 = left - nodT t ∧ 0 ≤ (chkT t deep left).2
  | .mk k b lg l s n kg ks, deep, left => by
    simp only [chkT, nodT]
    split
    · intro h; cases h
    · rename_i h
      split
      · rename_i hk
        have ho : ownT (.mk k b lg l s n kg ks) = true := by
          cases h0 : ownT (.mk k b lg l s n kg ks)
          · exact absurd (.inr (.inr h0)) h
          · rfl
        obtain ⟨x, y, rfl⟩ := own_kids ho hk
        intro hc
        have := chkC_nod [x, y] deep (left - 1) rfl hc
        omega
      · intro hc
        have := chkK_nod ks (deep + 1) (left - 1) (by omega) hc
        omega
theorem chkC_nod : ∀ (ks : List T) (deep left : Int), ks.length = 2 → (chkC ks deep left).1 = true → (chkC ks deep left).2 = left - nodK ks ∧ 0 ≤ (chkC ks deep left).2
  | [], deep, left, _ => by intro h; cases h
  | h :: r, deep, left, hl => by
    simp only [chkC, nodK]
    split
    · rename_i h1
      have a := chkT_nod h (deep + 1) left h1
      intro h2
      have b := chkL_nod r deep _ (by simpa using hl) h2
      omega
    · rename_i h1; intro h2; exact absurd h2 h1
theorem chkL_nod : ∀ (ks : List T) (deep left : Int), ks.length = 1 → (chkL ks deep left).1 = true → (chkL ks deep left).2 = left - nodK ks ∧ 0 ≤ (chkL ks deep left).2
  | [], deep, left, _ => by intro h; cases h
  | t :: r, deep, left, hl => by
    have hr : r = [] := by
      cases r with
      | nil => rfl
      | cons _ _ => simp at hl
    subst hr
    simp only [chkL, nodK, Nat.add_zero]
    exact chkT_nod t deep left
theorem chkK_nod : ∀ (ks : List T) (deep left : Int), 0 ≤ left → (chkK ks deep left).1 = true → (chkK ks deep left).2 = left - nodK ks ∧ 0 ≤ (chkK ks deep left).2
  | [], deep, left, h0 => by intro _; simp only [chkK, nodK]; omega
  | t :: r, deep, left, h0 => by
    simp only [chkK, nodK]
    split
    · rename_i h1
      have a := chkT_nod t deep left h1
      intro h2
      have b := chkK_nod r deep _ a.2 h2
      omega
    · rename_i h1; intro h2; exact absurd h2 h1
end
end Go.Ab
