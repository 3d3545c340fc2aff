/- Several texts put together: AbeY20, AbeY21, AbeY22, AbeY23, AbeY24, AbeY25, AbeY26, AbeY27, AbeY28, AbeY29, AbeY30, AbeY31, AbeY32, AbeY33, AbeY34, AbeY35, AbeY36. Conditions: as each part says. -/
import Derived.Test.YticeekdofpdcoaaAbEBackZ06
import Derived.Test.YticeekdofpdcoaaAbEBackZ04
/- A plain term read: bytes (CFG5; printed by genplain.py). Conditions: places in range. -/
namespace Go.Ab
open Go.Proofs
set_option maxRecDepth 100000
set_option linter.unusedSimpArgs false

section
variable (n d : Nat) (hn : 2200 ≤ n) (hd : 6011 ≤ d) (bs : List UInt8) (g : Grip) (s : RS) (hs : okR bs s) (fr : Nat) (hf : fr < s.i)
include hn hd hs hf
set_option maxHeartbeats 1000000 in
theorem plain_97 (xs : List UInt8) (hox : (takeR bs s 1).1 = some xs ∨ ((takeR bs s 1).1 = none ∧ xs = [])) : evalFn Try.prog cfg5 n (d+2) 55 [.ptr (rC bs g s) 0, .tree (.int .u8 97), .tree (.int .i64 (fr : Int))] = some (.tree (encT (one97 xs)), [rC bs g (endR bs (takeR bs s 1).2 (one97 xs) fr), [], []]) := by
  rw [evalFn_go _ Try.func55 (by unfold Try.f55; rfl) (by unfold Try.f55; decide) (Nat.le_of_ble_eq_true (by unfold Try.f55; rfl)) (by kernel_rfl)]
  have e0 : env0 [.ptr (rC bs g s) 0, .tree (.int .u8 97), .tree (.int .i64 (fr : Int))] 0 = .ptr 0 0 0 := rfl
  have e1 : env0 [.ptr (rC bs g s) 0, .tree (.int .u8 97), .tree (.int .i64 (fr : Int))] 1 = .int .u8 97 := rfl
  have e2 : env0 [.ptr (rC bs g s) 0, .tree (.int .u8 97), .tree (.int .i64 (fr : Int))] 2 = .int .i64 (fr : Int) := rfl
  have j0 : st0 [.ptr (rC bs g s) 0, .tree (.int .u8 97), .tree (.int .i64 (fr : Int))] 0 = ⟨0, .buf (rC bs g s)⟩ := rfl
  have j6 : (st0 [.ptr (rC bs g s) 0, .tree (.int .u8 97), .tree (.int .i64 (fr : Int))] 6).t = 0 := rfl
  have j7 : (st0 [.ptr (rC bs g s) 0, .tree (.int .u8 97), .tree (.int .i64 (fr : Int))] 7).t = 0 := rfl
  have ho : ∀ s' ys, s' 0 = ⟨0, .buf ys⟩ → outsA s' 0 [.ptr (rC bs g s) 0, .tree (.int .u8 97), .tree (.int .i64 (fr : Int))] = some (ys :: [[], []]) := fun s' ys h => outs_ptr s' (rC bs g s) ys h [.int .u8 97, .int .i64 (fr : Int)]
  generalize [Arg.ptr (rC bs g s) 0, .tree (.int .u8 97), .tree (.int .i64 (fr : Int))] = as1 at e0 e1 e2 j0 j6 j7 ho
  generalize env0 as1 = env at e0 e1 e2
  generalize st0 as1 = st at j0 j6 j7
  have hc : plC = .seq (seqL plC) (.seq (seqL pl1) (.seq (seqL pl2) pl3)) := rfl
  show den _ _ _ _ plC _ _ _ = _
  rw [hc]
  have bd := bdT_0 1
  have stt := fun s p k => st_Tt s p k int0
  simp only [int0, cellsT, encC, encL, List.map_nil, cellsK, List.length_nil, gr] at stt
  have st6 := fun t k p st => stT_6 t k p st (.int .i64 0) (.bool false) (.sl [] 0 .nil) (.str []) (.int .i64 0) (.sl [] 0 .nil) int0
  simp only [int0, cellsT, encC, encL, List.map_nil, cellsK, List.length_nil, gr] at st6
  obtain ⟨dd, rfl⟩ : ∃ dd, d = dd + 2 := ⟨d - 2, by omega⟩
  have ct := fun D (st : St) (hp : st 0 = ⟨0, .buf (rC bs g s)⟩) => callA_ptr (call := evalFn Try.prog cfg5 n (dd+3)) [.int .i64 1] rfl (take_eq n (dd+1) bs g s 1 hs (by decide)) D hp
  have hto := takeR_ok (k := 1) hs
  have htm := takeR_mono (bs := bs) (s := s) (k := 1)
  have hts := fun x => takeR_some (bs := bs) (s := s) (k := 1) (x := x)
  obtain ⟨gx, hxs, hl1⟩ : ∃ gx, takeV (takeR bs s 1).1 = .sl (cellsOfBytes xs) xs.length gx ∧ xs.length ≤ 1 := by
    rcases hox with h | ⟨h, rfl⟩
    · rw [h]; exact ⟨.tight, rfl, Nat.le_of_eq (hts xs h).1⟩
    · rw [h]; exact ⟨.nil, rfl, by decide⟩
  rw [hxs] at ct
  obtain ⟨r, hrq⟩ : ∃ r, (takeR bs s 1).2 = r := ⟨_, rfl⟩
  rw [hrq] at ct hto htm
  rw [hrq]
  simp only [seqL, pl2, pl1, plC, seqR, Try.f55, Option.getD_some, simB, keep5, Nat.reduceBEq, own5, String.reduceAppend, String.reduceBEq, Bool.or_false, Bool.or_true, Bool.or_self, ↓reduceIte, Nat.reduceEqDiff, Nat.reduceAdd, simA, simL, simN, Nat.zero_add, e0, e1, e2, j0, zeroT, j6, j7, bd, stt, st6, y_eql8, Int.reduceBEq, faT_0, faT_1, Nat.reduceAdd, st_iY, stY_60, ct, lenB, den_loop]
  have hlen2 : xs = [] ∨ ∃ c, xs = [c] := by
    match xs, hl1 with
    | [], _ => exact .inl rfl
    | [c], _ => exact .inr ⟨c, rfl⟩
  refine loop_ends (X := Nat) (fun i env st => env 0 = .ptr 0 0 0 ∧ env 2 = .int .i64 (fr : Int) ∧ env 6 = .ptr 6 1 0 ∧ env 7 = .ptr 7 1 0 ∧ env 20 = .sl (cellsOfBytes xs) xs.length gx ∧ env 21 = .int .i64 (xs.length : Int) ∧ env 22 = .int .i64 (i : Int) ∧ i ≤ xs.length ∧ st 0 = ⟨0, .buf (rC bs g r)⟩ ∧ st 6 = ⟨1, .buf [.int .i64 0, .bool false, .sl [] 0 .nil, .str [], .int .i64 0, .sl [] 0 .nil]⟩ ∧ st 7 = ⟨1, .buf (cellsT (if i = 0 then int0 else (one97 xs)))⟩) (fun i => xs.length - i) (fun _ => (.tree (encT (one97 xs)), [rC bs g (endR bs r (one97 xs) fr), [], []])) ?_ n 0 _ _ (by omega) ⟨(by simp only [zfk, ↓reduceIte, Nat.reduceEqDiff, e0]; try rfl), (by simp only [zfk, ↓reduceIte, Nat.reduceEqDiff, e2]; try rfl), (by simp only [zfk, ↓reduceIte, Nat.reduceEqDiff]; try rfl), (by simp only [zfk, ↓reduceIte, Nat.reduceEqDiff]; try rfl), (by simp only [zfk, ↓reduceIte, Nat.reduceEqDiff]; try rfl), (by simp only [zfk, ↓reduceIte, Nat.reduceEqDiff]; try rfl), (by simp only [zfk, ↓reduceIte, Nat.reduceEqDiff]; try rfl), Nat.zero_le _, (by simp only [zfk, ↓reduceIte, Nat.reduceEqDiff]; try rfl), (by simp only [zfk, ↓reduceIte, Nat.reduceEqDiff]; try rfl), (by simp only [zfk, ↓reduceIte, Nat.reduceEqDiff]; try rfl)⟩
  rintro rd i hrd ih env1 s1 ⟨e0', e2', e6', e7', e20, e21, e22, hi, k0, k6, k7⟩
  rcases hlen2 with rfl | ⟨c, rfl⟩
  · have hi0 : i = 0 := by simpa using hi
    subst hi0
    simp only [↓reduceIte] at k7
    have q1 : ¬ ((0 : Nat) : Int) < (([] : List UInt8).length : Int) := by simp
    simp only [simB, keep5, Nat.reduceBEq, own5, String.reduceAppend, String.reduceBEq, Bool.or_false, Bool.or_true, Bool.or_self, ↓reduceIte, Nat.reduceEqDiff, Nat.reduceAdd, simA, simL, simN, Nat.zero_add, y_lss, e20, e21, e22, q1]
    exact pl3_eq n (dd+2) (by omega) (by omega) bs g r hto fr (.inl (by omega)) int0 ⟨rfl, by decide, by intro y hy; cases hy⟩ as1 _ ho _ (fun _ _ => rfl) _ _ (by simp only [zfk, ↓reduceIte, Nat.reduceEqDiff, e0']; try rfl) (by simp only [zfk, ↓reduceIte, Nat.reduceEqDiff, e2']; try rfl) (by simp only [zfk, ↓reduceIte, Nat.reduceEqDiff, e6']; try rfl) (by simp only [zfk, ↓reduceIte, Nat.reduceEqDiff, e7']; try rfl) k0 k6 k7
  · have hi1 : i = 0 ∨ i = 1 := by simp at hi; omega
    rcases hi1 with rfl | rfl
    · simp only [↓reduceIte, int0, cellsT, encC, encL, List.map_nil, cellsK, List.length_nil, gr] at k7
      have q1 : ((0 : Nat) : Int) < (([c] : List UInt8).length : Int) := by simp
      have i0 : ∀ st, indexAddrA Try.prog 22 st (.sl (cellsOfBytes [c]) [c].length gx) (.int .i64 ((0 : Nat) : Int)) = some (.rptr (cellsOfBytes [c])) := fun st => iaB st [c] gx 0 (by simp)
      have l0 := fun st => ldB st c []
      have hc0 : c.toNat < 256 := c.toNat_lt
      have v0 := fun s => conv5_3 s c.toNat hc0
      have cO := fun D st => callA_trees (cfg := cfg5) (d := D) (s := st) (f := 21) (vs := [.int .i64 (c.toNat : Int)]) rfl (ev5 (n := n) (d := dd+2) rfl (of64_eq 9223372036854775808 6187 (by decide) (c.toNat : Int) (by omega) (by omega)))
      have g8 : binA Try.prog .add 3 (.int .i64 ((0 : Nat) : Int)) (.int .i64 1) = some (.int .i64 ((1 : Nat) : Int)) := rfl
      simp only [simB, keep5, Nat.reduceBEq, own5, String.reduceAppend, String.reduceBEq, Bool.or_false, Bool.or_true, Bool.or_self, ↓reduceIte, Nat.reduceEqDiff, Nat.reduceAdd, simA, simL, simN, Nat.zero_add, y_lss, e0', e7', e20, e21, e22, k7, q1, i0, l0, v0, cO, faT_1, Nat.reduceAdd, st_N1Z, stN_6, g8]
      exact ih 1 _ _ (by simp only [List.length_cons, List.length_nil]; omega) rfl ⟨(by simp only [zfk, ↓reduceIte, Nat.reduceEqDiff, e0']; try rfl), (by simp only [zfk, ↓reduceIte, Nat.reduceEqDiff, e2']; try rfl), (by simp only [zfk, ↓reduceIte, Nat.reduceEqDiff, e6']; try rfl), (by simp only [zfk, ↓reduceIte, Nat.reduceEqDiff, e7']; try rfl), (by simp only [zfk, ↓reduceIte, Nat.reduceEqDiff, e20]; try rfl), (by simp only [zfk, ↓reduceIte, Nat.reduceEqDiff, e21]; try rfl), (by simp only [zfk, ↓reduceIte, Nat.reduceEqDiff]; try rfl), by simp, (by simp only [zfk, ↓reduceIte, Nat.reduceEqDiff, k0]; try rfl), (by simp only [zfk, ↓reduceIte, Nat.reduceEqDiff, k6]; try rfl), (by simp only [zfk, ↓reduceIte, Nat.reduceEqDiff]; try rfl)⟩
    · have q1 : ¬ ((1 : Nat) : Int) < (([c] : List UInt8).length : Int) := by simp
      simp only [show ¬ (1 : Nat) = 0 by decide, ↓reduceIte] at k7
      simp only [simB, keep5, Nat.reduceBEq, own5, String.reduceAppend, String.reduceBEq, Bool.or_false, Bool.or_true, Bool.or_self, ↓reduceIte, Nat.reduceEqDiff, Nat.reduceAdd, simA, simL, simN, Nat.zero_add, y_lss, e20, e21, e22, q1]
      exact pl3_eq n (dd+2) (by omega) (by omega) bs g r hto fr (.inl (by omega)) (smallT (c.toNat : Int)) ⟨rfl, by show (1 : Int) ≠ 4; decide, limbs_digs _⟩ as1 _ ho _ (fun _ _ => rfl) _ _ (by simp only [zfk, ↓reduceIte, Nat.reduceEqDiff, e0']; try rfl) (by simp only [zfk, ↓reduceIte, Nat.reduceEqDiff, e2']; try rfl) (by simp only [zfk, ↓reduceIte, Nat.reduceEqDiff, e6']; try rfl) (by simp only [zfk, ↓reduceIte, Nat.reduceEqDiff, e7']; try rfl) k0 k6 k7
end
end Go.Ab

/- A plain term, read, whatever its tag; what a reading keeps (CFG5). Conditions: places in range. -/
namespace Go.Ab
open Go.Proofs
set_option maxRecDepth 100000
set_option linter.unusedSimpArgs false

theorem plain_eq (n d : Nat) (hn : 2200 ≤ n) (hd : 6011 ≤ d) (bs : List UInt8) (g : Grip) (s : RS) (hs : okR bs s) (he : s.e = 0) (fr : Nat) (hf : fr < s.i) (tag : Nat) (ht : tag = 97 ∨ tag = 98 ∨ tag = 110 ∨ tag = 119 ∨ tag = 109 ∨ tag = 106) (hbig : tag = 110 → BigOk n (d+1)) :
    evalFn Try.prog cfg5 n (d+2) 55 [.ptr (rC bs g s) 0, .tree (.int .u8 (tag : Int)), .tree (.int .i64 (fr : Int))] = some (.tree (encT (plainR bs s tag fr).1), [rC bs g (plainR bs s tag fr).2, [], []]) := by
  rcases ht with rfl | rfl | rfl | rfl | rfl | rfl
  · have key : ∀ xs, ((takeR bs s 1).1 = some xs ∨ ((takeR bs s 1).1 = none ∧ xs = [])) → plainR bs s 97 fr = (one97 xs, endR bs (takeR bs s 1).2 (one97 xs) fr) := fun xs hx => by
      have hT : one97 ((takeR bs s 1).1.getD []) = one97 xs := by
        rcases hx with h | ⟨h, rfl⟩
        · rw [h]; rfl
        · rw [h]; rfl
      unfold plainR
      simp only [↓reduceIte, hT]
      rfl
    cases h : (takeR bs s 1).1 with
    | some xs => rw [key xs (.inl h)]; exact plain_97 n d hn hd bs g s hs fr hf xs (.inl h)
    | none => rw [key [] (.inr ⟨h, rfl⟩)]; exact plain_97 n d hn hd bs g s hs fr hf [] (.inr ⟨h, rfl⟩)
  · have key : plainR bs s 98 fr = ((match (takeR bs s 4).1 with | some x => smallT (i32 (beV x 0)) | none => int0), endR bs (takeR bs s 4).2 (match (takeR bs s 4).1 with | some x => smallT (i32 (beV x 0)) | none => int0) fr) := by
      unfold plainR
      simp only [show ¬ (98 = 97) by decide, ↓reduceIte]
      rfl
    rw [key]
    exact plain_98 n d hn hd bs g s hs fr hf _ rfl
  · have hr := manyR_range (bs := bs) (s := s) (k := 1) (a := 1) (b := 48) (by decide) (by decide)
    obtain ⟨c, hc⟩ : ∃ c : Nat, (manyR bs s 1 1 48).1 = c := ⟨(manyR bs s 1 1 48).1.toNat, by omega⟩
    have key : plainR bs s 110 fr = ((.mk 1 (bigR ((takeR bs (manyR bs s 1 1 48).2 (1 + c)).1.getD [])).1 (bigR ((takeR bs (manyR bs s 1 1 48).2 (1 + c)).1.getD [])).2.1 (bigR ((takeR bs (manyR bs s 1 1 48).2 (1 + c)).1.getD [])).2.2 [] 0 .n []), endR bs (takeR bs (manyR bs s 1 1 48).2 (1 + c)).2 (.mk 1 (bigR ((takeR bs (manyR bs s 1 1 48).2 (1 + c)).1.getD [])).1 (bigR ((takeR bs (manyR bs s 1 1 48).2 (1 + c)).1.getD [])).2.1 (bigR ((takeR bs (manyR bs s 1 1 48).2 (1 + c)).1.getD [])).2.2 [] 0 .n []) fr) := by
      unfold plainR
      simp only [show ¬ (110 = 97) by decide, show ¬ (110 = 98) by decide, ↓reduceIte, hc, Int.toNat_natCast]
      rfl
    rw [key]
    exact plain_110 n d hn hd bs g s hs fr hf (hbig rfl) c _ (by rw [← hc]) _ _ _ rfl
  · have hr := manyR_range (bs := bs) (s := s) (k := 1) (a := 1) (b := 40) (by decide) (by decide)
    obtain ⟨c, hc⟩ : ∃ c : Nat, (manyR bs s 1 1 40).1 = c := ⟨(manyR bs s 1 1 40).1.toNat, by omega⟩
    have key : plainR bs s 119 fr = ((.mk 2 false .n [] ((takeR bs (manyR bs s 1 1 40).2 c).1.getD []) 0 .n []), endR bs (takeR bs (manyR bs s 1 1 40).2 c).2 (.mk 2 false .n [] ((takeR bs (manyR bs s 1 1 40).2 c).1.getD []) 0 .n []) fr) := by
      unfold plainR
      simp only [show ¬ (119 = 97) by decide, show ¬ (119 = 98) by decide, show ¬ (119 = 110) by decide, ↓reduceIte, hc, Int.toNat_natCast]
      rfl
    rw [key]
    exact plain_119 n d hn hd bs g s hs fr hf c _ (by rw [← hc])
  · have hr := manyR_range (bs := bs) (s := s) (k := 4) (a := 0) (b := 400) (by decide) (by decide)
    obtain ⟨c, hc⟩ : ∃ c : Nat, (manyR bs s 4 0 400).1 = c := ⟨(manyR bs s 4 0 400).1.toNat, by omega⟩
    have key : plainR bs s 109 fr = ((.mk 6 false .n [] ((takeR bs (manyR bs s 4 0 400).2 c).1.getD []) 0 .n []), endR bs (takeR bs (manyR bs s 4 0 400).2 c).2 (.mk 6 false .n [] ((takeR bs (manyR bs s 4 0 400).2 c).1.getD []) 0 .n []) fr) := by
      unfold plainR
      simp only [show ¬ (109 = 97) by decide, show ¬ (109 = 98) by decide, show ¬ (109 = 110) by decide, show ¬ (109 = 119) by decide, ↓reduceIte, hc, Int.toNat_natCast]
      rfl
    rw [key]
    exact plain_109 n d hn hd bs g s hs fr hf c _ (by rw [← hc])
  · have key : plainR bs s 106 fr = (nilT', endR bs s nilT' fr) := by
      unfold plainR
      simp only [show ¬ (106 = 97) by decide, show ¬ (106 = 98) by decide, show ¬ (106 = 110) by decide, show ¬ (106 = 119) by decide, show ¬ (106 = 109) by decide, ↓reduceIte]
      rfl
    rw [key]
    exact plain_nil n d hn hd bs g s hs he fr hf 106 (by decide) (by decide) (by decide) (by decide) (by decide)
structure InvR (bs : List UInt8) (s : RS) : Prop where
  i : s.i ≤ bs.length
  len : bs.length ≤ 150000000000000
  lo : -1 ≤ s.tm
  hi : s.tm ≤ 2001
  ok : s.e = 0 → 0 ≤ s.tm ∧ s.tm ≤ 2000
theorem InvR.okR {bs : List UInt8} {s : RS} (h : InvR bs s) : Go.Ab.okR bs s := ⟨h.i, h.len, by have := h.lo; omega, by have := h.hi; omega⟩
theorem InvR.fail {bs : List UInt8} {s : RS} {e : Int} (h : InvR bs s) (he : e ≠ 0) : InvR bs (s.fail e) := by
  unfold RS.fail
  split
  · exact ⟨h.i, h.len, h.lo, h.hi, fun h' => absurd h' he⟩
  · exact h
theorem fail_e (s : RS) (e : Int) (he : e ≠ 0) : (s.fail e).e ≠ 0 := by
  unfold RS.fail
  split
  · exact he
  · assumption
theorem InvR.take {bs : List UInt8} {s : RS} {k : Nat} (h : InvR bs s) : InvR bs (takeR bs s k).2 := by
  have h1 := takeR_ok (k := k) h.okR
  have h2 := takeR_mono (bs := bs) (s := s) (k := k)
  have h3 : (takeR bs s k).2.e = 0 → s.e = 0 := by
    unfold takeR
    split
    · intro hh; exact absurd hh (fail_e s 3 (by decide))
    · intro hh; exact hh
  exact ⟨h1.1, h.len, by rw [h2.2]; exact h.lo, by rw [h2.2]; exact h.hi, fun he => by rw [h2.2]; exact h.ok (h3 he)⟩
theorem manyR_e {bs : List UInt8} {s : RS} {k : Nat} {a b : Int} (h : (manyR bs s k a b).2.e = 0) : (takeR bs s k).2.e = 0 ∧ (manyR bs s k a b).2 = (takeR bs s k).2 ∧ a ≤ (manyR bs s k a b).1 ∧ (manyR bs s k a b).1 ≤ b := by
  unfold manyR at h ⊢
  dsimp only at h ⊢
  split at h
  · rename_i h1; exact absurd h h1
  · rename_i h1
    split at h
    · exact absurd h (fail_e _ 4 (by decide))
    · rename_i h2
      rw [if_neg h1, if_neg h2]
      exact ⟨by simpa using h1, rfl, by dsimp only; omega, by dsimp only; omega⟩
theorem InvR.many {bs : List UInt8} {s : RS} {k : Nat} {a b : Int} (h : InvR bs s) : InvR bs (manyR bs s k a b).2 := by
  have h1 := h.take (k := k)
  unfold manyR
  dsimp only
  split
  · exact h1
  · split
    · exact h1.fail (by decide)
    · exact h1
end Go.Ab

/- What a reading keeps, to its end. No conditions. -/
namespace Go.Ab
open Go.Proofs
set_option maxRecDepth 100000
set_option linter.unusedSimpArgs false

theorem fail_i (s : RS) (e : Int) : (s.fail e).i = s.i ∧ (s.fail e).tm = s.tm := by unfold RS.fail; split <;> exact ⟨rfl, rfl⟩
theorem InvR.endR {bs : List UInt8} {s : RS} (h : InvR bs s) (p : T) (fr : Nat) : InvR bs (Go.Ab.endR bs s p fr) ∧ (Go.Ab.endR bs s p fr).i = s.i := by
  unfold Go.Ab.endR
  split
  · exact ⟨h.fail (by decide), (fail_i s 4).1⟩
  · exact ⟨h, rfl⟩
theorem plainR_inv {bs : List UInt8} {s : RS} (h : InvR bs s) (tag fr : Nat) : InvR bs (plainR bs s tag fr).2 ∧ s.i ≤ (plainR bs s tag fr).2.i := by
  have key : ∀ (r : RS) (p : T), InvR bs r → s.i ≤ r.i → InvR bs (endR bs r p fr) ∧ s.i ≤ (endR bs r p fr).i := fun r p h1 h2 => by
    obtain ⟨a, b⟩ := h1.endR p fr
    exact ⟨a, by rw [b]; exact h2⟩
  unfold plainR
  by_cases h1 : tag = 97
  · simp only [h1, ↓reduceIte]
    exact key _ _ h.take takeR_mono.1
  by_cases h2 : tag = 98
  · simp only [h1, h2, ↓reduceIte, show ¬ (98 = 97) by decide]
    exact key _ _ h.take takeR_mono.1
  by_cases h3 : tag = 110
  · simp only [h3, ↓reduceIte, show ¬ (110 = 97) by decide, show ¬ (110 = 98) by decide]
    exact key _ _ h.many.take (Nat.le_trans manyR_mono.1 takeR_mono.1)
  by_cases h4 : tag = 119
  · simp only [h4, ↓reduceIte, show ¬ (119 = 97) by decide, show ¬ (119 = 98) by decide, show ¬ (119 = 110) by decide]
    exact key _ _ h.many.take (Nat.le_trans manyR_mono.1 takeR_mono.1)
  by_cases h5 : tag = 109
  · simp only [h5, ↓reduceIte, show ¬ (109 = 97) by decide, show ¬ (109 = 98) by decide, show ¬ (109 = 110) by decide, show ¬ (109 = 119) by decide]
    exact key _ _ h.many.take (Nat.le_trans manyR_mono.1 takeR_mono.1)
  · simp only [h1, h2, h3, h4, h5, ↓reduceIte]
    exact key _ _ h (Nat.le_refl _)
theorem someR_inv {bs : List UInt8} {rd : RS → T × RS} (H : ∀ s, InvR bs s → InvR bs (rd s).2 ∧ s.i ≤ (rd s).2.i) : ∀ (n : Nat) (s : RS) (acc : List T), InvR bs s → InvR bs (someR rd n s acc).2 ∧ s.i ≤ (someR rd n s acc).2.i
  | 0, s, acc, h => ⟨h, Nat.le_refl _⟩
  | n + 1, s, acc, h => by
    have h1 := H s h
    simp only [someR]
    split
    · exact h1
    · have h2 := someR_inv H n (rd s).2 (acc ++ [(rd s).1]) h1.1
      exact ⟨h2.1, Nat.le_trans h1.2 h2.2⟩
def bumpR (m : Int × RS) : RS := ⟨m.2.i, m.2.tm + (m.1 - 1), m.2.e⟩
theorem manyR_no {bs : List UInt8} {s : RS} {k : Nat} {a b : Int} (h : (manyR bs s k a b).2.e ≠ 0) : (manyR bs s k a b).1 = 0 := by
  unfold manyR at h ⊢
  dsimp only at h ⊢
  split
  · rfl
  · split
    · rfl
    · rename_i h1 h2
      rw [if_neg h1, if_neg h2] at h
      exact absurd (by simpa using h1) h
theorem bumpR_inv {bs : List UInt8} {s : RS} (h : InvR bs s) (h1 : 1 ≤ s.tm) : InvR bs (bumpR (manyR bs s 4 1 (2001 - s.tm))) ∧ s.i ≤ (bumpR (manyR bs s 4 1 (2001 - s.tm))).i := by
  have hm := h.many (k := 4) (a := 1) (b := 2001 - s.tm)
  have ht := (manyR_mono (bs := bs) (s := s) (k := 4) (a := 1) (b := 2001 - s.tm))
  have hh := h.hi
  unfold bumpR
  refine ⟨?_, ht.1⟩
  by_cases he : (manyR bs s 4 1 (2001 - s.tm)).2.e = 0
  · have hr := manyR_e he
    exact ⟨hm.i, hm.len, by dsimp only; rw [ht.2]; omega, by dsimp only; rw [ht.2]; omega, fun _ => by dsimp only; rw [ht.2]; omega⟩
  · have h0 := manyR_no he
    exact ⟨hm.i, hm.len, by dsimp only; rw [ht.2, h0]; omega, by dsimp only; rw [ht.2, h0]; omega, fun h => absurd h he⟩
theorem stepR {bs : List UInt8} {s : RS} (h : InvR bs s) (he : (takeR bs s 1).2.e = 0) : (takeR bs s 1).2 = ⟨s.i + 1, s.tm, 0⟩ ∧ s.e = 0 ∧ s.i + 1 ≤ bs.length ∧ (takeR bs s 1).1 = some ((bs.drop s.i).take 1) := by
  unfold takeR at he ⊢
  split at he
  · exact absurd he (fail_e _ 3 (by decide))
  · rename_i hc
    rw [if_neg hc]
    have h0 : s.e = 0 := he
    exact ⟨by rw [h0], h0, by omega, rfl⟩
theorem termR_inv (bs : List UInt8) : ∀ (f : Nat) (deep : Int) (s : RS), InvR bs s → InvR bs (termR bs f deep s).2 ∧ s.i ≤ (termR bs f deep s).2.i
  | 0, _, s, h => ⟨h, Nat.le_refl _⟩
  | f + 1, deep, s, h => by
    by_cases he : (takeR bs s 1).2.e = 0
    · obtain ⟨h1, h2, h3, h4⟩ := stepR h he
      have htm := h.ok h2
      simp only [termR]
      rw [if_neg (fun hh => hh he)]
      rw [h1]
      dsimp only
      by_cases hb : s.tm + 1 > 2000 ∨ deep > 60
      · rw [if_pos hb]
        have e1 : (RS.fail ⟨s.i + 1, s.tm + 1, 0⟩ 4) = ⟨s.i + 1, s.tm + 1, 4⟩ := rfl
        rw [e1]
        exact ⟨⟨h3, h.len, by dsimp only; omega, by dsimp only; omega, fun hh => by cases hh⟩, by dsimp only; omega⟩
      · rw [if_neg hb]
        have hs1 : InvR bs ⟨s.i + 1, s.tm + 1, 0⟩ := ⟨h3, h.len, by dsimp only; omega, by dsimp only; omega, fun _ => by dsimp only; omega⟩
        have lift : ∀ r : RS, s.i + 1 ≤ r.i → s.i ≤ r.i := fun r hr => by omega
        split
        · have := plainR_inv hs1 ((((takeR bs s 1).1.getD []).headD 0).toNat) s.i
          exact ⟨this.1, lift _ this.2⟩
        · split
          · have hbm := bumpR_inv hs1 (by dsimp only; omega)
            have hsm := someR_inv (rd := termR bs f (deep + 1)) (fun s hs => termR_inv bs f (deep + 1) s hs) (manyR bs ⟨s.i + 1, s.tm + 1, 0⟩ 4 1 (2001 - (s.tm + 1))).1.toNat _ [] hbm.1
            have htl := termR_inv bs f deep _ hsm.1
            have hall : s.i ≤ (termR bs f deep (someR (termR bs f (deep + 1)) (manyR bs ⟨s.i + 1, s.tm + 1, 0⟩ 4 1 (2001 - (s.tm + 1))).1.toNat (bumpR (manyR bs ⟨s.i + 1, s.tm + 1, 0⟩ 4 1 (2001 - (s.tm + 1)))) []).2).2.i := by
              have a := hbm.2; have b := hsm.2; have c := htl.2
              exact Nat.le_trans (Nat.le_trans (Nat.le_trans (Nat.le_succ _) a) b) c
            dsimp only
            split
            · exact ⟨htl.1.fail (by decide), by rw [(fail_i _ 4).1]; exact hall⟩
            · exact ⟨htl.1, hall⟩
          · split
            · have hm := hs1.many (k := 1) (a := 0) (b := 40)
              have hmo := (manyR_mono (bs := bs) (s := ⟨s.i + 1, s.tm + 1, 0⟩) (k := 1) (a := 0) (b := 40)).1
              have hsm := someR_inv (rd := termR bs f (deep + 1)) (fun s hs => termR_inv bs f (deep + 1) s hs) (manyR bs ⟨s.i + 1, s.tm + 1, 0⟩ 1 0 40).1.toNat _ [] hm
              exact ⟨hsm.1, by have b := hsm.2; dsimp only at hmo ⊢; omega⟩
            · have e1 : (RS.fail ⟨s.i + 1, s.tm + 1, 0⟩ 4) = ⟨s.i + 1, s.tm + 1, 4⟩ := rfl
              rw [e1]
              exact ⟨⟨h3, h.len, by dsimp only; omega, by dsimp only; omega, fun hh => by cases hh⟩, by dsimp only; omega⟩
    · simp only [termR]
      rw [if_pos he]
      exact ⟨h.take, takeR_mono.1⟩
end Go.Ab

/- So many terms, read one behind the other (CFG5). Conditions: places in range. -/
namespace Go.Ab
open Go.Proofs
set_option maxRecDepth 100000
set_option linter.unusedSimpArgs false

theorem push_nil (d : Nat) (S : St) (v : T) : appendA Try.prog #[26, 26] d S (.sl [] 0 .nil) (.sl (cellsT v) 1 .tight) = some (.sl (cellsK [v]) [v].length (.tok d ((S d).t + 1)), upd S d ⟨(S d).t + 1, .tok 6⟩) := by
  have hb := of_decide_eq_true by28
  have hm : ∀ s, moreA Try.prog 28 6 (some 26) s (.sl (cellsT v) 1 .tight) = some (cellsT v, 1) := fun s => by
    simp only [moreA, Option.map_some, tkTk, cellsT_len, Nat.one_mul, ↓reduceIte]
  have hc : (0 + 1) * byOf Try.prog 28 ≤ 140737488355328 ∧ 0 + 1 ≤ 9223372036854775807 := by
    exact ⟨by omega, by decide⟩
  simp only [appendA, List.getElem?_toArray, List.getElem?_cons_zero, List.getElem?_cons_succ, Option.map_some, tkTk, eszT, Option.bind_some, hm, baseA, List.length_nil, Nat.zero_mul, ↓reduceIte, zl28, and_true]
  rw [if_pos hc]
  simp [cellsK]
theorem push_tok (d t : Nat) (us : List T) (hl : us.length ≤ 1000000) (S : St) (v : T) (hs : S d = ⟨t, .tok 6⟩) : appendA Try.prog #[26, 26] d S (.sl (cellsK us) us.length (.tok d t)) (.sl (cellsT v) 1 .tight) = some (.sl (cellsK (us ++ [v])) (us ++ [v]).length (.tok d (t + 1)), upd (upd S d ⟨t, .dead⟩) d ⟨t + 1, .tok 6⟩) := by
  have hb := of_decide_eq_true by28
  have hk : cellsK (us ++ [v]) = cellsK us ++ cellsT v := by rw [cellsK_append]; simp only [cellsK, List.append_nil]
  have hm : ∀ s, moreA Try.prog 28 6 (some 26) s (.sl (cellsT v) 1 .tight) = some (cellsT v, 1) := fun s => by
    simp only [moreA, Option.map_some, tkTk, cellsT_len, Nat.one_mul, ↓reduceIte]
  have hc : (us.length + 1) * byOf Try.prog 28 ≤ 140737488355328 ∧ us.length + 1 ≤ 9223372036854775807 := by
    have : (us.length + 1) * byOf Try.prog 28 ≤ 1000001 * 200 := Nat.mul_le_mul (by omega) hb
    omega
  simp only [appendA, List.getElem?_toArray, List.getElem?_cons_zero, List.getElem?_cons_succ, Option.map_some, tkTk, eszT, Option.bind_some, hm, baseA, hs, cellsK_len, and_self, ↓reduceIte, zl28, and_true]
  rw [if_pos hc]
  simp only [upd_same, List.length_append, List.length_cons, List.length_nil, Nat.zero_add, hk]
theorem finish_ApY (k : Bool) (hk : k = false) (as1 : List Arg) (os : List (List AV)) (t d : Nat) (x : AV) (us : List T) (env : Env) (s : St) (hv : env t = x) (hA : Ap s d x us) (ho : outsA s 0 as1 = some os) :
    finishP Try.prog k as1 #[.tmp t] env s = some (.tree (.sl (cellsK us) us.length (gr (kgOf us))), os) := by
  subst hk
  rw [finishP_t1]
  rcases hA with ⟨rfl, rfl⟩ | ⟨hu, tt, rfl, _⟩
  · simp [finish, finish1, hv, settle, ho, kgOf, gr, cellsK]
  · simp [finish, finish1, hv, ho, kgOf, hu, gr]
def TermW (n D : Nat) (bs : List UInt8) (g : Grip) (deep : Int) (rd : RS → T × RS) (lo : Nat) : Prop := ∀ s, InvR bs s → (s.e = 0 → lo ≤ s.i) → evalFn Try.prog cfg5 n D 31 [.ptr (rC bs g s) 0, .tree (.int .i64 deep)] = some (.tree (encT (rd s).1), [rC bs g (rd s).2, []])
theorem some_len (rd : RS → T × RS) : ∀ (n : Nat) (s : RS) (acc : List T), (someR rd n s acc).1.length ≤ acc.length + n
  | 0, s, acc => Nat.le_refl _
  | n + 1, s, acc => by
    simp only [someR]
    split
    · dsimp only; omega
    · have := some_len rd n (rd s).2 (acc ++ [(rd s).1])
      simp only [List.length_append, List.length_cons, List.length_nil] at this
      omega
theorem someR_e {rd : RS → T × RS} (He : ∀ s, (rd s).2.e = 0 → s.e = 0) : ∀ (n : Nat) (s : RS) (acc : List T), (someR rd n s acc).2.e = 0 → s.e = 0
  | 0, _, _, h => h
  | n + 1, s, acc, h => by
    simp only [someR] at h
    split at h
    · rename_i h1; exact absurd h h1
    · rename_i h1; exact He s (by simpa using h1)
theorem takeR_e {bs : List UInt8} {s : RS} {k : Nat} (h : (takeR bs s k).2.e = 0) : s.e = 0 ∧ (takeR bs s k).2.i = s.i + k := by
  unfold takeR at h ⊢
  split at h
  · exact absurd h (fail_e s 3 (by decide))
  · rename_i hc
    rw [if_neg hc]
    exact ⟨h, rfl⟩
theorem manyR_pos {bs : List UInt8} {s : RS} {k : Nat} {a b : Int} (h : (manyR bs s k a b).2.e = 0) : s.e = 0 ∧ (manyR bs s k a b).2.i = s.i + k := by
  obtain ⟨h1, h2, _⟩ := manyR_e h
  rw [h2]
  exact takeR_e h1
theorem termR_e {bs : List UInt8} {f : Nat} {deep : Int} {s : RS} (h : (termR bs f deep s).2.e = 0) : s.e = 0 := by
  cases f with
  | zero => exact h
  | succ f =>
    by_cases h1 : (takeR bs s 1).2.e = 0
    · exact (takeR_e h1).1
    · simp only [termR] at h
      rw [if_pos h1] at h
      exact absurd h h1
set_option maxHeartbeats 2000000 in
theorem some_eq (n D : Nat) (bs : List UInt8) (g : Grip) (deep : Int) (rd : RS → T × RS) (lo : Nat) (H : TermW n D bs g deep rd lo) (Hi : ∀ s, InvR bs s → InvR bs (rd s).2 ∧ s.i ≤ (rd s).2.i) (He : ∀ s, (rd s).2.e = 0 → s.e = 0) (k : Nat) (hk : k ≤ 2001) (hkn : k < n) (s : RS) (hs : InvR bs s) (hlo : s.e = 0 → lo ≤ s.i) :
    evalFn Try.prog cfg5 n (D+1) 57 [.ptr (rC bs g s) 0, .tree (.int .i64 (k : Int)), .tree (.int .i64 deep)] = some (.tree (.sl (cellsK (someR rd k s []).1) (someR rd k s []).1.length (gr (kgOf (someR rd k s []).1))), [rC bs g (someR rd k s []).2, [], []]) := by
  rw [evalFn_go _ Try.func57 (by unfold Try.f57; rfl) (by unfold Try.f57; decide) (Nat.le_of_ble_eq_true (by unfold Try.f57; rfl)) (by kernel_rfl)]
  have e0 : env0 [.ptr (rC bs g s) 0, .tree (.int .i64 (k : Int)), .tree (.int .i64 deep)] 0 = .ptr 0 0 0 := rfl
  have e1 : env0 [.ptr (rC bs g s) 0, .tree (.int .i64 (k : Int)), .tree (.int .i64 deep)] 1 = .int .i64 (k : Int) := rfl
  have e2 : env0 [.ptr (rC bs g s) 0, .tree (.int .i64 (k : Int)), .tree (.int .i64 deep)] 2 = .int .i64 deep := rfl
  have j0 : st0 [.ptr (rC bs g s) 0, .tree (.int .i64 (k : Int)), .tree (.int .i64 deep)] 0 = ⟨0, .buf (rC bs g s)⟩ := rfl
  have ho : ∀ s' ys, s' 0 = ⟨0, .buf ys⟩ → outsA s' 0 [.ptr (rC bs g s) 0, .tree (.int .i64 (k : Int)), .tree (.int .i64 deep)] = some [ys, [], []] := fun s' ys h => outs_ptr s' (rC bs g s) ys h [.int .i64 (k : Int), .int .i64 deep]
  generalize [Arg.ptr (rC bs g s) 0, .tree (.int .i64 (k : Int)), .tree (.int .i64 deep)] = as1 at e0 e1 e2 j0 ho
  generalize env0 as1 = env at e0 e1 e2
  generalize st0 as1 = st at j0
  simp only [simB, keep5, Nat.reduceBEq, own5, String.reduceAppend, String.reduceBEq, Bool.or_false, Bool.or_true, Bool.or_self, ↓reduceIte, Nat.reduceEqDiff, Nat.reduceAdd, simA, simL, simN, Nat.zero_add, e0, e1, den_loop]
  refine loop_ends (X := Nat × RS × List T) (fun q env st => env 0 = .ptr 0 0 0 ∧ env 2 = .int .i64 deep ∧ env 9 = .int .i64 (k : Int) ∧ env 10 = .int .i64 (q.1 : Int) ∧ q.1 ≤ k ∧ st 0 = ⟨0, .buf (rC bs g q.2.1)⟩ ∧ InvR bs q.2.1 ∧ (q.2.1.e = 0 → lo ≤ q.2.1.i) ∧ Ap st 23 (env 7) q.2.2 ∧ q.2.2.length ≤ q.1 ∧ someR rd (k - q.1) q.2.1 q.2.2 = someR rd k s []) (fun q => k - q.1) (fun _ => (.tree (.sl (cellsK (someR rd k s []).1) (someR rd k s []).1.length (gr (kgOf (someR rd k s []).1))), [rC bs g (someR rd k s []).2, [], []])) ?_ n (0, s, []) _ _ (by dsimp only; omega) ⟨(by simp only [zfk, ↓reduceIte, Nat.reduceEqDiff, e0]; try rfl), (by simp only [zfk, ↓reduceIte, Nat.reduceEqDiff, e2]; try rfl), (by simp only [zfk, ↓reduceIte, Nat.reduceEqDiff]; try rfl), (by simp only [zfk, ↓reduceIte, Nat.reduceEqDiff]; try rfl), Nat.zero_le _, (by simp only [zfk, ↓reduceIte, Nat.reduceEqDiff, j0]; try rfl), hs, hlo, .inl ⟨rfl, (by simp only [zfk, ↓reduceIte, Nat.reduceEqDiff]; try rfl)⟩, Nat.le_refl _, rfl⟩
  rintro rd' ⟨i, cur, acc⟩ hrd ih env1 s1 ⟨e0', e2', e9, e10, hi, k0, hcur, hcl, ap, hacc, hfin⟩
  dsimp only at hi k0 hcur hcl ap hacc hfin e10
  by_cases hlt : i < k
  · have q1 : (i : Int) < (k : Int) := by omega
    have c1 := fun D' (st : St) (hp : st 0 = ⟨0, .buf (rC bs g cur)⟩) => callA_ptr (call := evalFn Try.prog cfg5 n D) [.int .i64 deep] rfl (H cur hcur hcl) D' hp
    have hci := Hi cur hcur
    obtain ⟨m, hm⟩ : ∃ m, k - i = m + 1 := ⟨k - i - 1, by omega⟩
    rw [hm] at hfin
    simp only [someR] at hfin
    obtain ⟨w, hw⟩ : ∃ w, rd cur = w := ⟨_, rfl⟩
    rw [hw] at c1 hci hfin
    obtain ⟨u, r⟩ := w
    obtain ⟨ri, rtm, re⟩ := r
    have hce : re = 0 → cur.e = 0 := fun h => He cur (by rw [hw]; exact h)
    dsimp only at c1 hci hfin
    have hnl : (⟨ri, rtm, re⟩ : RS).e = 0 → lo ≤ (⟨ri, rtm, re⟩ : RS).i := fun h => Nat.le_trans (hcl (hce h)) hci.2
    have g8 := i_add Try.prog 3 (i : Int) 1 (by omega) (by omega)
    simp only [encT] at c1
    by_cases hre : re = 0
    · have b1 : (re != 0) = false := by rw [hre]; rfl
      rw [if_neg (fun h => h hre)] at hfin
      have hm2 : k - (i + 1) = m := by omega
      rcases ap with ⟨h1, h2⟩ | ⟨h1, t, h2, h3⟩
      · subst h1
        have a1 := fun S => push_nil 23 S u
        simp only [rC] at k0 c1
        simp only [simB, keep5, Nat.reduceBEq, own5, String.reduceAppend, String.reduceBEq, Bool.or_false, Bool.or_true, Bool.or_self, ↓reduceIte, Nat.reduceEqDiff, Nat.reduceAdd, simA, simL, simN, Nat.zero_add, y_lss, y_neq, e0', e2', e9, e10, h2, q1, k0, c1, zeroT, st_Tt, stT_6, ldT_u, opA_nck, nckA_p, fa59_3, ld59_3, b1, opA_one26Y, one26_T, a1, g8]
        exact ih (i + 1, ⟨ri, rtm, re⟩, [u]) _ _ (by dsimp only; omega) rfl ⟨(by simp only [zfk, ↓reduceIte, Nat.reduceEqDiff, e0']; try rfl), (by simp only [zfk, ↓reduceIte, Nat.reduceEqDiff, e2']; try rfl), (by simp only [zfk, ↓reduceIte, Nat.reduceEqDiff, e9]; try rfl), (by simp only [zfk, ↓reduceIte, Nat.reduceEqDiff]; try rfl), by dsimp only; omega, (by simp only [zfk, ↓reduceIte, Nat.reduceEqDiff]; try rfl), hci.1, hnl, .inr ⟨by simp, _, (by simp only [zfk, ↓reduceIte, Nat.reduceEqDiff]; try rfl), (by simp only [zfk, ↓reduceIte, Nat.reduceEqDiff]; try rfl)⟩, by dsimp only; simp only [List.length_cons, List.length_nil]; omega, by dsimp only; rw [hm2]; exact hfin⟩
      · have a1 := fun S hs => push_tok 23 t acc (by omega) S u hs
        simp only [rC] at k0 c1
        simp only [simB, keep5, Nat.reduceBEq, own5, String.reduceAppend, String.reduceBEq, Bool.or_false, Bool.or_true, Bool.or_self, ↓reduceIte, Nat.reduceEqDiff, Nat.reduceAdd, simA, simL, simN, Nat.zero_add, y_lss, y_neq, e0', e2', e9, e10, h2, h3, q1, k0, c1, zeroT, st_Tt, stT_6, ldT_u, opA_nck, nckA_p, fa59_3, ld59_3, b1, opA_one26Y, one26_T, a1, g8]
        exact ih (i + 1, ⟨ri, rtm, re⟩, acc ++ [u]) _ _ (by dsimp only; omega) rfl ⟨(by simp only [zfk, ↓reduceIte, Nat.reduceEqDiff, e0']; try rfl), (by simp only [zfk, ↓reduceIte, Nat.reduceEqDiff, e2']; try rfl), (by simp only [zfk, ↓reduceIte, Nat.reduceEqDiff, e9]; try rfl), (by simp only [zfk, ↓reduceIte, Nat.reduceEqDiff]; try rfl), by dsimp only; omega, (by simp only [zfk, ↓reduceIte, Nat.reduceEqDiff]; try rfl), hci.1, hnl, .inr ⟨by simp, _, (by simp only [zfk, ↓reduceIte, Nat.reduceEqDiff]; try rfl), (by simp only [zfk, ↓reduceIte, Nat.reduceEqDiff]; try rfl)⟩, by dsimp only; rw [List.length_append]; simp only [List.length_cons, List.length_nil]; omega, by dsimp only; rw [hm2]; exact hfin⟩
    · have b1 : (re != 0) = true := by simpa using hre
      rw [if_pos hre] at hfin
      rw [← hfin]
      simp only [rC] at k0 c1
      simp only [simB, keep5, Nat.reduceBEq, own5, String.reduceAppend, String.reduceBEq, Bool.or_false, Bool.or_true, Bool.or_self, ↓reduceIte, Nat.reduceEqDiff, Nat.reduceAdd, simA, simL, simN, Nat.zero_add, y_lss, y_neq, e0', e2', e9, e10, q1, k0, c1, zeroT, st_Tt, stT_6, ldT_u, opA_nck, nckA_p, fa59_3, ld59_3, b1]
      exact finish_ApY _ rfl _ _ _ 23 (env1 7) acc _ _ (by simp only [zfk, ↓reduceIte, Nat.reduceEqDiff]; try rfl) (ap.at (by simp only [zfk, ↓reduceIte, Nat.reduceEqDiff]; try rfl)) (ho _ _ (by simp only [zfk, ↓reduceIte, Nat.reduceEqDiff]; try rfl))
  · have hie : i = k := by omega
    subst hie
    rw [Nat.sub_self] at hfin
    simp only [someR] at hfin
    rw [← hfin]
    have q1 : ¬ (i : Int) < (i : Int) := by omega
    simp only [simB, keep5, Nat.reduceBEq, own5, String.reduceAppend, String.reduceBEq, Bool.or_false, Bool.or_true, Bool.or_self, ↓reduceIte, Nat.reduceEqDiff, Nat.reduceAdd, simA, simL, simN, Nat.zero_add, y_lss, e9, e10, q1]
    exact finish_ApY _ rfl _ _ _ 23 (env1 7) acc _ _ (by simp only [zfk, ↓reduceIte, Nat.reduceEqDiff]; try rfl) ap (ho _ _ k0)
end Go.Ab

/- A list, read (CFG5). Conditions: places in range. -/
namespace Go.Ab
open Go.Proofs
set_option maxRecDepth 100000
set_option linter.unusedSimpArgs false

def listR (bs : List UInt8) (rd1 rd2 : RS → T × RS) (s : RS) : T × RS :=
  let m := manyR bs s 4 1 (2001 - s.tm)
  let h := someR rd1 m.1.toNat (bumpR m) []
  let t := rd2 h.2
  (listT h.1 t.1, if kindT t.1 = 4 then t.2.fail 4 else t.2)
set_option maxHeartbeats 2000000 in
theorem rlist_eq (n D : Nat) (hn : 2200 ≤ n) (hD : 3 ≤ D) (bs : List UInt8) (g : Grip) (deep : Int) (hdp : -1000 ≤ deep ∧ deep ≤ 1000) (rd1 rd2 : RS → T × RS) (lo : Nat) (H1 : TermW n D bs g (deep + 1) rd1 lo) (H2 : TermW n (D+1) bs g deep rd2 lo) (Hi1 : ∀ s, InvR bs s → InvR bs (rd1 s).2 ∧ s.i ≤ (rd1 s).2.i) (He1 : ∀ s, (rd1 s).2.e = 0 → s.e = 0) (s : RS) (hs : InvR bs s) (h1 : 1 ≤ s.tm) (hlo : lo ≤ s.i + 4) :
    evalFn Try.prog cfg5 n (D+2) 56 [.ptr (rC bs g s) 0, .tree (.int .i64 deep)] = some (.tree (encT (listR bs rd1 rd2 s).1), [rC bs g (listR bs rd1 rd2 s).2, []]) := by
  rw [evalFn_go _ Try.func56 (by unfold Try.f56; rfl) (by unfold Try.f56; decide) (Nat.le_of_ble_eq_true (by unfold Try.f56; rfl)) (by kernel_rfl)]
  have e0 : env0 [.ptr (rC bs g s) 0, .tree (.int .i64 deep)] 0 = .ptr 0 0 0 := rfl
  have e1 : env0 [.ptr (rC bs g s) 0, .tree (.int .i64 deep)] 1 = .int .i64 deep := rfl
  have j0 : st0 [.ptr (rC bs g s) 0, .tree (.int .i64 deep)] 0 = ⟨0, .buf (rC bs g s)⟩ := rfl
  have j4 : (st0 [.ptr (rC bs g s) 0, .tree (.int .i64 deep)] 4).t = 0 := rfl
  have j7 : (st0 [.ptr (rC bs g s) 0, .tree (.int .i64 deep)] 7).t = 0 := rfl
  have ho : ∀ s' ys, s' 0 = ⟨0, .buf ys⟩ → outsA s' 0 [.ptr (rC bs g s) 0, .tree (.int .i64 deep)] = some [ys, []] := fun s' ys h => outs_ptr s' (rC bs g s) ys h [.int .i64 deep]
  generalize [Arg.ptr (rC bs g s) 0, .tree (.int .i64 deep)] = as1 at e0 e1 j0 j4 j7 ho
  generalize env0 as1 = env at e0 e1
  generalize st0 as1 = st at j0 j4 j7
  obtain ⟨dd, rfl⟩ : ∃ dd, D = dd + 3 := ⟨D - 3, by omega⟩
  have hhi := hs.hi
  have hb := bumpR_inv hs h1
  have hmr := manyR_range (bs := bs) (s := s) (k := 4) (a := 1) (b := 2001 - s.tm) (by decide) (by omega)
  have hmt := (manyR_mono (bs := bs) (s := s) (k := 4) (a := 1) (b := 2001 - s.tm)).2
  have cm := fun D' (st : St) (hp : st 0 = ⟨0, .buf (rC bs g s)⟩) => callA_ptr (call := evalFn Try.prog cfg5 n (dd+4)) [.int .i64 4, .int .i64 1, .int .i64 (2001 - s.tm)] rfl (many_eq n (dd+1) (by omega) bs g s 4 1 (2001 - s.tm) hs.okR (by decide)) D' hp
  have hpos : (bumpR (manyR bs s 4 1 (2001 - s.tm))).e = 0 → lo ≤ (bumpR (manyR bs s 4 1 (2001 - s.tm))).i := fun h => by
    have := (manyR_pos (bs := bs) (s := s) (k := 4) (a := 1) (b := 2001 - s.tm) h).2
    show lo ≤ (manyR bs s 4 1 (2001 - s.tm)).2.i
    rw [this]; exact hlo
  have f1 := i_sub Try.prog 3 2001 s.tm (by omega) (by omega)
  unfold listR
  dsimp only
  obtain ⟨m, hm⟩ : ∃ m, manyR bs s 4 1 (2001 - s.tm) = m := ⟨_, rfl⟩
  rw [hm] at cm hb hmr hmt hpos
  rw [hm]
  obtain ⟨v, mi, mtm, me⟩ := m
  dsimp only at cm hmr hmt
  obtain ⟨c, rfl⟩ : ∃ c : Nat, v = c := ⟨v.toNat, by omega⟩
  have f2 := i_sub Try.prog 3 (c : Int) 1 (by omega) (by omega)
  have f3 := i_add Try.prog 3 mtm ((c : Int) - 1) (by omega) (by omega)
  have f4 := i_add Try.prog 3 deep 1 (by omega) (by omega)
  have hbq : bumpR ((c : Int), ⟨mi, mtm, me⟩) = ⟨mi, mtm + ((c : Int) - 1), me⟩ := rfl
  rw [hbq] at hb hpos
  rw [hbq]
  dsimp only at hb
  have hsm := someR_inv Hi1 c _ [] hb.1
  have hse := someR_e He1 c ⟨mi, mtm + ((c : Int) - 1), me⟩ []
  have csq := some_eq n (dd+3) bs g (deep + 1) rd1 lo H1 Hi1 He1 c (by omega) (by omega) _ hb.1 hpos
  have cs := fun D' (st : St) (hp : st 0 = ⟨0, .buf (rC bs g ⟨mi, mtm + ((c : Int) - 1), me⟩)⟩) => callA_ptr (call := evalFn Try.prog cfg5 n (dd+4)) [.int .i64 (c : Int), .int .i64 (deep + 1)] rfl csq D' hp
  dsimp only
  rw [Int.toNat_natCast]
  obtain ⟨w, hw⟩ : ∃ w, someR rd1 c ⟨mi, mtm + ((c : Int) - 1), me⟩ [] = w := ⟨_, rfl⟩
  rw [hw] at cs hsm hse
  rw [hw]
  obtain ⟨us, r⟩ := w
  dsimp only at cs hsm hse hpos ⊢
  have hul : us.length ≤ 9223372036854775807 := by
    have := some_len rd1 c ⟨mi, mtm + ((c : Int) - 1), me⟩ []
    rw [hw] at this
    simp only [List.length_nil] at this
    omega
  have ct := fun D' (st : St) (hp : st 0 = ⟨0, .buf (rC bs g r)⟩) => callA_ptr (call := evalFn Try.prog cfg5 n (dd+4)) [.int .i64 deep] rfl (H2 r hsm.1 (fun h => Nat.le_trans (hpos (hse h)) hsm.2)) D' hp
  obtain ⟨q, hq⟩ : ∃ q, rd2 r = q := ⟨_, rfl⟩
  rw [hq] at ct
  rw [hq]
  obtain ⟨tl, r2⟩ := q
  dsimp only at ct ⊢
  have cf := fun D' (st : St) (hp : st 0 = ⟨0, .buf (rC bs g r2)⟩) => callA_ptr (call := evalFn Try.prog cfg5 n (dd+4)) [.int .i64 4] rfl (efail_eq n (dd+3) bs g r2 4) D' hp
  have hgt : isTree (.sl (cellsK us) us.length (gr (kgOf us))) = true := by
    unfold kgOf; split <;> rfl
  have cl0 : evalFn Try.prog cfg5 n (dd+4) 84 [.tree (.sl (cellsK us) us.length (gr (kgOf us))), .tree (encT tl)] = some (.tree (encT (listT us tl)), [[], []]) := ev5 rfl (tList_eq 9223372036854775808 6189 us _ tl hul)
  have cl := fun D' st => callA_trees (cfg := cfg5) (d := D') (s := st) (f := 84) (vs := [.sl (cellsK us) us.length (gr (kgOf us)), encT tl]) (by simp only [List.all_cons, hgt]; rfl) cl0
  simp only [encT] at ct cl
  obtain ⟨k, b, lg, l, x, mm, kg, ks⟩ := tl
  obtain ⟨w2, hw2⟩ : ∃ w2, listT us (.mk k b lg l x mm kg ks) = w2 := ⟨_, rfl⟩
  rw [hw2] at cl
  rw [hw2]
  have hkd : kindT (.mk k b lg l x mm kg ks) = k := rfl
  rw [hkd]
  simp only [cellsT] at ct cl
  have stt := fun s p k' => st_Tt s p k' (.mk k b lg l x mm kg ks)
  have st6 := fun t k' p st => stT_6 t k' p st (.int .i64 0) (.bool false) (.sl [] 0 .nil) (.str []) (.int .i64 0) (.sl [] 0 .nil) (.mk k b lg l x mm kg ks)
  have stw := fun s p k' => st_Tt s p k' w2
  have st6w := fun t k' p st => stT_6 t k' p st (.int .i64 0) (.bool false) (.sl [] 0 .nil) (.str []) (.int .i64 0) (.sl [] 0 .nil) w2
  simp only [cellsT] at stt st6
  simp only [rC] at j0 cm cs ct cf ⊢
  by_cases hk : k = 4
  · have b1 : (k == 4) = true := by rw [hk]; rfl
    rw [if_pos hk]
    simp only [simB, keep5, Nat.reduceBEq, own5, String.reduceAppend, String.reduceBEq, Bool.or_false, Bool.or_true, Bool.or_self, ↓reduceIte, Nat.reduceEqDiff, Nat.reduceAdd, simA, simL, simN, Nat.zero_add, e0, e1, j0, j4, j7, zeroT, opA_nck, nckA_p, fa59_2, ld59_2, f1, f2, f3, f4, cm, cs, ct, cl, st_iY, stY_2, stt, st6, stw, st6w, faT_0, ldT_0, ldT_a, Nat.reduceAdd, y_eql, b1, cf]
    exact finish_cY _ _ _ 4 4 1 w2 _ _ (by simp only [zfk, ↓reduceIte, Nat.reduceEqDiff]; try rfl) (by simp only [zfk, ↓reduceIte, Nat.reduceEqDiff]; try rfl) (ho _ _ (by simp only [zfk, ↓reduceIte, Nat.reduceEqDiff]; try rfl))
  · have b1 : (k == 4) = false := beq_eq_false_iff_ne.mpr hk
    rw [if_neg hk]
    simp only [simB, keep5, Nat.reduceBEq, own5, String.reduceAppend, String.reduceBEq, Bool.or_false, Bool.or_true, Bool.or_self, ↓reduceIte, Nat.reduceEqDiff, Nat.reduceAdd, simA, simL, simN, Nat.zero_add, e0, e1, j0, j4, j7, zeroT, opA_nck, nckA_p, fa59_2, ld59_2, f1, f2, f3, f4, cm, cs, ct, cl, st_iY, stY_2, stt, st6, stw, st6w, faT_0, ldT_0, ldT_a, Nat.reduceAdd, y_eql, b1]
    exact finish_cY _ _ _ 4 4 1 w2 _ _ (by simp only [zfk, ↓reduceIte, Nat.reduceEqDiff]; try rfl) (by simp only [zfk, ↓reduceIte, Nat.reduceEqDiff]; try rfl) (ho _ _ (by simp only [zfk, ↓reduceIte, Nat.reduceEqDiff]; try rfl))
end Go.Ab

/- A term, read (CFG5). Conditions: places in range; what ext.big answers, where there is a great number. -/
namespace Go.Ab
open Go.Proofs
set_option maxRecDepth 100000
set_option linter.unusedSimpArgs false

theorem bdT_tupY (us : List T) : buildA Try.prog 28 [(0, .int .i64 5), (4, .sl (cellsK us) us.length (gr (kgOf us)))] = some (.agg (cellsT (tupT (kgOf us) us))) := by
  simp only [buildA, zeroT, tkT, plT, Option.bind_some]
  unfold kgOf
  split
  · rename_i h; subst h; rfl
  · rfl
theorem take1 {bs : List UInt8} {i : Nat} (h : i + 1 ≤ bs.length) : ∃ c, (bs.drop i).take 1 = [c] ∧ c ∈ bs := by
  have hd : bs.drop i = bs[i] :: bs.drop (i + 1) := List.drop_eq_getElem_cons (by omega)
  exact ⟨bs[i], by rw [hd]; rfl, List.getElem_mem _⟩
def tagR (bs : List UInt8) (f : Nat) (deep : Int) (s1 : RS) (tag fr : Nat) : T × RS :=
  if s1.tm > 2000 ∨ deep > 60 then (T0, s1.fail 4)
  else if tag = 97 ∨ tag = 98 ∨ tag = 110 ∨ tag = 119 ∨ tag = 109 ∨ tag = 106 then plainR bs s1 tag fr
  else if tag = 108 then listR bs (termR bs f (deep + 1)) (termR bs f deep) s1
  else if tag = 104 then
    let h := someR (termR bs f (deep + 1)) (manyR bs s1 1 0 40).1.toNat (manyR bs s1 1 0 40).2 []
    (tupT (kgOf h.1) h.1, h.2)
  else (T0, s1.fail 4)
theorem termR_step {bs : List UInt8} {s : RS} (hs : InvR bs s) (he : (takeR bs s 1).2.e = 0) (f : Nat) (deep : Int) {c : UInt8} (hc : (bs.drop s.i).take 1 = [c]) : termR bs (f + 1) deep s = tagR bs f deep ⟨s.i + 1, s.tm + 1, 0⟩ c.toNat s.i := by
  obtain ⟨h2, h3, h4, h5⟩ := stepR hs he
  simp only [termR]
  rw [if_neg (fun hh => hh he), h2, h5, hc]
  rfl
set_option maxHeartbeats 4000000 in
theorem term_step (n : Nat) (hn : 2200 ≤ n) (bs : List UInt8) (g : Grip) (f E : Nat) (hE : 6020 ≤ E) (deep : Int) (h0 : 0 ≤ deep) (h1 : deep ≤ 100) (lo : Nat) (s : RS) (hs : InvR bs s)
    (hbig : s.e = 0 → (bs.drop s.i).take 1 = [110] → ∀ D, 6000 ≤ D → BigOk n D) (hl8 : s.e = 0 → (bs.drop s.i).take 1 = [108] → lo ≤ s.i + 5) (hl4 : s.e = 0 → (bs.drop s.i).take 1 = [104] → lo ≤ s.i + 2)
    (IH1 : deep ≤ 60 → TermW n (E+1) bs g (deep+1) (termR bs f (deep+1)) lo) (IH2 : TermW n (E+2) bs g deep (termR bs f deep) lo) (IH3 : deep ≤ 60 → TermW n (E+2) bs g (deep+1) (termR bs f (deep+1)) lo) :
    evalFn Try.prog cfg5 n (E+1+3) 31 [.ptr (rC bs g s) 0, .tree (.int .i64 deep)] = some (.tree (encT (termR bs (f+1) deep s).1), [rC bs g (termR bs (f+1) deep s).2, []]) := by
  rw [evalFn_go _ Try.func31 (by unfold Try.f31; rfl) (by unfold Try.f31; decide) (Nat.le_of_ble_eq_true (by unfold Try.f31; rfl)) (by kernel_rfl)]
  have e0 : env0 [.ptr (rC bs g s) 0, .tree (.int .i64 deep)] 0 = .ptr 0 0 0 := rfl
  have e1 : env0 [.ptr (rC bs g s) 0, .tree (.int .i64 deep)] 1 = .int .i64 deep := rfl
  have j0 : st0 [.ptr (rC bs g s) 0, .tree (.int .i64 deep)] 0 = ⟨0, .buf (rC bs g s)⟩ := rfl
  have j4 : (st0 [.ptr (rC bs g s) 0, .tree (.int .i64 deep)] 4).t = 0 := rfl
  have ho : ∀ s' ys, s' 0 = ⟨0, .buf ys⟩ → outsA s' 0 [.ptr (rC bs g s) 0, .tree (.int .i64 deep)] = some [ys, []] := fun s' ys h => outs_ptr s' (rC bs g s) ys h [.int .i64 deep]
  generalize [Arg.ptr (rC bs g s) 0, .tree (.int .i64 deep)] = as1 at e0 e1 j0 j4 ho
  generalize env0 as1 = env at e0 e1
  generalize st0 as1 = st at j0 j4
  have ct := fun D' (st : St) (hp : st 0 = ⟨0, .buf (rC bs g s)⟩) => callA_ptr (call := evalFn Try.prog cfg5 n (E+1+2)) [.int .i64 1] rfl (take_eq n (E+1) bs g s 1 hs.okR (by decide)) D' hp
  have st0T := fun s p k' => st_Tt s p k' T0
  have s60T := fun t k' p st => stT_6 t k' p st (.int .i64 0) (.bool false) (.sl [] 0 .nil) (.str []) (.int .i64 0) (.sl [] 0 .nil) T0
  by_cases he : (takeR bs s 1).2.e = 0
  · obtain ⟨h2, h3, h4, h5⟩ := stepR hs he
    obtain ⟨c, hc, hcm⟩ := take1 h4
    rw [termR_step hs he f deep hc]
    rw [hc] at h5
    rw [h2, h5] at ct
    simp only [takeV] at ct
    have htm := hs.ok h3
    have hs1 : InvR bs ⟨s.i + 1, s.tm + 1, 0⟩ ∨ s.tm + 1 > 2000 := by
      by_cases hb : s.tm + 1 > 2000
      · exact .inr hb
      · exact .inl ⟨h4, hs.len, by dsimp only; omega, by dsimp only; omega, fun _ => by dsimp only; omega⟩
    have f1 := i_add Try.prog 3 s.tm 1 (by omega) (by omega)
    have ia : ∀ st, indexAddrA Try.prog 22 st (.sl (cellsOfBytes [c]) [c].length .tight) (.int .i64 0) = some (.rptr (cellsOfBytes [c])) := fun st => iaB st [c] .tight 0 (by simp)
    have ld := fun st => ldB st c []
    have cf := fun D' (st : St) (hp : st 0 = ⟨0, .buf (rC bs g ⟨s.i + 1, s.tm + 1, 0⟩)⟩) => callA_ptr (call := evalFn Try.prog cfg5 n (E+1+2)) [.int .i64 4] rfl (efail_eq n (E+2) bs g ⟨s.i + 1, s.tm + 1, 0⟩ 4) D' hp
    have hfl : (RS.fail ⟨s.i + 1, s.tm + 1, 0⟩ 4) = ⟨s.i + 1, s.tm + 1, 4⟩ := rfl
    rw [hfl] at cf
    obtain ⟨i, tm, e⟩ := s
    dsimp only at h3 htm hs1 f1 cf h4 hbig hl8 hl4 hc
    subst h3
    unfold tagR
    dsimp only
    have b0 : ((0 : Int) != 0) = false := rfl
    by_cases hbad : tm + 1 > 2000 ∨ deep > 60
    · rw [if_pos hbad, hfl]
      simp only [rC] at j0 ct cf ⊢
      by_cases hb1 : tm + 1 > 2000
      · simp only [simB, keep5, Nat.reduceBEq, own5, String.reduceAppend, String.reduceBEq, Bool.or_false, Bool.or_true, Bool.or_self, ↓reduceIte, Nat.reduceEqDiff, Nat.reduceAdd, simA, simL, simN, Nat.zero_add, e0, e1, j0, j4, zeroT, opA_nck, nckA_p, fa59_1, fa59_2, fa59_3, ld59_1, ld59_2, ld59_3, y_neq, y_gtr, b0, ct, f1, ia, ld, cf, st_iY, stY_2, hb1, bdY_00, st0T, s60T]
        exact finish_cY _ _ _ 4 4 1 T0 _ _ (by simp only [zfk, ↓reduceIte, Nat.reduceEqDiff]; try rfl) (by simp only [zfk, ↓reduceIte, Nat.reduceEqDiff]; try rfl) (ho _ _ (by simp only [zfk, ↓reduceIte, Nat.reduceEqDiff]; try rfl))
      · have hb2 : deep > 60 := hbad.resolve_left hb1
        simp only [simB, keep5, Nat.reduceBEq, own5, String.reduceAppend, String.reduceBEq, Bool.or_false, Bool.or_true, Bool.or_self, ↓reduceIte, Nat.reduceEqDiff, Nat.reduceAdd, simA, simL, simN, Nat.zero_add, e0, e1, j0, j4, zeroT, opA_nck, nckA_p, fa59_1, fa59_2, fa59_3, ld59_1, ld59_2, ld59_3, y_neq, y_gtr, b0, ct, f1, ia, ld, cf, st_iY, stY_2, hb1, hb2, bdY_00, st0T, s60T]
        exact finish_cY _ _ _ 4 4 1 T0 _ _ (by simp only [zfk, ↓reduceIte, Nat.reduceEqDiff]; try rfl) (by simp only [zfk, ↓reduceIte, Nat.reduceEqDiff]; try rfl) (ho _ _ (by simp only [zfk, ↓reduceIte, Nat.reduceEqDiff]; try rfl))
    · rw [if_neg hbad]
      have hb1 : ¬ tm + 1 > 2000 := fun h => hbad (.inl h)
      have hb2 : ¬ deep > 60 := fun h => hbad (.inr h)
      have hs2 : InvR bs ⟨i + 1, tm + 1, 0⟩ := hs1.resolve_right hb1
      generalize htag : c.toNat = tag at ld ⊢
      by_cases hpl : tag = 97 ∨ tag = 98 ∨ tag = 110 ∨ tag = 119 ∨ tag = 109 ∨ tag = 106
      · rw [if_pos hpl]
        have cp := fun D' (st : St) (hp : st 0 = ⟨0, .buf (rC bs g ⟨i + 1, tm + 1, 0⟩)⟩) => callA_ptr (call := evalFn Try.prog cfg5 n (E+1+2)) [.int .u8 (tag : Int), .int .i64 (i : Int)] rfl (plain_eq n (E+1) hn (by omega) bs g ⟨i + 1, tm + 1, 0⟩ hs2.okR rfl i (Nat.lt_succ_self i) tag hpl (fun h110 => hbig rfl (by
          have : c = 110 := by
            apply UInt8.toNat_inj.1
            rw [htag, h110]; rfl
          rw [hc, this]) _ (by omega))) D' hp
        obtain ⟨w, hw⟩ : ∃ w, plainR bs ⟨i + 1, tm + 1, 0⟩ tag i = w := ⟨_, rfl⟩
        rw [hw] at cp
        rw [hw]
        obtain ⟨u, r⟩ := w
        dsimp only at cp ⊢
        simp only [encT] at cp
        have stu := fun s p k' => st_Tt s p k' u
        have s6u := fun t k' p st => stT_6 t k' p st (.int .i64 0) (.bool false) (.sl [] 0 .nil) (.str []) (.int .i64 0) (.sl [] 0 .nil) u
        simp only [rC] at j0 ct cp ⊢
        have hch : (tag == 97) = true ∨ ((tag == 97) = false ∧ (tag == 98) = true) ∨ ((tag == 97) = false ∧ (tag == 98) = false ∧ (tag == 110) = true) ∨ ((tag == 97) = false ∧ (tag == 98) = false ∧ (tag == 110) = false ∧ (tag == 119) = true) ∨ ((tag == 97) = false ∧ (tag == 98) = false ∧ (tag == 110) = false ∧ (tag == 119) = false ∧ (tag == 109) = true) ∨ ((tag == 97) = false ∧ (tag == 98) = false ∧ (tag == 110) = false ∧ (tag == 119) = false ∧ (tag == 109) = false ∧ (tag == 106) = true) := by
          rcases hpl with rfl | rfl | rfl | rfl | rfl | rfl <;> decide
        have hz : ∀ m : Nat, ((tag : Int) == (m : Int)) = (tag == m) := fun m => by
          rw [Bool.eq_iff_iff, beq_iff_eq, beq_iff_eq]; omega
        have z1 := hz 97; have z2 := hz 98; have z3 := hz 110; have z4 := hz 119; have z5 := hz 109; have z6 := hz 106
        simp only [Int.cast_ofNat_Int] at z1 z2 z3 z4 z5 z6
        rcases hch with q1 | ⟨q1, q2⟩ | ⟨q1, q2, q3⟩ | ⟨q1, q2, q3, q4⟩ | ⟨q1, q2, q3, q4, q5⟩ | ⟨q1, q2, q3, q4, q5, q6⟩
        all_goals
          simp only [simB, keep5, Nat.reduceBEq, own5, String.reduceAppend, String.reduceBEq, Bool.or_false, Bool.or_true, Bool.or_self, ↓reduceIte, Nat.reduceEqDiff, Nat.reduceAdd, simA, simL, simN, Nat.zero_add, e0, e1, j0, j4, zeroT, opA_nck, nckA_p, fa59_1, fa59_2, fa59_3, ld59_1, ld59_2, ld59_3, y_neq, y_gtr, y_eql8, b0, ct, f1, ia, ld, st_iY, stY_2, hb1, hb2, z1, z2, z3, z4, z5, z6, *, cp, stu, s6u]
          exact finish_cY _ _ _ 4 4 1 u _ _ (by simp only [zfk, ↓reduceIte, Nat.reduceEqDiff]; try rfl) (by simp only [zfk, ↓reduceIte, Nat.reduceEqDiff]; try rfl) (ho _ _ (by simp only [zfk, ↓reduceIte, Nat.reduceEqDiff]; try rfl))
      · rw [if_neg hpl]
        have hz : ∀ m : Nat, ((tag : Int) == (m : Int)) = (tag == m) := fun m => by
          rw [Bool.eq_iff_iff, beq_iff_eq, beq_iff_eq]; omega
        have z1 := hz 97; have z2 := hz 98; have z3 := hz 110; have z4 := hz 119; have z5 := hz 109; have z6 := hz 106
        have z7 := hz 108; have z8 := hz 104
        simp only [Int.cast_ofNat_Int] at z1 z2 z3 z4 z5 z6 z7 z8
        have q1 : (tag == 97) = false := beq_eq_false_iff_ne.mpr (fun h => hpl (.inl h))
        have q2 : (tag == 98) = false := beq_eq_false_iff_ne.mpr (fun h => hpl (.inr (.inl h)))
        have q3 : (tag == 110) = false := beq_eq_false_iff_ne.mpr (fun h => hpl (.inr (.inr (.inl h))))
        have q4 : (tag == 119) = false := beq_eq_false_iff_ne.mpr (fun h => hpl (.inr (.inr (.inr (.inl h)))))
        have q5 : (tag == 109) = false := beq_eq_false_iff_ne.mpr (fun h => hpl (.inr (.inr (.inr (.inr (.inl h))))))
        have q6 : (tag == 106) = false := beq_eq_false_iff_ne.mpr (fun h => hpl (.inr (.inr (.inr (.inr (.inr h))))))
        clear hz hpl hcm hbig
        by_cases h108 : tag = 108
        · rw [if_pos h108]
          have q7 : (tag == 108) = true := by rw [h108]; rfl
          have cl := fun D' (st : St) (hp : st 0 = ⟨0, .buf (rC bs g ⟨i + 1, tm + 1, 0⟩)⟩) => callA_ptr (call := evalFn Try.prog cfg5 n (E+1+2)) [.int .i64 deep] rfl (rlist_eq n (E+1) hn (by omega) bs g deep ⟨by omega, by omega⟩ (termR bs f (deep + 1)) (termR bs f deep) lo (IH1 (by omega)) IH2 (fun s hs => termR_inv bs f (deep + 1) s hs) (fun s h => termR_e h) ⟨i + 1, tm + 1, 0⟩ hs2 (by dsimp only; omega) (by have := hl8 rfl (by rw [hc]; congr 1; apply UInt8.toNat_inj.1; rw [htag, h108]; rfl); dsimp only at this ⊢; omega)) D' hp
          obtain ⟨w, hw⟩ : ∃ w, listR bs (termR bs f (deep + 1)) (termR bs f deep) ⟨i + 1, tm + 1, 0⟩ = w := ⟨_, rfl⟩
          rw [hw] at cl
          rw [hw]
          obtain ⟨u, r⟩ := w
          dsimp only at cl ⊢
          simp only [encT] at cl
          have stu := fun s p k' => st_Tt s p k' u
          have s6u := fun t k' p st => stT_6 t k' p st (.int .i64 0) (.bool false) (.sl [] 0 .nil) (.str []) (.int .i64 0) (.sl [] 0 .nil) u
          simp only [rC] at j0 ct cl ⊢
          simp only [simB, keep5, Nat.reduceBEq, own5, String.reduceAppend, String.reduceBEq, Bool.or_false, Bool.or_true, Bool.or_self, ↓reduceIte, Nat.reduceEqDiff, Nat.reduceAdd, simA, simL, simN, Nat.zero_add, e0, e1, j0, j4, zeroT, opA_nck, nckA_p, fa59_1, fa59_2, fa59_3, ld59_1, ld59_2, ld59_3, y_neq, y_gtr, y_eql8, b0, ct, f1, ia, ld, st_iY, stY_2, hb1, hb2, z1, z2, z3, z4, z5, z6, z7, z8, q1, q2, q3, q4, q5, q6, q7, cl, stu, s6u]
          exact finish_cY _ _ _ 4 4 1 u _ _ (by simp only [zfk, ↓reduceIte, Nat.reduceEqDiff]; try rfl) (by simp only [zfk, ↓reduceIte, Nat.reduceEqDiff]; try rfl) (ho _ _ (by simp only [zfk, ↓reduceIte, Nat.reduceEqDiff]; try rfl))
        · rw [if_neg h108]
          have q7 : (tag == 108) = false := beq_eq_false_iff_ne.mpr h108
          by_cases h104 : tag = 104
          · rw [if_pos h104]
            have q8 : (tag == 104) = true := by rw [h104]; rfl
            have hmr := manyR_range (bs := bs) (s := ⟨i + 1, tm + 1, 0⟩) (k := 1) (a := 0) (b := 40) (by decide) (by decide)
            have hpo := fun h => manyR_pos (bs := bs) (s := ⟨i + 1, tm + 1, 0⟩) (k := 1) (a := 0) (b := 40) h
            have hmi := hs2.many (k := 1) (a := 0) (b := 40)
            have cm := fun D' (st : St) (hp : st 0 = ⟨0, .buf (rC bs g ⟨i + 1, tm + 1, 0⟩)⟩) => callA_ptr (call := evalFn Try.prog cfg5 n (E+1+2)) [.int .i64 1, .int .i64 0, .int .i64 40] rfl (many_eq n E (by omega) bs g ⟨i + 1, tm + 1, 0⟩ 1 0 40 hs2.okR (by decide)) D' hp
            obtain ⟨m, hm⟩ : ∃ m, manyR bs ⟨i + 1, tm + 1, 0⟩ 1 0 40 = m := ⟨_, rfl⟩
            rw [hm] at cm hmr hmi hpo
            rw [hm]
            obtain ⟨v, mr⟩ := m
            dsimp only at cm hmr hmi hpo ⊢
            obtain ⟨k, rfl⟩ : ∃ k : Nat, v = k := ⟨v.toNat, by omega⟩
            rw [Int.toNat_natCast]
            have csq := some_eq n (E+2) bs g (deep + 1) (termR bs f (deep + 1)) lo (IH3 (by omega)) (fun s hs => termR_inv bs f (deep + 1) s hs) (fun s h => termR_e h) k (by omega) (by omega) mr hmi (fun h => by have := hl4 rfl (by rw [hc]; congr 1; apply UInt8.toNat_inj.1; rw [htag, h104]; rfl); have h2 := (hpo h).2; (try dsimp only at this h2 ⊢); omega)
            have cs := fun D' (st : St) (hp : st 0 = ⟨0, .buf (rC bs g mr)⟩) => callA_ptr (call := evalFn Try.prog cfg5 n (E+1+2)) [.int .i64 (k : Int), .int .i64 (deep + 1)] rfl csq D' hp
            obtain ⟨w, hw⟩ : ∃ w, someR (termR bs f (deep + 1)) k mr [] = w := ⟨_, rfl⟩
            rw [hw] at cs
            rw [hw]
            obtain ⟨us, r⟩ := w
            dsimp only at cs ⊢
            have f4 := i_add Try.prog 3 deep 1 (by omega) (by omega)
            have bu := bdT_tupY us
            have stu := fun s p k' => st_Tt s p k' (tupT (kgOf us) us)
            have s6u := fun t k' p st => stT_6 t k' p st (.int .i64 0) (.bool false) (.sl [] 0 .nil) (.str []) (.int .i64 0) (.sl [] 0 .nil) (tupT (kgOf us) us)
            simp only [rC] at j0 ct cm cs ⊢
            simp only [simB, keep5, Nat.reduceBEq, own5, String.reduceAppend, String.reduceBEq, Bool.or_false, Bool.or_true, Bool.or_self, ↓reduceIte, Nat.reduceEqDiff, Nat.reduceAdd, simA, simL, simN, Nat.zero_add, e0, e1, j0, j4, zeroT, opA_nck, nckA_p, fa59_1, fa59_2, fa59_3, ld59_1, ld59_2, ld59_3, y_neq, y_gtr, y_eql8, b0, ct, cm, cs, f1, f4, ia, ld, st_iY, stY_2, hb1, hb2, z1, z2, z3, z4, z5, z6, z7, z8, q1, q2, q3, q4, q5, q6, q7, q8, stu, s6u, bu]
            exact finish_cY _ _ _ 4 4 1 (tupT (kgOf us) us) _ _ (by simp only [zfk, ↓reduceIte, Nat.reduceEqDiff]; try rfl) (by simp only [zfk, ↓reduceIte, Nat.reduceEqDiff]; try rfl) (ho _ _ (by simp only [zfk, ↓reduceIte, Nat.reduceEqDiff]; try rfl))
          · rw [if_neg h104]
            have q8 : (tag == 104) = false := beq_eq_false_iff_ne.mpr h104
            rw [hfl]
            simp only [rC] at j0 ct cf ⊢
            simp only [simB, keep5, Nat.reduceBEq, own5, String.reduceAppend, String.reduceBEq, Bool.or_false, Bool.or_true, Bool.or_self, ↓reduceIte, Nat.reduceEqDiff, Nat.reduceAdd, simA, simL, simN, Nat.zero_add, e0, e1, j0, j4, zeroT, opA_nck, nckA_p, fa59_1, fa59_2, fa59_3, ld59_1, ld59_2, ld59_3, y_neq, y_gtr, y_eql8, b0, ct, cf, f1, ia, ld, st_iY, stY_2, hb1, hb2, z1, z2, z3, z4, z5, z6, z7, z8, q1, q2, q3, q4, q5, q6, q7, q8, st0T, s60T, bdY_00]
            exact finish_cY _ _ _ 4 4 1 T0 _ _ (by simp only [zfk, ↓reduceIte, Nat.reduceEqDiff]; try rfl) (by simp only [zfk, ↓reduceIte, Nat.reduceEqDiff]; try rfl) (ho _ _ (by simp only [zfk, ↓reduceIte, Nat.reduceEqDiff]; try rfl))
  · simp only [termR]
    rw [if_pos he]
    obtain ⟨w, hw⟩ : ∃ w, takeR bs s 1 = w := ⟨_, rfl⟩
    rw [hw] at ct he
    rw [hw]
    obtain ⟨o, r⟩ := w
    obtain ⟨ri, rtm, re⟩ := r
    dsimp only at ct he ⊢
    have b0 : (re != 0) = true := by simpa using he
    simp only [rC] at j0 ct ⊢
    simp only [simB, keep5, Nat.reduceBEq, own5, String.reduceAppend, String.reduceBEq, Bool.or_false, Bool.or_true, Bool.or_self, ↓reduceIte, Nat.reduceEqDiff, Nat.reduceAdd, simA, simL, simN, Nat.zero_add, e0, e1, j0, j4, zeroT, opA_nck, nckA_p, fa59_1, fa59_2, fa59_3, ld59_1, ld59_2, ld59_3, y_neq, b0, ct, st_iY, stY_2, bdY_00, st0T, s60T]
    exact finish_cY _ _ _ 4 4 1 T0 _ _ (by simp only [zfk, ↓reduceIte, Nat.reduceEqDiff]; try rfl) (by simp only [zfk, ↓reduceIte, Nat.reduceEqDiff]; try rfl) (ho _ _ (by simp only [zfk, ↓reduceIte, Nat.reduceEqDiff]; try rfl))
theorem termR_0 {bs : List UInt8} {s : RS} (hs : s.e ≠ 0) (deep : Int) : termR bs 1 deep s = termR bs 0 deep s := by
  have h1 : takeR bs s 1 = (none, s) := by
    unfold takeR
    rw [if_pos (.inl hs)]
    unfold RS.fail
    rw [if_neg hs]
  simp only [termR]
  rw [h1]
  dsimp only
  rw [if_pos hs]
set_option maxHeartbeats 4000000 in
theorem term_no (n E : Nat) (bs : List UInt8) (g : Grip) (f : Nat) (deep : Int) (s : RS) (hs : InvR bs s) (he : (takeR bs s 1).2.e ≠ 0) :
    evalFn Try.prog cfg5 n (E+1+3) 31 [.ptr (rC bs g s) 0, .tree (.int .i64 deep)] = some (.tree (encT (termR bs (f+1) deep s).1), [rC bs g (termR bs (f+1) deep s).2, []]) := by
  rw [evalFn_go _ Try.func31 (by unfold Try.f31; rfl) (by unfold Try.f31; decide) (Nat.le_of_ble_eq_true (by unfold Try.f31; rfl)) (by kernel_rfl)]
  have e0 : env0 [.ptr (rC bs g s) 0, .tree (.int .i64 deep)] 0 = .ptr 0 0 0 := rfl
  have e1 : env0 [.ptr (rC bs g s) 0, .tree (.int .i64 deep)] 1 = .int .i64 deep := rfl
  have j0 : st0 [.ptr (rC bs g s) 0, .tree (.int .i64 deep)] 0 = ⟨0, .buf (rC bs g s)⟩ := rfl
  have j4 : (st0 [.ptr (rC bs g s) 0, .tree (.int .i64 deep)] 4).t = 0 := rfl
  have ho : ∀ s' ys, s' 0 = ⟨0, .buf ys⟩ → outsA s' 0 [.ptr (rC bs g s) 0, .tree (.int .i64 deep)] = some [ys, []] := fun s' ys h => outs_ptr s' (rC bs g s) ys h [.int .i64 deep]
  generalize [Arg.ptr (rC bs g s) 0, .tree (.int .i64 deep)] = as1 at e0 e1 j0 j4 ho
  generalize env0 as1 = env at e0 e1
  generalize st0 as1 = st at j0 j4
  have ct := fun D' (st : St) (hp : st 0 = ⟨0, .buf (rC bs g s)⟩) => callA_ptr (call := evalFn Try.prog cfg5 n (E+1+2)) [.int .i64 1] rfl (take_eq n (E+1) bs g s 1 hs.okR (by decide)) D' hp
  have st0T := fun s p k' => st_Tt s p k' T0
  have s60T := fun t k' p st => stT_6 t k' p st (.int .i64 0) (.bool false) (.sl [] 0 .nil) (.str []) (.int .i64 0) (.sl [] 0 .nil) T0
  simp only [termR]
  rw [if_pos he]
  obtain ⟨w, hw⟩ : ∃ w, takeR bs s 1 = w := ⟨_, rfl⟩
  rw [hw] at ct he
  rw [hw]
  obtain ⟨o, r⟩ := w
  obtain ⟨ri, rtm, re⟩ := r
  dsimp only at ct he ⊢
  have b0 : (re != 0) = true := by simpa using he
  simp only [rC] at j0 ct ⊢
  simp only [simB, keep5, Nat.reduceBEq, own5, String.reduceAppend, String.reduceBEq, Bool.or_false, Bool.or_true, Bool.or_self, ↓reduceIte, Nat.reduceEqDiff, Nat.reduceAdd, simA, simL, simN, Nat.zero_add, e0, e1, j0, j4, zeroT, opA_nck, nckA_p, fa59_1, fa59_2, fa59_3, ld59_1, ld59_2, ld59_3, y_neq, b0, ct, st_iY, stY_2, bdY_00, st0T, s60T]
  exact finish_cY _ _ _ 4 4 1 T0 _ _ (by simp only [zfk, ↓reduceIte, Nat.reduceEqDiff]; try rfl) (by simp only [zfk, ↓reduceIte, Nat.reduceEqDiff]; try rfl) (ho _ _ (by simp only [zfk, ↓reduceIte, Nat.reduceEqDiff]; try rfl))
theorem term_eq (n : Nat) (hn : 2200 ≤ n) (bs : List UInt8) (g : Grip) : ∀ (f D : Nat) (deep : Int) (lo : Nat), bs.length < lo + f → 3 * f + 6030 ≤ D → 0 ≤ deep → deep ≤ 100 → (∀ i, lo ≤ i → (bs.drop i).take 1 = [110] → ∀ D, 6000 ≤ D → BigOk n D) → TermW n D bs g deep (termR bs f deep) lo
  | 0, D, deep, lo, hf, hD, h0, h1, hbig => fun s hs hlo => by
    have he : s.e ≠ 0 := fun h => by have := hlo h; have := hs.i; omega
    obtain ⟨E, rfl⟩ : ∃ E, D = E + 1 + 3 := ⟨D - 4, by omega⟩
    rw [← termR_0 he]
    exact term_no n E bs g 0 deep s hs (fun h => he (takeR_e h).1)
  | f + 1, D, deep, lo, hf, hD, h0, h1, hbig => fun s hs hlo => by
    obtain ⟨E, rfl⟩ : ∃ E, D = E + 1 + 3 := ⟨D - 4, by omega⟩
    have IH := fun D' (deep' : Int) (hD' : 3 * f + 6030 ≤ D') (h0' : 0 ≤ deep') (h1' : deep' ≤ 100) => term_eq n hn bs g f D' deep' (lo + 1) (by omega) hD' h0' h1' (fun i hi => hbig i (by omega))
    exact term_step n hn bs g f E (by omega) deep h0 h1 (lo + 1) s hs (fun h => hbig s.i (hlo h)) (fun h _ => by have := hlo h; omega) (fun h _ => by have := hlo h; omega) (fun h => IH (E+1) (deep+1) (by omega) (by omega) (by omega)) (IH (E+2) deep (by omega) h0 h1) (fun h => IH (E+2) (deep+1) (by omega) (by omega) (by omega))
end Go.Ab

/- ext.Get (CFG5). Conditions: places in range; what ext.big answers, where there is a great number. -/
namespace Go.Ab
open Go.Proofs
set_option maxRecDepth 100000
set_option linter.unusedSimpArgs false

def gotoG (t : Nat) (env : Env) (x : Option Out) : Option Out := if gotoOk env t = true then x else none
theorem den_gotoG {P : Program} {cfg : Cfg} {call : FuncId → List Arg → Option Out} {n : Nat} (t : Nat) (K : Kont) (env : Env) (s : St) : den P cfg call n (.goto t) K env s = gotoG t env (K .normal env s) := by
  simp only [den, gotoG]
theorem gotoG_r (a b t : Nat) (ht : t = (a + 1) * 1048576 + b) (ha : a < 1048575) (hb : b < 1048576) (env : Env) (x : Option Out) {p k o q k' o' : Nat} (h1 : env a = .ptr p k o) (h2 : env b = .ptr q k' o') (h : p ≠ q) : gotoG t env x = x := by
  have e1 : ¬ t < 1048576 := by omega
  have e2 : t < 1099511627776 := by omega
  have e3 : t / 1048576 - 1 = a := by omega
  have e4 : t % 1048576 = b := by omega
  simp only [gotoG, gotoOk, if_neg e1, if_pos e2, e3, e4, h1, h2]
  rw [beq_eq_false_iff_ne.mpr h]
  rfl
theorem gotoG_v (t v : Nat) (ht : t = v + 1099511627776) (env : Env) (x : Option Out) (xs : List AV) (h : env v = .agg xs) : gotoG t env x = x := by
  have e1 : ¬ t < 1048576 := by omega
  have e2 : ¬ t < 1099511627776 := by omega
  have e3 : t - 1099511627776 = v := by omega
  simp only [gotoG, gotoOk, if_neg e1, if_neg e2, e3, h]
  rfl
theorem z59 : zeroOf Try.prog 59 = some [.sl [] 0 .nil, .int .i64 0, .int .i64 0, .int .i64 0] := by kernel_rfl
theorem tk59 : tkOf Try.prog 59 = .st := by kernel_rfl
theorem pl59 : placesA Try.prog 59 = some [(0, 1), (1, 1), (2, 1), (3, 1)] := by kernel_rfl
theorem bd59 (bs : List UInt8) (g : Grip) (hg : g = .tight ∨ g = .loose ∨ g = .nil) (a : Int) : buildA Try.prog 59 [(0, .sl (cellsOfBytes bs) bs.length g), (1, .int .i64 a)] = some (.agg [.sl (cellsOfBytes bs) bs.length g, .int .i64 a, .int .i64 0, .int .i64 0]) := by
  rcases hg with rfl | rfl | rfl <;> (simp only [buildA, z59, tk59, pl59, Option.bind_some]; rfl)
theorem boxA_agg (d : Nat) (s : St) (xs : List AV) : boxA d s (.agg xs) = some (.ptr d ((s d).t + 1) 0, upd s d ⟨(s d).t + 1, .buf xs⟩) := by
  simp only [boxA, settle, cellsOf, Option.bind_some, Option.map_some]
def outG (r : T × Int × Int) : AV := .tup [encT r.1, .int .i64 r.2.1, .int .i64 r.2.2]
theorem finish_G (k : Bool) (xs : List Arg) (p e : Nat) (u : T) (a b : Int) (env : Env) (s : St) (os : List (List AV)) (ha : env 4 = .ptr p e 0) (hs : s p = ⟨e, .buf (cellsT u)⟩) (hb : env 5 = .int .i64 a) (hc : env 6 = .int .i64 b) (ho : outsA s 0 xs = some os) :
    finishP Try.prog k xs #[.cell 4 28, .tmp 5, .tmp 6] env s = some (.tree (outG (u, a, b)), os) := by
  have hl : loadA Try.prog 28 s (env 4) = some (.agg (cellsT u)) := by rw [ha, zeo, hs, ldT_u, if_pos rfl]
  simp [finishP, isTmpR, rvA, hl, hb, hc, settleL, settle, ho, encT, outG]
set_option maxHeartbeats 4000000 in
theorem get_of (n D : Nat) (bs : List UInt8) (g : Grip) (hg : g = .tight ∨ g = .loose ∨ g = .nil) (at_ : Int) (H : ∀ a : Nat, at_ = a → a ≤ bs.length → evalFn Try.prog cfg5 n D 31 [.ptr (rC bs g ⟨a, 0, 0⟩) 0, .tree (.int .i64 1)] = some (.tree (encT (termR bs (bs.length + 2) 1 ⟨a, 0, 0⟩).1), [rC bs g (termR bs (bs.length + 2) 1 ⟨a, 0, 0⟩).2, []])) :
    evalFn Try.prog cfg5 n (D+1) 13 [.tree (.sl (cellsOfBytes bs) bs.length g), .tree (.int .i64 at_)] = some (.tree (outG (getR bs at_)), [[], []]) := by
  rw [evalFn_goP _ Try.func13 (by unfold Try.f13; rfl) (by unfold Try.f13; decide) (Nat.le_of_ble_eq_true (by unfold Try.f13; rfl)) (by kernel_rfl)]
  simp only [simP]
  rw [prune_S (i := 6) (c := .seq (.goto (31 * 1048576 + 4)) (.seq (.goto (32 * 1048576 + 4)) (.seq (.goto (33 * 1048576 + 4)) (.seq (.goto (29 + 1099511627776)) .skip)))) (by kernel_rfl) (by kernel_rfl)]
  rw [prune_S (i := 7) (c := .seq (.goto (9 * 1048576 + 4)) (.seq (.goto (36 * 1048576 + 4)) (.seq (.goto (37 * 1048576 + 4)) (.seq (.goto (38 * 1048576 + 4)) (.seq (.goto (34 + 1099511627776)) .skip))))) (by kernel_rfl) (by kernel_rfl)]
  have e0 : env0 [.tree (.sl (cellsOfBytes bs) bs.length g), .tree (.int .i64 at_)] 0 = .sl (cellsOfBytes bs) bs.length g := rfl
  have e1 : env0 [.tree (.sl (cellsOfBytes bs) bs.length g), .tree (.int .i64 at_)] 1 = .int .i64 at_ := rfl
  have j4 : (st0 [.tree (.sl (cellsOfBytes bs) bs.length g), .tree (.int .i64 at_)] 4).t = 0 := rfl
  have j8 : (st0 [.tree (.sl (cellsOfBytes bs) bs.length g), .tree (.int .i64 at_)] 8).t = 0 := rfl
  have j21 : (st0 [.tree (.sl (cellsOfBytes bs) bs.length g), .tree (.int .i64 at_)] 21).t = 0 := rfl
  have ho : ∀ s, outsA s 0 [.tree (.sl (cellsOfBytes bs) bs.length g), .tree (.int .i64 at_)] = some [[], []] := fun s => rfl
  generalize [Arg.tree (.sl (cellsOfBytes bs) bs.length g), .tree (.int .i64 at_)] = as1 at e0 e1 j4 j8 j21 ho
  generalize env0 as1 = env at e0 e1
  generalize st0 as1 = st at j4 j8 j21
  have st0T := fun s p k' => st_Tt s p k' T0
  have s60T := fun t k' p st => stT_6 t k' p st (.int .i64 0) (.bool false) (.sl [] 0 .nil) (.str []) (.int .i64 0) (.sl [] 0 .nil) T0
  unfold getR
  by_cases hr : at_ < 0 ∨ at_ > bs.length
  · rw [if_pos hr]
    by_cases h1 : at_ < 0
    · simp only [simB, keep5, Nat.reduceBEq, own5, String.reduceAppend, String.reduceBEq, Bool.or_false, Bool.or_true, Bool.or_self, ↓reduceIte, Nat.reduceEqDiff, Nat.reduceAdd, simA, simL, simN, Nat.zero_add, e0, e1, j4, zeroT, y_lss, h1, bdY_00, st0T, s60T]
      exact finish_G _ _ 4 1 T0 _ _ _ _ _ (by simp only [zfk, ↓reduceIte, Nat.reduceEqDiff]; try rfl) (by simp only [zfk, ↓reduceIte, Nat.reduceEqDiff]; try rfl) (by simp only [zfk, ↓reduceIte, Nat.reduceEqDiff]; try rfl) (by simp only [zfk, ↓reduceIte, Nat.reduceEqDiff]; try rfl) (ho _)
    · have h2 := hr.resolve_left h1
      simp only [simB, keep5, Nat.reduceBEq, own5, String.reduceAppend, String.reduceBEq, Bool.or_false, Bool.or_true, Bool.or_self, ↓reduceIte, Nat.reduceEqDiff, Nat.reduceAdd, simA, simL, simN, Nat.zero_add, e0, e1, j4, zeroT, y_lss, y_gtr, h1, h2, lenB, bdY_00, st0T, s60T]
      exact finish_G _ _ 4 1 T0 _ _ _ _ _ (by simp only [zfk, ↓reduceIte, Nat.reduceEqDiff]; try rfl) (by simp only [zfk, ↓reduceIte, Nat.reduceEqDiff]; try rfl) (by simp only [zfk, ↓reduceIte, Nat.reduceEqDiff]; try rfl) (by simp only [zfk, ↓reduceIte, Nat.reduceEqDiff]; try rfl) (ho _)
  · rw [if_neg hr]
    have h1 : ¬ at_ < 0 := fun h => hr (.inl h)
    have h2 : ¬ at_ > bs.length := fun h => hr (.inr h)
    obtain ⟨a, rfl⟩ : ∃ a : Nat, at_ = a := ⟨at_.toNat, by omega⟩
    rw [Int.toNat_natCast]
    have ct := fun D' (st : St) (hp : st 21 = ⟨1, .buf (rC bs g ⟨a, 0, 0⟩)⟩) => callA_ptr (call := evalFn Try.prog cfg5 n D) [.int .i64 1] rfl (H a rfl (by omega)) D' hp
    obtain ⟨w, hw⟩ : ∃ w, termR bs (bs.length + 2) 1 ⟨a, 0, 0⟩ = w := ⟨_, rfl⟩
    rw [hw] at ct
    rw [hw]
    obtain ⟨u, i, tm, e⟩ := w
    have bd := bd59 bs g hg (a : Int)
    have stu := fun s p k' => st_Tt s p k' u
    have s6u := fun t k' p st => stT_6 t k' p st (.int .i64 0) (.bool false) (.sl [] 0 .nil) (.str []) (.int .i64 0) (.sl [] 0 .nil) u
    dsimp only at ct ⊢
    simp only [encT] at ct
    have z0 : ((0 : Nat) : Int) = 0 := rfl
    simp only [rC] at ct
    by_cases he : e = 0
    · have b1 : (e != 0) = false := by rw [he]; rfl
      rw [if_neg (fun h => h he)]
      simp only [simB, keep5, Nat.reduceBEq, own5, String.reduceAppend, String.reduceBEq, Bool.or_false, Bool.or_true, Bool.or_self, ↓reduceIte, Nat.reduceEqDiff, Nat.reduceAdd, simA, simL, simN, Nat.zero_add, e0, e1, j4, j8, j21, zeroT, y_lss, y_gtr, y_neq, h1, h2, lenB, bd, boxA_agg, ct, opA_nck, nckA_p, fa59_1, fa59_3, ld59_1, ld59_3, b1, ldT_u, stu, s6u, den_gotoG]
      refine Eq.trans (gotoG_r 8 4 _ rfl (by decide) (by decide) _ _ (p := 8) (k := 1) (o := 0) (q := 4) (k' := 1) (o' := 0) (by simp only [zfk, ↓reduceIte, Nat.reduceEqDiff]; try rfl) (by simp only [zfk, ↓reduceIte, Nat.reduceEqDiff]; try rfl) (by decide)) ?_
      refine Eq.trans (gotoG_r 35 4 _ rfl (by decide) (by decide) _ _ (p := 21) (k := 1) (o := 0) (q := 4) (k' := 1) (o' := 0) (by simp only [zfk, ↓reduceIte, Nat.reduceEqDiff]; try rfl) (by simp only [zfk, ↓reduceIte, Nat.reduceEqDiff]; try rfl) (by decide)) ?_
      refine Eq.trans (gotoG_r 36 4 _ rfl (by decide) (by decide) _ _ (p := 21) (k := 1) (o := 0) (q := 4) (k' := 1) (o' := 0) (by simp only [zfk, ↓reduceIte, Nat.reduceEqDiff]; try rfl) (by simp only [zfk, ↓reduceIte, Nat.reduceEqDiff]; try rfl) (by decide)) ?_
      refine Eq.trans (gotoG_r 37 4 _ rfl (by decide) (by decide) _ _ (p := 21) (k := 1) (o := 1) (q := 4) (k' := 1) (o' := 0) (by simp only [zfk, ↓reduceIte, Nat.reduceEqDiff]; try rfl) (by simp only [zfk, ↓reduceIte, Nat.reduceEqDiff]; try rfl) (by decide)) ?_
      refine Eq.trans (gotoG_v _ 34 rfl _ _ (cellsT u) (by simp only [zfk, ↓reduceIte, Nat.reduceEqDiff]; try rfl)) ?_
      exact finish_G _ _ 4 1 u _ _ _ _ _ (by simp only [zfk, ↓reduceIte, Nat.reduceEqDiff]; try rfl) (by simp only [zfk, ↓reduceIte, Nat.reduceEqDiff]; try rfl) (by simp only [zfk, ↓reduceIte, Nat.reduceEqDiff]; try rfl) (by simp only [zfk, ↓reduceIte, Nat.reduceEqDiff]; try rfl) (ho _)
    · have b1 : (e != 0) = true := by simpa using he
      rw [if_pos he]
      simp only [simB, keep5, Nat.reduceBEq, own5, String.reduceAppend, String.reduceBEq, Bool.or_false, Bool.or_true, Bool.or_self, ↓reduceIte, Nat.reduceEqDiff, Nat.reduceAdd, simA, simL, simN, Nat.zero_add, e0, e1, j4, j8, j21, zeroT, y_lss, y_gtr, y_neq, h1, h2, lenB, bd, boxA_agg, ct, opA_nck, nckA_p, fa59_1, fa59_3, ld59_1, ld59_3, b1, ldT_u, stu, s6u, bdY_00, st0T, s60T, den_gotoG]
      refine Eq.trans (gotoG_r 30 4 _ rfl (by decide) (by decide) _ _ (p := 21) (k := 1) (o := 0) (q := 4) (k' := 1) (o' := 0) (by simp only [zfk, ↓reduceIte, Nat.reduceEqDiff]; try rfl) (by simp only [zfk, ↓reduceIte, Nat.reduceEqDiff]; try rfl) (by decide)) ?_
      refine Eq.trans (gotoG_r 31 4 _ rfl (by decide) (by decide) _ _ (p := 21) (k := 1) (o := 0) (q := 4) (k' := 1) (o' := 0) (by simp only [zfk, ↓reduceIte, Nat.reduceEqDiff]; try rfl) (by simp only [zfk, ↓reduceIte, Nat.reduceEqDiff]; try rfl) (by decide)) ?_
      refine Eq.trans (gotoG_r 32 4 _ rfl (by decide) (by decide) _ _ (p := 21) (k := 1) (o := 3) (q := 4) (k' := 1) (o' := 0) (by simp only [zfk, ↓reduceIte, Nat.reduceEqDiff]; try rfl) (by simp only [zfk, ↓reduceIte, Nat.reduceEqDiff]; try rfl) (by decide)) ?_
      refine Eq.trans (gotoG_v _ 29 rfl _ _ (cellsT T0) (by simp only [zfk, ↓reduceIte, Nat.reduceEqDiff]; try rfl)) ?_
      exact finish_G _ _ 4 1 T0 _ _ _ _ _ (by simp only [zfk, ↓reduceIte, Nat.reduceEqDiff]; try rfl) (by simp only [zfk, ↓reduceIte, Nat.reduceEqDiff]; try rfl) (by simp only [zfk, ↓reduceIte, Nat.reduceEqDiff]; try rfl) (by simp only [zfk, ↓reduceIte, Nat.reduceEqDiff]; try rfl) (ho _)
theorem get_eq (n D : Nat) (hn : 2200 ≤ n) (bs : List UInt8) (g : Grip) (hg : g = .tight ∨ g = .loose ∨ g = .nil) (hl : bs.length ≤ 150000000000000) (hD : 3 * (bs.length + 2) + 6030 ≤ D) (hbig : (110 : UInt8) ∈ bs → ∀ D, 6000 ≤ D → BigOk n D) (at_ : Int) :
    evalFn Try.prog cfg5 n (D+1) 13 [.tree (.sl (cellsOfBytes bs) bs.length g), .tree (.int .i64 at_)] = some (.tree (outG (getR bs at_)), [[], []]) :=
  get_of n D bs g hg at_ fun a _ ha => term_eq n hn bs g (bs.length + 2) D 1 0 (by omega) (by omega) (by decide) (by decide) (fun i _ h => hbig (List.mem_of_mem_drop (List.mem_of_mem_take (by rw [h]; exact List.mem_singleton.2 rfl)))) ⟨a, 0, 0⟩ ⟨ha, hl, by dsimp only; omega, by dsimp only; omega, fun _ => by dsimp only; omega⟩ (fun _ => Nat.zero_le _)
end Go.Ab

/- Readings of long lists and of deep tuples: plain mathematics. Conditions: lengths in range. -/
namespace Go.Ab
open Go.Proofs
set_option maxRecDepth 100000

theorem take1_ok {bs : List UInt8} {i : Nat} {tm : Int} {c : UInt8} (hb : (bs.drop i).take 1 = [c]) : (takeR bs ⟨i, tm, 0⟩ 1).2.e = 0 ∧ i + 1 ≤ bs.length := by
  have h : i + 1 ≤ bs.length := by
    have := congrArg List.length hb
    simp only [List.length_take, List.length_drop, List.length_cons, List.length_nil] at this
    omega
  refine ⟨?_, h⟩
  unfold takeR
  rw [if_neg (fun hh => by
    rcases hh with hh | hh
    · exact hh rfl
    · dsimp only at hh; omega)]
theorem termR_bad (bs : List UInt8) (f : Nat) (deep : Int) (s : RS) (he : s.e ≠ 0) : termR bs f deep s = (T0, s) := by
  cases f with
  | zero => rfl
  | succ f =>
    have h1 : takeR bs s 1 = (none, s) := by
      unfold takeR
      rw [if_pos (.inl he)]
      unfold RS.fail
      rw [if_neg he]
    simp only [termR]
    rw [h1]
    dsimp only
    rw [if_pos he]
theorem plain106 {bs : List UInt8} {s : RS} {fr : Nat} (hi : s.i = fr + 1) (hb : (bs.drop fr).take 1 = [106]) : plainR bs s 106 fr = (nilT', s) := by
  have key : plainR bs s 106 fr = (nilT', endR bs s nilT' fr) := by
    unfold plainR
    simp only [show ¬ (106 = 97) by decide, show ¬ (106 = 98) by decide, show ¬ (106 = 110) by decide, show ¬ (106 = 119) by decide, show ¬ (106 = 109) by decide, ↓reduceIte]
    rfl
  rw [key]
  unfold endR
  rw [if_neg]
  intro h
  have e1 : s.i - fr = 1 := by omega
  rw [e1, hb] at h
  exact h.2 ⟨rfl, rfl⟩
theorem manyR_of {bs : List UInt8} {s r : RS} {n : Nat} {a b v : Int} {x : List UInt8} (h : takeR bs s n = (some x, r)) (he : r.e = 0) (hv : beV x 0 = v) : manyR bs s n a b = if v < a ∨ b < v then (0, r.fail 4) else (v, r) := by
  subst hv
  unfold manyR
  dsimp only
  rw [h]
  dsimp only [Option.getD_some]
  rw [if_neg (fun hh => hh he)]
end Go.Ab

/- Readings of deep tuples: plain mathematics. Conditions: lengths in range. -/
namespace Go.Ab
open Go.Proofs
set_option maxRecDepth 100000

end Go.Ab

/- ext.Get of long lists and of deep tuples (CFG5). Conditions: lengths in range. -/
namespace Go.Ab
open Go.Proofs
set_option maxRecDepth 100000

end Go.Ab

/- The example of the statements on bytes, by the kernel's own reckoning (CFG5). No conditions. -/
namespace Go.Ab
open Go.Proofs
theorem awake5_eq : evalFn Try.prog cfg5 2200 20 9 [] = some (.tree (.bool true), []) := isOkT_eq (by kernel_rfl)
end Go.Ab

/- ExtLong gives true (CFG5). No conditions. -/
namespace Go.Ab
open Go.Proofs
set_option maxRecDepth 100000
set_option linter.unusedSimpArgs false

theorem callA_tok1 {call : FuncId → List Arg → Option Out} {f : FuncId} {st : St} {xs : List AV} {len p t : Nat} {r : AV} (z : Int) (hl : cfg5.lin f 0 = false) (hc : call f [.tree (.sl xs len .loose), .tree (.int .i64 z)] = some (.tree r, [[], []])) (D : Nat) :
    callA cfg5 call D st f [.sl xs len (.tok p t), .int .i64 z] = some (r, st) := by
  have ha : argsA cfg5 f st 0 [.sl xs len (.tok p t), .int .i64 z] = some [.tree (.sl xs len .loose), .tree (.int .i64 z)] := by
    simp only [argsA, argA, hl]
    rfl
  have h1 : givesL [.sl xs len (.tok p t), .int .i64 z] [.tree (.sl xs len .loose), .tree (.int .i64 z)] = [] := rfl
  have h2 : lendsL [.sl xs len (.tok p t), .int .i64 z] [.tree (.sl xs len .loose), .tree (.int .i64 z)] = [] := rfl
  have h3 : backA st [.sl xs len (.tok p t), .int .i64 z] [.tree (.sl xs len .loose), .tree (.int .i64 z)] [[], []] = some st := rfl
  simp only [callA, ha, Option.bind_some, h1, h2, List.nodup_nil, List.not_mem_nil, false_implies, implies_true, and_self, if_true, hc, List.foldl_nil, ite_self, h3, resA]
end Go.Ab

/- A number of its sign and bytes, as the program makes it (CFG5). Conditions: at most 49 bytes. -/
namespace Go.Ab
open Go.Proofs
set_option maxRecDepth 100000
set_option linter.unusedSimpArgs false

def limO (x : List UInt8) (j : Nat) : Nat := (x.getD (4 * j) 0).toNat + 256 * (x.getD (4 * j + 1) 0).toNat + 65536 * (x.getD (4 * j + 2) 0).toNat + 16777216 * (x.getD (4 * j + 3) 0).toNat
theorem limR_len (x : List UInt8) : ∀ m j, (limR x m j).length = m
  | 0, j => rfl
  | m + 1, j => by simp only [limR, List.length_cons, limR_len x m]
theorem limR_get (x : List UInt8) : ∀ m j k, k < m → (limR x m j)[k]? = some (limO x (j + k))
  | 0, j, k, h => by omega
  | m + 1, j, 0, h => rfl
  | m + 1, j, k + 1, h => by
    simp only [limR, List.getElem?_cons_succ]
    rw [limR_get x m (j + 1) k (by omega), show j + 1 + k = j + (k + 1) by omega]
theorem limR_getD (x : List UInt8) (m k : Nat) (h : k < m) : (limR x m 0).getD k 0 = limO x k := by
  rw [List.getD_eq_getElem?_getD, limR_get x m 0 k h, Nat.zero_add]; rfl
theorem limR_zero (m : Nat) : ∀ j, limR [] m j = List.replicate m 0 := by
  induction m with
  | zero => intro j; rfl
  | succ m ih => intro j; simp only [limR, ih, List.replicate_succ, List.getD_nil]; rfl
theorem getD_take_le (y : List UInt8) (i k : Nat) (h : i ≤ k) : (y.take i).getD k 0 = 0 := by
  rw [List.getD_eq_getElem?_getD, List.getElem?_take, if_neg (by omega)]; rfl
theorem getD_take_lt (y : List UInt8) (i k : Nat) (h : k < i) : (y.take i).getD k 0 = y.getD k 0 := by
  rw [List.getD_eq_getElem?_getD, List.getElem?_take, if_pos h, List.getD_eq_getElem?_getD]
theorem limO_other (y : List UInt8) (i j : Nat) (h : j ≠ i / 4) : limO (y.take (i + 1)) j = limO (y.take i) j := by
  have g : ∀ k, k ≠ i → (y.take (i + 1)).getD k 0 = (y.take i).getD k 0 := fun k hk => by
    rcases Nat.lt_or_ge k i with h1 | h1
    · rw [getD_take_lt _ _ _ h1, getD_take_lt _ _ _ (by omega)]
    · rw [getD_take_le _ _ _ h1, getD_take_le _ _ _ (by omega)]
  unfold limO
  rw [g _ (by omega), g _ (by omega), g _ (by omega), g _ (by omega)]
theorem limO_here (y : List UInt8) (i : Nat) : limO (y.take i) (i / 4) < 2 ^ (8 * (i % 4)) ∧ limO (y.take (i + 1)) (i / 4) = limO (y.take i) (i / 4) + (y.getD i 0).toNat * 2 ^ (8 * (i % 4)) := by
  obtain ⟨j, r, rfl, hr⟩ : ∃ j r, i = 4 * j + r ∧ r < 4 := ⟨i / 4, i % 4, by omega, by omega⟩
  have e1 : (4 * j + r) / 4 = j := by omega
  have e2 : (4 * j + r) % 4 = r := by omega
  rw [e1, e2]
  have b : ∀ k, (y.getD k 0).toNat < 256 := fun k => (y.getD k 0).toNat_lt
  have b0 := b (4 * j)
  have b1 := b (4 * j + 1)
  have b2 := b (4 * j + 2)
  unfold limO
  have hz : ((0 : UInt8)).toNat = 0 := rfl
  have lt : ∀ i k, k < i → (y.take i).getD k 0 = y.getD k 0 := getD_take_lt y
  have le : ∀ i k, i ≤ k → (y.take i).getD k 0 = 0 := getD_take_le y
  match r, hr with
  | 0, _ =>
    rw [le (4 * j + 0) (4 * j) (by omega), le (4 * j + 0) (4 * j + 1) (by omega), le (4 * j + 0) (4 * j + 2) (by omega), le (4 * j + 0) (4 * j + 3) (by omega), lt (4 * j + 0 + 1) (4 * j) (by omega), le (4 * j + 0 + 1) (4 * j + 1) (by omega), le (4 * j + 0 + 1) (4 * j + 2) (by omega), le (4 * j + 0 + 1) (4 * j + 3) (by omega), hz]
    exact ⟨by decide, by simp only [Nat.add_zero]; omega⟩
  | 1, _ =>
    rw [lt (4 * j + 1) (4 * j) (by omega), le (4 * j + 1) (4 * j + 1) (by omega), le (4 * j + 1) (4 * j + 2) (by omega), le (4 * j + 1) (4 * j + 3) (by omega), lt (4 * j + 1 + 1) (4 * j) (by omega), lt (4 * j + 1 + 1) (4 * j + 1) (by omega), le (4 * j + 1 + 1) (4 * j + 2) (by omega), le (4 * j + 1 + 1) (4 * j + 3) (by omega), hz]
    exact ⟨by omega, by omega⟩
  | 2, _ =>
    rw [lt (4 * j + 2) (4 * j) (by omega), lt (4 * j + 2) (4 * j + 1) (by omega), le (4 * j + 2) (4 * j + 2) (by omega), le (4 * j + 2) (4 * j + 3) (by omega), lt (4 * j + 2 + 1) (4 * j) (by omega), lt (4 * j + 2 + 1) (4 * j + 1) (by omega), lt (4 * j + 2 + 1) (4 * j + 2) (by omega), le (4 * j + 2 + 1) (4 * j + 3) (by omega), hz]
    exact ⟨by omega, by omega⟩
  | 3, _ =>
    rw [lt (4 * j + 3) (4 * j) (by omega), lt (4 * j + 3) (4 * j + 1) (by omega), lt (4 * j + 3) (4 * j + 2) (by omega), le (4 * j + 3) (4 * j + 3) (by omega), lt (4 * j + 3 + 1) (4 * j) (by omega), lt (4 * j + 3 + 1) (4 * j + 1) (by omega), lt (4 * j + 3 + 1) (4 * j + 2) (by omega), lt (4 * j + 3 + 1) (4 * j + 3) (by omega), hz]
    exact ⟨by omega, by omega⟩
theorem limR_step (y : List UInt8) (i m : Nat) (h : i / 4 < m) : (limR (y.take i) m 0).set (i / 4) (limO (y.take (i + 1)) (i / 4)) = limR (y.take (i + 1)) m 0 := by
  apply List.ext_getElem?
  intro k
  rw [List.getElem?_set]
  by_cases hk : k < m
  · rw [limR_get _ _ _ _ hk, limR_get _ _ _ _ hk, Nat.zero_add]
    by_cases e : i / 4 = k
    · subst e; rw [if_pos rfl, if_pos (by rw [limR_len]; exact h)]
    · rw [if_neg e, limO_other _ _ _ (fun h => e h.symm)]
  · rw [if_neg (by omega), List.getElem?_eq_none (by rw [limR_len]; omega), List.getElem?_eq_none (by rw [limR_len]; omega)]

theorem bdG_N (b : Bool) (q u N : Nat) : buildG Try.prog 25 [(0, .bool b), (1, .own q u 0 N 1)] = some (.aggo [.bool b] q u 0 N 1) := by
  simp only [buildG, tk24, zew, pl24, Option.bind_some]; rfl
theorem stH_N (s : St) (p t q u N : Nat) (a b x : AV) (h : s p = ⟨t, .buf [a, b]⟩) : storeH Try.prog 25 s (.ptr p t 0) (.aggo [x] q u 0 N 1) = some (upd s p ⟨t, .mix [x, .undef] [(1, .own q u 0 N 1)]⟩) := by
  simp [storeH, h, esz24, splice]
theorem faE_mix (t p k off : Nat) (xs : List AV) (hs : List (Nat × AV)) : faE ⟨t, .mix xs hs⟩ p k off = if t = k then some (.ptr p k off) else none := by
  simp only [faE, cellsE]
  by_cases e : t = k <;> simp [e]
theorem ldE_mix22 (t k : Nat) (a b v : AV) : ldE Try.prog 23 ⟨t, .mix [a, b] [(1, v)]⟩ k 1 = if t = k then some v else none := by
  simp only [ldE, ldC, sh22, heldL, if_true]
theorem ldE_mix24 (t k q u N : Nat) (a b : AV) : ldE Try.prog 25 ⟨t, .mix [a, b] [(1, .own q u 0 N 1)]⟩ k 0 = if t = k then some (.aggo [a] q u 0 N 1) else none := by
  simp [ldE, ldC, sh24, heldL]
theorem st_aggo (s : St) (p t q u N : Nat) (a b x : AV) (xs : List AV) (h : s p = ⟨t, .buf [a, b]⟩) (hq : s q = ⟨u, .buf xs⟩) (hpq : p ≠ q) (hl : N ≤ xs.length) : storeA Try.prog 25 s (.ptr p t 0) (.aggo [x] q u 0 N 1) = some (upd (upd s q ⟨u, .frz xs⟩) p ⟨t, .buf [x, .sl (xs.take N) N .loose]⟩) := by
  have h2 : upd s q ⟨u, .frz xs⟩ p = ⟨t, .buf [a, b]⟩ := by rw [upd_ne _ _ hpq]; exact h
  simp [storeA, settle, hq, hl, h2, esz24, splice]
theorem slLo1 (s : St) (x : List UInt8) (g : Grip) (h : 1 ≤ x.length) : ∃ g', sliceA Try.prog 22 s (.sl (cellsOfBytes x) x.length g) (some (.int .i64 1)) none none = some (.sl (cellsOfBytes x.tail) x.tail.length g') := by
  have hx : (cellsOfBytes x).length = x.length * 1 := by simp [cellsOfBytes]
  simp only [sliceA, tkB, eszB, Option.isSome_none, Bool.false_eq_true, false_and, if_false, boundA, Option.bind_some, hx, if_true]
  rw [if_pos (by omega)]
  simp only [Option.bind_some]
  have ht : (cellsOfBytes x).take (x.length * 1) = cellsOfBytes x := List.take_of_length_le (by rw [hx]; exact Nat.le_refl _)
  rw [ht, Nat.mul_one, show (1 : Int).toNat = 1 from rfl, cB_drop, List.drop_one, List.length_tail]
  exact ⟨_, rfl⟩
theorem y_shlI (a K : Nat) (hK : K < 32) (h : a * 2 ^ K < 4294967296) : binA Try.prog .shl 56 (.int .u32 (a : Int)) (.int .i64 (K : Int)) = some (.int .u32 ((a * 2 ^ K : Nat) : Int)) := by
  have hm : min ((K : Int).toNat) 32 = K := by omega
  have e : (a : Int) * 2 ^ K = ((a * 2 ^ K : Nat) : Int) := by rw [Int.natCast_mul, Int.natCast_pow]; rfl
  simp only [binA, shA, IntKind.bits]
  rw [if_neg (by omega)]
  simp only [hm, e]
  have w : IntKind.u32.wrap ((a * 2 ^ K : Nat) : Int) = ((a * 2 ^ K : Nat) : Int) := by
    generalize a * 2 ^ K = q at *
    show (q : Int) % 4294967296 = q
    omega
  rw [w]
theorem y_orU (a b : Nat) (h : a < 4294967296) (h' : b < 4294967296) : binA Try.prog .or 56 (.int .u32 (a : Int)) (.int .u32 (b : Int)) = some (.int .u32 (((a ||| b) : Nat) : Int)) := by
  have h1 : (BitVec.ofInt 32 (a : Int) ||| BitVec.ofInt 32 (b : Int)).toNat = a ||| b := by
    rw [BitVec.toNat_or]
    simp only [BitVec.ofInt_natCast, BitVec.toNat_ofNat]
    rw [Nat.mod_eq_of_lt (by omega), Nat.mod_eq_of_lt (by omega)]
  have h2 : a ||| b < 2 ^ 32 := Nat.or_lt_two_pow (by omega) (by omega)
  show some (AV.int .u32 (IntKind.u32.wrap ((BitVec.ofInt 32 (a : Int) ||| BitVec.ofInt 32 (b : Int)).toNat : Int))) = _
  rw [h1]
  generalize a ||| b = c at *
  have w : IntKind.u32.wrap (c : Int) = (c : Int) := by
    show (c : Int) % 4294967296 = c
    omega
  rw [w]
theorem y_mul8 (r : Nat) (h : r < 4) : binA Try.prog .mul 3 (.int .i64 8) (.int .i64 (r : Int)) = some (.int .i64 ((8 * r : Nat) : Int)) := by
  have e : (8 : Int) * (r : Int) = ((8 * r : Nat) : Int) := by omega
  simp only [binA, intA, if_true, e]
  rw [i64_wrap _ (by omega) (by omega)]
set_option maxHeartbeats 8000000 in
theorem big_eq (n d : Nat) (hn : 100 ≤ n) : BigOk n (d + 1) := by
  intro o ho1
  obtain ⟨gv, hgv⟩ := takeV_row o
  rw [hgv]
  generalize o.getD [] = x at ho1 ⊢
  rw [evalFn_go _ Try.func83 (by unfold Try.f83; rfl) (by unfold Try.f83; decide) (Nat.le_of_ble_eq_true (by unfold Try.f83; rfl)) (by kernel_rfl)]
  have e0 : env0 [.tree (.sl (cellsOfBytes x) x.length gv)] 0 = .sl (cellsOfBytes x) x.length gv := rfl
  have j2 : ∀ j, (st0 [.tree (.sl (cellsOfBytes x) x.length gv)] j).t = 0 := fun j => by
    rcases j with _ | j <;> rfl
  have ho : ∀ s', outsA s' 0 [.tree (.sl (cellsOfBytes x) x.length gv)] = some [[]] := fun s' => rfl
  generalize [Arg.tree (.sl (cellsOfBytes x) x.length gv)] = as1 at e0 j2 ho
  generalize env0 as1 = env at e0
  generalize st0 as1 = st at j2
  unfold bigR
  by_cases hx : x.length < 2
  · have q1 : (x.length : Int) < 2 := by omega
    rw [if_pos hx]
    simp only [simB, keep5, Nat.reduceBEq, own5, String.reduceAppend, String.reduceBEq, Bool.or_false, Bool.or_true, Bool.or_self, ↓reduceIte, Nat.reduceEqDiff, Nat.reduceAdd, simA, simL, simN, Nat.zero_add, e0, j2, lenB, y_lss, q1]
    exact finish_c _ _ _ _ _ _ _ _ _ _ (by simp only [zfk, ↓reduceIte, Nat.reduceEqDiff]; try rfl) (by simp only [zfk, ↓reduceIte, Nat.reduceEqDiff]; try rfl) (ho _)
  · have q1 : ¬ (x.length : Int) < 2 := by omega
    rw [if_neg hx]
    obtain ⟨c, y, rfl⟩ : ∃ c y, x = c :: y := by
      cases x with
      | nil => simp at hx
      | cons c y => exact ⟨c, y, rfl⟩
    simp only [List.headD_cons, List.tail_cons]
    have ia0 := fun st => iaB st (c :: y) gv 0 (by omega)
    rw [List.drop_zero] at ia0
    have ld0 := fun st => ldB st c y
    have hb : ((c.toNat : Int) == 1) = (c == 1) := by
      rw [Bool.eq_iff_iff]
      simp only [beq_iff_eq]
      constructor
      · intro h; apply UInt8.toNat_inj.1; show c.toNat = 1; omega
      · intro h; subst h; rfl
    have hlen : (c :: y).length ≤ 49 := ho1
    have a1 := i_add Try.prog 3 ((c :: y).length : Int) 2 (by omega) (by omega)
    have a2 := i_quo Try.prog 3 ((c :: y).length + 2) 4 (by decide) (by omega)
    rw [show (((c :: y).length + 2 : Nat) : Int) = ((c :: y).length : Int) + 2 by omega, show ((4 : Nat) : Int) = 4 from rfl] at a2
    obtain ⟨N, hN⟩ : ∃ N, ((c :: y).length + 2) / 4 = N := ⟨_, rfl⟩
    rw [hN] at a2 ⊢
    have hN4 : y.length ≤ 4 * N := by simp only [List.length_cons] at hN; omega
    have hN1 : N ≤ 12 := by omega
    have mk := fun s => make22 18 s (N : Int) (by omega) (by omega)
    simp only [Int.toNat_natCast] at mk
    obtain ⟨g', hsl0⟩ := slLo1 dead (c :: y) gv (by simp only [List.length_cons]; omega)
    have hsl : ∀ s, sliceA Try.prog 22 s (.sl (cellsOfBytes (c :: y)) (c :: y).length gv) (some (.int .i64 1)) none none = some (.sl (cellsOfBytes y) y.length g') := fun s => hsl0
    have ia0' : ∀ st, indexAddrA Try.prog 22 st (.sl (cellsOfBytes (c :: y)) (c :: y).length gv) (.int .i64 0) = some (.rptr (cellsOfBytes (c :: y))) := ia0
    simp only [simB, keep5, Nat.reduceBEq, own5, String.reduceAppend, String.reduceBEq, Bool.or_false, Bool.or_true, Bool.or_self, ↓reduceIte, Nat.reduceEqDiff, Nat.reduceAdd, simA, simL, simN, Nat.zero_add, e0, j2, lenB, y_lss, q1, ia0', ld0, y_eql8, hb, a1, a2, mk, bdG_N]
    rw [stH_N _ 3 1 18 1 N (.bool false) (.sl [] 0 .nil) (.bool (c == 1)) (by simp only [zfk, ↓reduceIte, Nat.reduceEqDiff]; try rfl)]
    simp only [simB, keep5, Nat.reduceBEq, own5, String.reduceAppend, String.reduceBEq, Bool.or_false, Bool.or_true, Bool.or_self, ↓reduceIte, Nat.reduceEqDiff, Nat.reduceAdd, simA, simL, simN, Nat.zero_add, e0, hsl, lenB, den_loop]
    have hL0 : limR (y.take 0) N 0 = List.replicate N 0 := by rw [List.take_zero, limR_zero]
    refine loop_ends (X := Nat) (fun i env s => env 2 = .ptr 2 1 0 ∧ env 3 = .ptr 3 1 0 ∧ env 21 = .sl (cellsOfBytes y) y.length g' ∧ env 22 = .int .i64 (y.length : Int) ∧ env 23 = .int .i64 (i : Int) ∧ i ≤ y.length ∧ s 2 = ⟨1, .buf [.bool false, .sl [] 0 .nil]⟩ ∧ s 3 = ⟨1, .mix [.bool (c == 1), .undef] [(1, .own 18 1 0 N 1)]⟩ ∧ s 18 = ⟨1, .buf (encC (limR (y.take i) N 0))⟩) (fun i => y.length - i) (fun _ => (.tree (encA (c == 1) .l (limR y N 0)), [[]])) ?_ n 0 _ _ (by simp only [List.length_cons] at hlen; omega) ⟨(by simp only [zfk, ↓reduceIte, Nat.reduceEqDiff]; try rfl), (by simp only [zfk, ↓reduceIte, Nat.reduceEqDiff]; try rfl), (by simp only [zfk, ↓reduceIte, Nat.reduceEqDiff]; try rfl), (by simp only [zfk, ↓reduceIte, Nat.reduceEqDiff]; try rfl), (by simp only [zfk, ↓reduceIte, Nat.reduceEqDiff]; try rfl), Nat.zero_le _, (by simp only [zfk, ↓reduceIte, Nat.reduceEqDiff]; try rfl), (by simp only [zfk, ↓reduceIte, Nat.reduceEqDiff]; try rfl), (by simp only [zfk, ↓reduceIte, Nat.reduceEqDiff, hL0]; try rfl)⟩
    rintro rd i hrd ih env1 s1 ⟨e2, e3, e21, e22, e23, hi, k2, k3, k18⟩
    cases hdr : y.drop i with
    | cons v q =>
      have hlt : i < y.length := by have := congrArg List.length hdr; simp only [List.length_drop, List.length_cons] at this; omega
      have q3 : (i : Int) < (y.length : Int) := by omega
      have ia := fun st => iaB st y g' i hlt
      rw [hdr] at ia
      have ld := fun st => ldB st v q
      have hv : v.toNat < 256 := v.toNat_lt
      have hyv : y.getD i 0 = v := by
        have hxi : y[i]? = some v := by rw [← Nat.add_zero i, ← List.getElem?_drop, hdr]; rfl
        rw [List.getD_eq_getElem?_getD, hxi]; rfl
      have hiN : i / 4 < N := by omega
      have c1 := i_quo Try.prog 3 i 4 (by decide) (by omega)
      have c2 := i_rem Try.prog 3 i 4 (by decide)
      rw [show ((4 : Nat) : Int) = 4 from rfl] at c1 c2
      have c3 := y_mul8 (i % 4) (by omega)
      have hpow : 256 * 2 ^ (8 * (i % 4)) ≤ 4294967296 := by
        have h : i % 4 < 4 := Nat.mod_lt _ (by decide)
        generalize i % 4 = r at h ⊢
        match r, h with
        | 0, _ => decide
        | 1, _ => decide
        | 2, _ => decide
        | 3, _ => decide
      have hmul : v.toNat * 2 ^ (8 * (i % 4)) < 4294967296 := Nat.lt_of_lt_of_le ((Nat.mul_lt_mul_right (Nat.two_pow_pos _)).2 hv) hpow
      have c4 := y_shlI v.toNat (8 * (i % 4)) (by omega) hmul
      have c5 := fun s => conv5_31 s v.toNat hv
      obtain ⟨hold, hnew⟩ := limO_here y i
      rw [hyv] at hnew
      have hold2 : limO (y.take i) (i / 4) < 4294967296 := by
        have : 2 ^ (8 * (i % 4)) ≤ 256 * 2 ^ (8 * (i % 4)) := Nat.le_mul_of_pos_left _ (by decide)
        omega
      have c6 := y_orU (limO (y.take i) (i / 4)) (v.toNat * 2 ^ (8 * (i % 4))) hold2 hmul
      rw [shl_or _ _ _ hold, ← hnew] at c6
      have hLl : (limR (y.take i) N 0).length = N := limR_len _ _ _
      have c7 : ∀ s, s 18 = (⟨1, .buf (encC (limR (y.take i) N 0))⟩ : Ent) → indexAddrA Try.prog 23 s (.own 18 1 0 N 1) (.int .i64 ((i / 4 : Nat) : Int)) = some (.ptr 18 1 (i / 4)) := fun s h => by
        have := ia_own s 18 1 (limR (y.take i) N 0) N .i64 ((i / 4 : Nat) : Int) h (by omega) (by omega)
        rwa [Int.toNat_natCast] at this
      have c8 : ∀ s, s 18 = (⟨1, .buf (encC (limR (y.take i) N 0))⟩ : Ent) → loadA Try.prog 56 s (.ptr 18 1 (i / 4)) = some (.int .u32 (limO (y.take i) (i / 4) : Int)) := fun s h => by
        rw [ld_own s 18 1 (limR (y.take i) N 0) (i / 4) h (by omega), limR_getD _ _ _ hiN]
      have c9 : ∀ s, s 18 = (⟨1, .buf (encC (limR (y.take i) N 0))⟩ : Ent) → storeA Try.prog 56 s (.ptr 18 1 (i / 4)) (.int .u32 (limO (y.take (i + 1)) (i / 4) : Int)) = some (upd s 18 ⟨1, .buf (encC (limR (y.take (i + 1)) N 0))⟩) := fun s h => by
        rw [st31 s 18 1 (limR (y.take i) N 0) (i / 4) _ h (by omega), limR_step _ _ _ hiN]
      have c10 := i_add Try.prog 3 (i : Int) 1 (by omega) (by omega)
      simp only [simB, keep5, Nat.reduceBEq, own5, String.reduceAppend, String.reduceBEq, Bool.or_false, Bool.or_true, Bool.or_self, ↓reduceIte, Nat.reduceEqDiff, Nat.reduceAdd, simA, simL, simN, Nat.zero_add, y_lss, e2, e3, e21, e22, e23, q3, ia, ld, k3, faE_mix, ldE_mix22, c1, c2, c3, c4, c5, c6, c7 _ k18, c8 _ k18, c9 _ k18, c10]
      exact ih (i + 1) _ _ (by omega) rfl ⟨(by simp only [zfk, ↓reduceIte, Nat.reduceEqDiff, e2]; try rfl), (by simp only [zfk, ↓reduceIte, Nat.reduceEqDiff, e3]; try rfl), (by simp only [zfk, ↓reduceIte, Nat.reduceEqDiff, e21]; try rfl), (by simp only [zfk, ↓reduceIte, Nat.reduceEqDiff, e22]; try rfl), (by simp only [zfk, ↓reduceIte, Nat.reduceEqDiff]; try rfl), by omega, (by simp only [zfk, ↓reduceIte, Nat.reduceEqDiff, k2]; try rfl), (by simp only [zfk, ↓reduceIte, Nat.reduceEqDiff, k3]; try rfl), (by simp only [zfk, ↓reduceIte, Nat.reduceEqDiff]; try rfl)⟩
    | nil =>
      have hie : i = y.length := by have := congrArg List.length hdr; simp only [List.length_drop, List.length_nil] at this; omega
      subst hie
      rw [List.take_length] at k18
      have q3 : ¬ (y.length : Int) < (y.length : Int) := by omega
      have hLl : (encC (limR y N 0)).length = N := by rw [encC_len, limR_len]
      simp only [simB, keep5, Nat.reduceBEq, own5, String.reduceAppend, String.reduceBEq, Bool.or_false, Bool.or_true, Bool.or_self, ↓reduceIte, Nat.reduceEqDiff, Nat.reduceAdd, simA, simL, simN, Nat.zero_add, y_lss, e2, e3, e21, e22, e23, q3, k3, ldE_mix24]
      rw [st_aggo _ 2 1 18 1 N _ _ _ _ k2 k18 (by decide) (by omega)]
      simp only [simB, keep5, Nat.reduceBEq, own5, String.reduceAppend, String.reduceBEq, Bool.or_false, Bool.or_true, Bool.or_self, ↓reduceIte, Nat.reduceEqDiff, Nat.reduceAdd, simA, simL, simN, Nat.zero_add]
      have htk : (encC (limR y N 0)).take N = encC (limR y N 0) := List.take_of_length_le (by omega)
      rw [htk]
      refine (finish_c _ _ _ 2 1 (.bool (c == 1)) (.sl (encC (limR y N 0)) N .loose) _ _ _ (by simp only [zfk, ↓reduceIte, Nat.reduceEqDiff, e2]; try rfl) (by simp only [zfk, ↓reduceIte, Nat.reduceEqDiff]; try rfl) (ho _)).trans ?_
      rw [encA, encL, limR_len]; rfl
end Go.Ab

/- Numbers, names, texts that were written are read: plain mathematics. Conditions: places in range. -/
namespace Go.Ab
open Go.Proofs
set_option maxRecDepth 100000

theorem take_pre {bs w r : List UInt8} {i : Nat} (h : bs.drop i = w ++ r) (hw : w ≠ []) (tm : Int) : takeR bs ⟨i, tm, 0⟩ w.length = (some w, ⟨i + w.length, tm, 0⟩) := by
  have hl : i + w.length ≤ bs.length := by
    have := congrArg List.length h
    rw [List.length_drop, List.length_append] at this
    have : w.length ≠ 0 := fun e => hw (List.length_eq_zero_iff.1 e)
    omega
  unfold takeR
  rw [if_neg (fun hh => by
    rcases hh with hh | hh
    · exact hh rfl
    · dsimp only at hh; omega)]
  dsimp only
  rw [h, List.take_left]
theorem drop_pre {bs w r : List UInt8} {i : Nat} (h : bs.drop i = w ++ r) : bs.drop (i + w.length) = r := by
  rw [← List.drop_drop, h, List.drop_left]
theorem be32_val (v : Int) (h0 : 0 ≤ v) (h : v < 4294967296) : beV (be32 v) 0 = v := by
  simp only [be32, beV, u8, UInt8.toNat_ofNat']
  omega
theorem be32_neg (z : Int) (h0 : -2147483648 ≤ z) (h : z ≤ 2147483647) : i32 (beV (be32 z) 0) = z := by
  simp only [be32, beV, u8, UInt8.toNat_ofNat', i32]
  split <;> omega
def numT' (b : Bool) (g : Gk) (l : List Nat) : T := .mk 1 b g l [] 0 .n []
theorem putB_num (b : Bool) (g : Gk) (l : List Nat) : putB (numT' b g l) = numB b l := by
  simp only [putB, numT', putA]; rfl
theorem own_numT {b : Bool} {g : Gk} {l : List Nat} (h : chkN b l = true) : ownT (numT' b g l) = true := by
  simp [ownT, numT', h]
theorem small_num {b : Bool} {l : List Nat} (hL : Limbs l) (h : chkN b l = true) : smallT (numZ b l) = numT' b (numG (numZ b l)) l := by
  obtain ⟨h1, h2, h3⟩ := numZ_is hL h
  unfold smallT numT'
  rw [h2, h3]
theorem end_ok {bs w r : List UInt8} {fr : Nat} {tm : Int} {x : T} (h : bs.drop fr = w ++ r) (hx : putB x = w) (ho : ownT x = true) : endR bs ⟨fr + w.length, tm, 0⟩ x fr = ⟨fr + w.length, tm, 0⟩ := by
  unfold endR
  rw [if_neg]
  intro hh
  apply hh.2
  refine ⟨?_, ho⟩
  rw [show (⟨fr + w.length, tm, 0⟩ : RS).i - fr = w.length by dsimp only; omega, h, List.take_left, hx]
theorem byte_lim (l : List Nat) (hL : Limbs l) (k j t : Nat) (hk : blen (val l) ≤ 8 * k) (ht : t < 4) : ((limBs l k).getD (4 * j + t) 0).toNat = l.getD j 0 / 2 ^ (8 * t) % 256 := by
  by_cases h : 4 * j + t < k
  · have e1 : (4 * j + t) / 4 = j := by omega
    have e2 : (4 * j + t) % 4 = t := by omega
    have : (limBs l k).getD (4 * j + t) 0 = limB l (4 * j + t) := by
      rw [List.getD_eq_getElem?_getD, limBs, List.getElem?_map, List.getElem?_range h]; rfl
    rw [this, limB, e1, e2, UInt8.toNat_ofNat']
    omega
  · have : (limBs l k).getD (4 * j + t) 0 = 0 := by
      rw [List.getD_eq_getElem?_getD, List.getElem?_eq_none (by rw [limBs_len]; omega)]; rfl
    rw [this]
    have hv : val l < B ^ j * 2 ^ (8 * t) := by
      have h1 := lt_blen (val l)
      have h2 : 2 ^ blen (val l) ≤ 2 ^ (32 * j + 8 * t) := Nat.pow_le_pow_right (by decide) (by omega)
      have h3 : 2 ^ (32 * j + 8 * t) = B ^ j * 2 ^ (8 * t) := by rw [Nat.pow_add, Nat.pow_mul]
      omega
    have h4 : l.getD j 0 < 2 ^ (8 * t) := by
      rw [← digit l hL j]
      exact Nat.lt_of_le_of_lt (Nat.mod_le _ _) (Nat.div_lt_of_lt_mul hv)
    rw [Nat.div_eq_of_lt h4]
    rfl
theorem limO_limBs (l : List Nat) (hL : Limbs l) (k j : Nat) (hk : blen (val l) ≤ 8 * k) : limO (limBs l k) j = l.getD j 0 := by
  have h := getD_lt' l hL j
  have b := fun t ht => byte_lim l hL k j t hk ht
  unfold limO
  have b0 := b 0 (by decide)
  rw [Nat.add_zero] at b0
  rw [b0, b 1 (by decide), b 2 (by decide), b 3 (by decide)]
  simp only [Nat.mul_zero, Nat.pow_zero, Nat.div_one, show 2 ^ (8 * 1) = 256 from rfl, show 2 ^ (8 * 2) = 65536 from rfl, show 2 ^ (8 * 3) = 16777216 from rfl]
  omega
theorem limR_limBs (l : List Nat) (hL : Limbs l) (k : Nat) (hk : blen (val l) ≤ 8 * k) : limR (limBs l k) l.length 0 = l := by
  apply List.ext_getElem?
  intro j
  by_cases hj : j < l.length
  · rw [limR_get _ _ _ _ hj, Nat.zero_add, limO_limBs l hL k j hk, List.getD_eq_getElem?_getD, List.getElem?_eq_getElem hj]; rfl
  · rw [List.getElem?_eq_none (by rw [limR_len]; omega), List.getElem?_eq_none (by omega)]
theorem num_bytes {b : Bool} {l : List Nat} (hL : Limbs l) (hc : chkN b l = true) (h0 : numZ b l ≠ 0) : 0 < l.length ∧ l.length ≤ 12 ∧ ((blen (numZ b l).natAbs + 7) / 8 + 3) / 4 = l.length ∧ blen (val l) ≤ 8 * ((blen (numZ b l).natAbs + 7) / 8) ∧ 1 ≤ (blen (numZ b l).natAbs + 7) / 8 ∧ (blen (numZ b l).natAbs + 7) / 8 ≤ 48 := by
  obtain ⟨h1, h2, h3, h4⟩ := chk_val hL hc
  have ha := chkN_abs hc
  have hv0 : val l ≠ 0 := fun h => h0 (by omega)
  have hb := limbs_bits hL
  have hl0 : 0 < l.length := by
    cases l with
    | nil => exact absurd rfl hv0
    | cons x r => simp
  have hlow : 32 * (l.length - 1) < blen (val l) := by
    rcases Nat.lt_or_ge (32 * (l.length - 1)) (blen (val l)) with h | h
    · exact h
    · exfalso
      have h5 := lt_blen (val l)
      have h6 : 2 ^ blen (val l) ≤ 2 ^ (32 * (l.length - 1)) := Nat.pow_le_pow_right (by decide) h
      have h7 : 2 ^ (32 * (l.length - 1)) = B ^ (l.length - 1) := by rw [Nat.pow_mul]
      have h8 := (digs_len_le (val l) (l.length - 1)).2 (by omega)
      rw [h1] at h8
      omega
  rw [ha]
  generalize blen (val l) = m at *
  refine ⟨hl0, h3, ?_, ?_, ?_, ?_⟩ <;> omega
theorem big_read {b : Bool} {l : List Nat} (hL : Limbs l) (hc : chkN b l = true) (h0 : numZ b l ≠ 0) : bigR ((if b then 1 else 0) :: limBs l ((blen (numZ b l).natAbs + 7) / 8)) = (b, .l, l) := by
  obtain ⟨h1, h2, h3, h4, h5, h6⟩ := num_bytes hL hc h0
  have hlen : ((if b then (1 : UInt8) else 0) :: limBs l ((blen (numZ b l).natAbs + 7) / 8)).length = (blen (numZ b l).natAbs + 7) / 8 + 1 := by simp only [List.length_cons, limBs_len]
  unfold bigR
  rw [if_neg (by omega), hlen]
  simp only [List.headD_cons, List.tail_cons]
  rw [show (blen (numZ b l).natAbs + 7) / 8 + 1 + 2 = (blen (numZ b l).natAbs + 7) / 8 + 3 by omega, h3, limR_limBs l hL _ h4]
  cases b <;> rfl
theorem num_read {bs r : List UInt8} {fr : Nat} {tm : Int} {b : Bool} {l : List Nat} (hL : Limbs l) (hc : chkN b l = true) (h : bs.drop fr = numB b l ++ r) :
    ∃ tag w g, numB b l = tag :: w ∧ (tag = 97 ∨ tag = 98 ∨ tag = 110) ∧ plainR bs ⟨fr + 1, tm, 0⟩ tag.toNat fr = (numT' b g l, ⟨fr + (numB b l).length, tm, 0⟩) := by
  have key : ∀ g, endR bs ⟨fr + (numB b l).length, tm, 0⟩ (numT' b g l) fr = ⟨fr + (numB b l).length, tm, 0⟩ := fun g => end_ok h (putB_num b g l) (own_numT hc)
  have hsm := small_num hL hc
  have hd1 : ∀ c w, numB b l = c :: w → bs.drop (fr + 1) = w ++ r := fun c w e => by
    rw [e] at h
    exact drop_pre (w := [c]) h
  by_cases h1 : 0 ≤ numZ b l ∧ numZ b l ≤ 255
  · have e : numB b l = [97, u8 (numZ b l)] := by unfold numB; rw [if_pos h1]
    refine ⟨97, _, numG (numZ b l), e, .inl rfl, ?_⟩
    have ht := take_pre (hd1 _ _ e) (by simp) tm
    have key := key (numG (numZ b l))
    rw [e] at key ⊢
    rw [show (97 : UInt8).toNat = 97 from rfl]
    unfold plainR
    simp only [↓reduceIte]
    rw [show ([u8 (numZ b l)] : List UInt8).length = 1 from rfl] at ht
    rw [ht]
    simp only [Option.getD_some, one97]
    rw [show ((u8 (numZ b l)).toNat : Int) = numZ b l by simp only [u8, UInt8.toNat_ofNat']; omega, hsm]
    rw [show fr + 1 + 1 = fr + [97, u8 (numZ b l)].length from rfl]
    refine Prod.ext rfl (Eq.trans ?_ key)
    simp only [endR, true_and]
  · by_cases h2 : -2147483648 ≤ numZ b l ∧ numZ b l ≤ 2147483647
    · have e : numB b l = 98 :: be32 (numZ b l) := by unfold numB; rw [if_neg h1, if_pos h2]
      refine ⟨98, _, numG (numZ b l), e, .inr (.inl rfl), ?_⟩
      have ht := take_pre (hd1 _ _ e) (by simp [be32]) tm
      have key := key (numG (numZ b l))
      rw [e] at key ⊢
      rw [show (98 : UInt8).toNat = 98 from rfl]
      unfold plainR
      simp only [↓reduceIte, show ¬ (98 = 97) by decide]
      rw [show (be32 (numZ b l)).length = 4 from rfl] at ht
      rw [ht]
      dsimp only
      have hbn := be32_neg _ h2.1 h2.2
      have hb4 : (be32 (numZ b l)).length = 4 := rfl
      generalize be32 (numZ b l) = q at *
      simp only [hbn, hsm]
      rw [show fr + 1 + 4 = fr + (98 :: q).length by simp only [List.length_cons, hb4]]
      refine Prod.ext rfl (Eq.trans ?_ key)
      simp only [endR, true_and]
    · have h0 : numZ b l ≠ 0 := fun h => h1 (by omega)
      obtain ⟨k1, k2, k3, k4, k5, k6⟩ := num_bytes hL hc h0
      have hbig := big_read hL hc h0
      have e : numB b l = 110 :: u8 ((blen (numZ b l).natAbs + 7) / 8 : Nat) :: (if b then 1 else 0) :: limBs l ((blen (numZ b l).natAbs + 7) / 8) := by unfold numB; rw [if_neg h1, if_neg h2]
      generalize (blen (numZ b l).natAbs + 7) / 8 = k at *
      refine ⟨110, _, .l, e, .inr (.inr rfl), ?_⟩
      have hd3 : bs.drop (fr + 1) = [u8 (k : Int)] ++ (((if b then (1 : UInt8) else 0) :: limBs l k) ++ r) := hd1 110 (u8 (k : Int) :: (if b then (1 : UInt8) else 0) :: limBs l k) e
      have ht := take_pre hd3 (by simp) tm
      have hd2 : bs.drop (fr + 1 + 1) = ((if b then (1 : UInt8) else 0) :: limBs l k) ++ r := drop_pre hd3
      have ht2 := take_pre hd2 (by simp) tm
      have hm : manyR bs ⟨fr + 1, tm, 0⟩ 1 1 48 = ((k : Int), ⟨fr + 1 + 1, tm, 0⟩) := by
        have hv := u8_val (k : Int)
        rw [manyR_of (n := 1) ht rfl (show beV [u8 (k : Int)] 0 = (k : Int) by simp only [beV, hv]; omega)]
        rw [if_neg (by omega)]
        rfl
      have key := key .l
      rw [e] at key ⊢
      rw [show (110 : UInt8).toNat = 110 from rfl]
      have hl2 : ((if b then (1 : UInt8) else 0) :: limBs l k).length = 1 + k := by simp only [List.length_cons, limBs_len]; omega
      rw [hl2] at ht2
      unfold plainR
      simp only [↓reduceIte, show ¬ (110 = 97) by decide, show ¬ (110 = 98) by decide]
      rw [hm]
      dsimp only
      rw [Int.toNat_natCast, ht2]
      simp only [Option.getD_some, hbig]
      have hlen : fr + 1 + 1 + (1 + k) = fr + (110 :: u8 (k : Int) :: (if b then (1 : UInt8) else 0) :: limBs l k).length := by simp only [List.length_cons, limBs_len]; omega
      rw [hlen]
      refine Prod.ext rfl (Eq.trans ?_ key)
      simp only [endR, true_and]
      rfl
end Go.Ab

/- What was written is read: plain mathematics. Conditions: terms that may be; places in range. -/
namespace Go.Ab
open Go.Proofs
set_option maxRecDepth 100000

theorem take_pre' {bs w r : List UInt8} {i : Nat} (h : bs.drop i = w ++ r) (hi : i ≤ bs.length) (tm : Int) : takeR bs ⟨i, tm, 0⟩ w.length = (some w, ⟨i + w.length, tm, 0⟩) := by
  have hl : i + w.length ≤ bs.length := by
    have := congrArg List.length h
    rw [List.length_drop, List.length_append] at this
    omega
  unfold takeR
  rw [if_neg (fun hh => by
    rcases hh with hh | hh
    · exact hh rfl
    · dsimp only at hh; omega)]
  dsimp only
  rw [h, List.take_left]
theorem pre_le {bs w r : List UInt8} {i : Nat} (h : bs.drop i = w ++ r) (hi : i ≤ bs.length) : i + w.length ≤ bs.length := by
  have := congrArg List.length h
  rw [List.length_drop, List.length_append] at this
  omega
theorem many_pre {bs w r : List UInt8} {i : Nat} (h : bs.drop i = w ++ r) (hi : i ≤ bs.length) (tm a b v : Int) (hv : beV w 0 = v) (ha : a ≤ v) (hb : v ≤ b) (k : Nat) (hk : w.length = k) : manyR bs ⟨i, tm, 0⟩ k a b = (v, ⟨i + k, tm, 0⟩) := by
  subst hk
  rw [manyR_of (take_pre' h hi tm) rfl hv, if_neg (by omega)]
theorem u8_len (m : Nat) (h : m < 256) : beV [u8 (m : Int)] 0 = (m : Int) := by
  have := u8_val (m : Int)
  simp only [beV, this]
  omega
theorem putB_pos (t : T) (ho : ownT t = true) : 1 ≤ (putB t).length := by
  obtain ⟨k, b, lg, l, s, n, kg, ks⟩ := t
  rcases own_kind ho with rfl | rfl | rfl | rfl | rfl | rfl
  · show 1 ≤ (numB b l).length
    unfold numB; split
    · simp
    · split <;> (rw [List.length_cons]; omega)
  · rw [putB_2, List.length_cons]; omega
  · rw [putB_3]; decide
  · rw [putB_list _ rfl, List.length_cons]; omega
  · rw [putB_5, List.length_cons]; omega
  · rw [putB_6, List.length_cons]; omega
theorem listR_ok {bs : List UInt8} {rd1 rd2 : RS → T × RS} {s : RS} {m : Int × RS} {h : List T × RS} {t : T × RS} (hm : manyR bs s 4 1 (2001 - s.tm) = m) (hh : someR rd1 m.1.toNat (bumpR m) [] = h) (ht : rd2 h.2 = t) (hk : ¬ kindT t.1 = 4) : listR bs rd1 rd2 s = (listT h.1 t.1, t.2) := by
  subst hm hh ht
  unfold listR
  dsimp only
  rw [if_neg hk]
theorem leaf_read {bs r : List UInt8} {fr : Nat} {tm : Int} (t : T) (hL : Limbs (limT t)) (ho : ownT t = true) (h4 : kindT t ≠ 4) (h5 : kindT t ≠ 5) (h : bs.drop fr = putB t ++ r) :
    ∃ tag w x, putB t = tag :: w ∧ (tag = 97 ∨ tag = 98 ∨ tag = 110 ∨ tag = 119 ∨ tag = 109 ∨ tag = 106) ∧ plainR bs ⟨fr + 1, tm, 0⟩ tag.toNat fr = (x, ⟨fr + (putB t).length, tm, 0⟩) ∧ sameT x t = true := by
  obtain ⟨k, b, lg, l, s, n, kg, ks⟩ := t
  simp only [kindT, limT] at h4 h5 hL
  have hfl : fr + 1 ≤ bs.length := by
    have := congrArg List.length h
    rw [List.length_drop, List.length_append] at this
    have h1 := putB_pos _ ho
    omega
  rcases own_kind ho with rfl | rfl | rfl | rfl | rfl | rfl
  · have hc := own_num ho
    obtain ⟨tag, w, g, h1, h2, h3⟩ := num_read (tm := tm) hL hc h
    refine ⟨tag, w, numT' b g l, h1, ?_, h3, ?_⟩
    · rcases h2 with h2 | h2 | h2
      · exact .inl h2
      · exact .inr (.inl h2)
      · exact .inr (.inr (.inl h2))
    · simp [sameT, numT', kindT, sgnT, limT]
  · have hs : 1 ≤ s.length ∧ s.length ≤ 40 := by
      simp only [ownT, nameB, Bool.and_eq_true, decide_eq_true_eq, ↓reduceIte] at ho
      exact ho.2.1.1.2.1
    have hox : ownT (.mk 2 false .n [] s 0 .n []) = true := by
      simp [ownT, zeroB] at ho ⊢
      exact ho.1.1.2
    rw [putB_2] at h ⊢
    have key := end_ok (tm := tm) h (x := .mk 2 false .n [] s 0 .n []) rfl hox
    have d1 : bs.drop (fr + 1) = [u8 s.length] ++ (s ++ r) := drop_pre (w := [119]) h
    have m1 := many_pre d1 hfl tm 1 40 s.length (u8_len _ (by omega)) (by omega) (by omega) 1 rfl
    have d2 : bs.drop (fr + 1 + 1) = s ++ r := drop_pre (w := [u8 s.length]) d1
    have t2 := take_pre' d2 (pre_le d1 hfl) tm
    refine ⟨119, _, .mk 2 false .n [] s 0 .n [], rfl, .inr (.inr (.inr (.inl rfl))), ?_, by simp [sameT, kindT, strT]⟩
    rw [show (119 : UInt8).toNat = 119 from rfl]
    unfold plainR
    simp only [↓reduceIte, show ¬ (119 = 97) by decide, show ¬ (119 = 98) by decide, show ¬ (119 = 110) by decide]
    rw [m1]
    dsimp only
    rw [Int.toNat_natCast, t2]
    simp only [Option.getD_some]
    rw [show fr + 1 + 1 + s.length = fr + (119 :: u8 s.length :: s).length by simp only [List.length_cons]; omega]
    refine Prod.ext rfl (Eq.trans ?_ key)
    simp only [endR, true_and]
  · rw [putB_3] at h ⊢
    refine ⟨106, [], nilT', rfl, .inr (.inr (.inr (.inr (.inr rfl)))), ?_, by simp [sameT, nilT', kindT]⟩
    exact plain106 rfl (by rw [h]; rfl)
  · exact absurd rfl h4
  · exact absurd rfl h5
  · have hs : s.length ≤ 400 := own_str ho
    have hox : ownT (.mk 6 false .n [] s 0 .n []) = true := by
      simp [ownT, zeroB]
      exact hs
    rw [putB_6] at h ⊢
    have key := end_ok (tm := tm) h (x := .mk 6 false .n [] s 0 .n []) rfl hox
    have d1 : bs.drop (fr + 1) = be32 s.length ++ (s ++ r) := by
      have : bs.drop (fr + 1) = (be32 s.length ++ s) ++ r := drop_pre (w := [109]) h
      rwa [List.append_assoc] at this
    have m1 := many_pre d1 hfl tm 0 400 s.length (be32_val _ (by omega) (by omega)) (by omega) (by omega) 4 rfl
    have d2 : bs.drop (fr + 1 + 4) = s ++ r := drop_pre (w := be32 s.length) d1
    have t2 := take_pre' d2 (pre_le d1 hfl) tm
    refine ⟨109, _, .mk 6 false .n [] s 0 .n [], rfl, .inr (.inr (.inr (.inr (.inl rfl)))), ?_, by simp [sameT, kindT, strT]⟩
    rw [show (109 : UInt8).toNat = 109 from rfl]
    unfold plainR
    simp only [↓reduceIte, show ¬ (109 = 97) by decide, show ¬ (109 = 98) by decide, show ¬ (109 = 110) by decide, show ¬ (109 = 119) by decide]
    rw [m1]
    dsimp only
    rw [Int.toNat_natCast, t2]
    simp only [Option.getD_some]
    have hb4 : (be32 (s.length : Int)).length = 4 := rfl
    rw [show fr + 1 + 4 + s.length = fr + (109 :: (be32 s.length ++ s)).length by simp only [List.length_cons, List.length_append, hb4]; omega]
    refine Prod.ext rfl (Eq.trans ?_ key)
    simp only [endR, true_and]
theorem spine_okD : ∀ (f : Nat) (t : T) (deep : Int), okD t deep → goodT t → nodT t ≤ f → (∀ x ∈ (spineT f t).1, okD x (deep + 1)) ∧ okD (spineT f t).2 deep
  | 0, t, _, _, _, h => by have := nod_pos t; omega
  | f + 1, .mk k b lg l s n kg ks, deep, ho, hg, h => by
    by_cases hk : k = 4
    · subst hk
      obtain ⟨x, u, rfl⟩ := good_pair hg rfl
      simp only [goodT, goodK, and_true] at hg
      simp only [okD, okJ, and_true] at ho
      simp only [nodT, nodK] at h
      rw [spine_cons]
      have h1 : okD x (deep + 1) := by simpa using ho.2.2.1
      have h2 : okD u deep := by simpa using ho.2.2.2
      obtain ⟨a1, a2⟩ := spine_okD f u deep h2 hg.2.2.2 (by omega)
      refine ⟨fun y hy => ?_, a2⟩
      rcases List.mem_cons.1 hy with rfl | hy
      · exact h1
      · exact a1 y hy
    · rw [spine_no _ _ (by simpa [kindT] using hk)]
      exact ⟨fun y hy => (by cases hy), ho⟩
theorem same_kind {x t : T} (h : sameT x t = true) : kindT x = kindT t := by
  obtain ⟨k, b, lg, l, s, n, kg, ks⟩ := x
  simp only [sameT] at h
  split at h
  · assumption
  · cases h
theorem spine_same : ∀ (f : Nat) (t : T) (xs : List T) (x : T), goodT t → nodT t ≤ f → sameK xs (spineT f t).1 = true → sameT x (spineT f t).2 = true → sameT (listT xs x) t = true
  | 0, t, _, _, _, h, _, _ => by have := nod_pos t; omega
  | f + 1, .mk k b lg l s n kg ks, xs, x, hg, h, hx, hy => by
    by_cases hk : k = 4
    · subst hk
      obtain ⟨a, u, rfl⟩ := good_pair hg rfl
      simp only [goodT, goodK, and_true] at hg
      simp only [nodT, nodK] at h
      rw [spine_cons] at hx hy
      cases xs with
      | nil => simp [sameK] at hx
      | cons y xs =>
        simp only [sameK, Bool.and_eq_true] at hx
        have ih := spine_same f u xs x hg.2.2.2 (by omega) hx.2 hy
        simp [listT, consT, sameT, kindT, kidsT, sameK, hx.1, ih]
    · rw [spine_no _ _ (by simpa [kindT] using hk)] at hx hy
      cases xs with
      | nil => exact hy
      | cons y xs => simp [sameK] at hx
def Reads1 (bs : List UInt8) (f : Nat) (deep : Int) : Prop := ∀ (t : T) (i : Nat) (tm : Int) (r : List UInt8), (putB t).length ≤ f → goodT t → okD t deep → 0 ≤ tm → tm + nodT t ≤ 2000 → bs.drop i = putB t ++ r →
  ∃ x, termR bs f deep ⟨i, tm, 0⟩ = (x, ⟨i + (putB t).length, tm + nodT t, 0⟩) ∧ sameT x t = true
theorem read_some {bs : List UInt8} {f : Nat} {deep : Int} (IH : Reads1 bs f deep) : ∀ (ks : List T) (i : Nat) (tm : Int) (r : List UInt8) (acc : List T), (putAll ks).length ≤ f → goodK ks → (∀ t ∈ ks, okD t deep) → 0 ≤ tm → tm + nodK ks ≤ 2000 → bs.drop i = putAll ks ++ r →
    ∃ xs, someR (termR bs f deep) ks.length ⟨i, tm, 0⟩ acc = (acc ++ xs, ⟨i + (putAll ks).length, tm + nodK ks, 0⟩) ∧ sameK xs ks = true
  | [], i, tm, r, acc, _, _, _, _, _, _ => ⟨[], by simp [someR, putAll, nodK], by simp [sameK]⟩
  | t :: ks, i, tm, r, acc, hf, hg, ho, h0, h1, h => by
    simp only [nodK] at h1
    simp only [goodK] at hg
    have hp : putAll (t :: ks) = putB t ++ putAll ks := by simp only [putAll, List.flatMap_cons]
    rw [hp, List.length_append] at hf
    rw [hp, List.append_assoc] at h
    obtain ⟨x, e1, e2⟩ := IH t i tm (putAll ks ++ r) (by omega) hg.1 (ho t (by simp)) h0 (by omega) h
    obtain ⟨xs, e3, e4⟩ := read_some IH ks (i + (putB t).length) (tm + nodT t) r (acc ++ [x]) (by omega) hg.2 (fun u hu => ho u (by simp [hu])) (by omega) (by omega) (drop_pre h)
    refine ⟨x :: xs, ?_, by simp only [sameK, e2, e4, Bool.and_self]⟩
    simp only [List.length_cons, someR]
    rw [e1]
    rw [if_neg (fun hh => hh rfl)]
    dsimp only
    rw [e3, hp, List.length_append]
    simp only [nodK]
    refine Prod.ext ?_ ?_
    · simp
    · dsimp only
      congr 1
      · omega
      · omega
theorem okJ_all : ∀ (ks : List T) (i : Nat) (d : Int), okJ 5 ks i d → ∀ t ∈ ks, okD t (d + 1)
  | [], _, _, _, t, ht => by cases ht
  | a :: r, i, d, h, t, ht => by
    simp only [okJ] at h
    rcases List.mem_cons.1 ht with rfl | ht
    · have := h.1; rwa [if_neg (by omega)] at this
    · exact okJ_all r (i + 1) d h.2 t ht
theorem own_few {b : Bool} {lg : Gk} {l : List Nat} {s : List UInt8} {n : Int} {kg : Gk} {ks : List T} (h : ownT (.mk 5 b lg l s n kg ks) = true) : ks.length ≤ 40 := by
  simp [ownT] at h
  exact h.1.2
theorem own_none {k : Int} {b : Bool} {lg : Gk} {l : List Nat} {s : List UInt8} {n : Int} {kg : Gk} {ks : List T} (h : ownT (.mk k b lg l s n kg ks) = true) (h4 : k ≠ 4) (h5 : k ≠ 5) : ks = [] := by
  simp [ownT, h4, h5] at h
  exact h.2.1.2
theorem read_term (bs : List UInt8) (hl : bs.length ≤ 150000000000000) : ∀ (f : Nat) (deep : Int), Reads1 bs f deep
  | 0, deep => fun t i tm r hf _ ho _ _ _ => by
    have := putB_pos t (by
      obtain ⟨k, b, lg, l, s, n, kg, ks⟩ := t
      simp only [okD] at ho; exact ho.2.1)
    omega
  | f + 1, deep => fun t i tm r hf hg ho h0 h1 h => by
    have IH := read_term bs hl f
    have hnp := nod_pos t
    have hil : i ≤ bs.length := by
      rcases Nat.lt_or_ge bs.length i with hh | hh
      · exfalso
        rw [List.drop_of_length_le (by omega)] at h
        have h3 := congrArg List.length h
        rw [List.length_nil, List.length_append] at h3
        have h2 : 1 ≤ (putB t).length := putB_pos t (by
          obtain ⟨k, b, lg, l, s, n, kg, ks⟩ := t
          simp only [goodT] at hg; exact hg.2.1)
        omega
      · exact hh
    have hs : InvR bs ⟨i, tm, 0⟩ := ⟨hil, hl, by dsimp only; omega, by dsimp only; omega, fun _ => by dsimp only; omega⟩
    have hd : deep ≤ 60 := by
      obtain ⟨k, b, lg, l, s, n, kg, ks⟩ := t
      simp only [okD] at ho; exact ho.1
    have hown : ownT t = true := by
      obtain ⟨k, b, lg, l, s, n, kg, ks⟩ := t
      simp only [okD] at ho; exact ho.2.1
    have start : ∀ c w, putB t = c :: w → termR bs (f + 1) deep ⟨i, tm, 0⟩ = tagR bs f deep ⟨i + 1, tm + 1, 0⟩ c.toNat i := fun c w e => by
      have hb : (bs.drop i).take 1 = [c] := by rw [h, e]; rfl
      exact termR_step hs (take1_ok hb).1 f deep hb
    have hno : ¬ (tm + 1 > 2000 ∨ deep > 60) := by omega
    by_cases h4 : kindT t = 4
    · -- a list
      have e := putB_list t h4
      rw [start _ _ e]
      unfold tagR
      dsimp only
      rw [if_neg hno, show (108 : UInt8).toNat = 108 from rfl, if_neg (by decide), if_pos rfl]
      obtain ⟨s1, s2, s3, s4, s5, s6⟩ := spine_ok (nodT t) t hg (Nat.le_refl _)
      obtain ⟨o1, o2⟩ := spine_okD (nodT t) t deep ho hg (Nat.le_refl _)
      have hsame := spine_same (nodT t) t
      have hpos : 1 ≤ (spineT (nodT t) t).1.length := by
        obtain ⟨k, b, lg, l, s, n, kg, ks⟩ := t
        simp only [kindT] at h4
        subst h4
        obtain ⟨a, u, rfl⟩ := good_pair hg rfl
        simp only [nodT]
        rw [spine_cons]
        simp
      have hnt := nod_pos (spineT (nodT t) t).2
      obtain ⟨w, hw⟩ : ∃ w, spineT (nodT t) t = w := ⟨_, rfl⟩
      rw [hw] at s1 s2 s3 s4 s5 s6 o1 o2 hsame hpos hnt
      obtain ⟨hs', tl⟩ := w
      dsimp only at s1 s2 s3 s4 s5 s6 o1 o2 hsame hpos hnt
      rw [s5, s6] at e
      have hfl := congrArg List.length e
      simp only [List.length_cons, List.length_append] at hfl
      have hb4 : (be32 ((hs'.length : Nat) : Int)).length = 4 := rfl
      have d1 : bs.drop (i + 1) = be32 ((hs'.length : Nat) : Int) ++ (putAll hs' ++ (putB tl ++ r)) := by
        rw [e] at h
        have : bs.drop (i + 1) = (be32 ((hs'.length : Nat) : Int) ++ (putAll hs' ++ putB tl)) ++ r := drop_pre (w := [108]) h
        rwa [List.append_assoc, List.append_assoc] at this
      have hi1 : i + 1 ≤ bs.length := (take1_ok (tm := tm) (bs := bs) (i := i) (c := 108) (by rw [h, e]; rfl)).2
      have m1 := many_pre d1 hi1 (tm + 1) 1 (2001 - (tm + 1)) hs'.length (be32_val _ (by omega) (by omega)) (by omega) (by omega) 4 hb4
      have d2 : bs.drop (i + 1 + 4) = putAll hs' ++ (putB tl ++ r) := by
        have := drop_pre d1
        rwa [hb4] at this
      obtain ⟨xs, g1, g2⟩ := read_some (IH (deep + 1)) hs' (i + 1 + 4) (tm + 1 + (((hs'.length : Nat) : Int) - 1)) _ [] (by omega) s3 o1 (by omega) (by omega) d2
      obtain ⟨x, g3, g4⟩ := IH deep tl (i + 1 + 4 + (putAll hs').length) (tm + 1 + (((hs'.length : Nat) : Int) - 1) + nodK hs') r (by omega) s2 o2 (by omega) (by omega) (drop_pre d2)
      have hk : ¬ kindT x = 4 := by rw [same_kind g4]; exact s1
      refine ⟨listT xs x, ?_, hsame xs x hg (Nat.le_refl _) g2 g4⟩
      rw [List.nil_append] at g1
      have g1' : someR (termR bs f (deep + 1)) ((hs'.length : Nat) : Int).toNat (bumpR (((hs'.length : Nat) : Int), ⟨i + 1 + 4, tm + 1, 0⟩)) [] = (xs, ⟨i + 1 + 4 + (putAll hs').length, tm + 1 + (((hs'.length : Nat) : Int) - 1) + nodK hs', 0⟩) := g1
      rw [listR_ok m1 g1' g3 hk]
      refine Prod.ext rfl ?_
      dsimp only
      rw [e]
      congr 1
      · simp only [List.length_cons, List.length_append, hb4]; omega
      · omega
    · by_cases h5 : kindT t = 5
      · obtain ⟨k, b, lg, l, s, n, kg, ks⟩ := t
        simp only [kindT] at h4 h5
        subst h5
        have hfw := own_few hown
        simp only [goodT] at hg
        simp only [okD] at ho
        simp only [nodT] at h1
        have e := putB_5 b lg l s n kg ks
        have hfl := congrArg List.length e
        simp only [List.length_cons] at hfl
        rw [start _ _ e]
        unfold tagR
        dsimp only
        rw [if_neg hno, show (104 : UInt8).toNat = 104 from rfl, if_neg (by decide), if_neg (by decide), if_pos rfl]
        have d1 : bs.drop (i + 1) = [u8 ((ks.length : Nat) : Int)] ++ (putAll ks ++ r) := by
          rw [e] at h
          exact drop_pre (w := [104]) h
        have hi1 : i + 1 ≤ bs.length := (take1_ok (tm := tm) (bs := bs) (i := i) (c := 104) (by rw [h, e]; rfl)).2
        have m1 := many_pre d1 hi1 (tm + 1) 0 40 ks.length (u8_len _ (by omega)) (by omega) (by omega) 1 rfl
        have d2 : bs.drop (i + 1 + 1) = putAll ks ++ r := drop_pre (w := [u8 ((ks.length : Nat) : Int)]) d1
        obtain ⟨xs, g1, g2⟩ := read_some (IH (deep + 1)) ks (i + 1 + 1) (tm + 1) r [] (by omega) hg.2.2 (okJ_all ks 0 deep ho.2.2) (by omega) (by omega) d2
        rw [List.nil_append] at g1
        refine ⟨tupT (kgOf xs) xs, ?_, by simp [sameT, tupT, kindT, kidsT, g2]⟩
        rw [m1]
        dsimp only
        rw [Int.toNat_natCast, g1]
        refine Prod.ext rfl ?_
        dsimp only
        rw [e]
        congr 1
        · simp only [List.length_cons]; omega
        · simp only [nodT]; omega
      · have hL : Limbs (limT t) := by
          obtain ⟨k, b, lg, l, s, n, kg, ks⟩ := t
          simp only [goodT] at hg; exact hg.1
        obtain ⟨tag, w, x, e, htag, hp, hsx⟩ := leaf_read (tm := tm + 1) t hL hown h4 h5 h
        have hn1 : nodT t = 1 := by
          obtain ⟨k, b, lg, l, s, n, kg, ks⟩ := t
          have := own_none hown h4 h5
          subst this; rfl
        refine ⟨x, ?_, hsx⟩
        rw [start _ _ e]
        unfold tagR
        dsimp only
        rw [if_neg hno, if_pos (by rcases htag with rfl | rfl | rfl | rfl | rfl | rfl <;> decide), hp, hn1]
        rfl
end Go.Ab

/- What is cut is short: plain mathematics. Conditions: places in range. -/
namespace Go.Ab
open Go.Proofs
set_option maxRecDepth 100000

def CutR {α : Type} (bs : List UInt8) (k f f' : Nat) (F F' : RS → α × RS) : Prop := ∀ s, InvR bs s → s.e = 0 → s.i ≤ k → bs.length < s.i + f → k < s.i + f' → (F s).2.e = 0 → ((F s).2.i ≤ k → F' s = F s) ∧ (k < (F s).2.i → (F' s).2.e = 3)
theorem takeR_short {bs : List UInt8} {s : RS} {n : Nat} (h : s.e ≠ 0 ∨ bs.length < s.i + n) : takeR bs s n = (none, s.fail 3) := by unfold takeR; rw [if_pos h]
theorem takeR_is {bs : List UInt8} {s : RS} {n : Nat} (h : s.e = 0) (h2 : s.i + n ≤ bs.length) : takeR bs s n = (some ((bs.drop s.i).take n), ⟨s.i + n, s.tm, s.e⟩) := by
  unfold takeR
  rw [if_neg (fun hh => by
    rcases hh with hh | hh
    · exact hh h
    · omega)]
theorem slice_cut (bs : List UInt8) (k i n : Nat) (h : i + n ≤ k) : ((bs.take k).drop i).take n = (bs.drop i).take n := by
  rw [List.drop_take, List.take_take, Nat.min_eq_left (by omega)]
theorem fail3 {s : RS} (h : s.e = 0) : (s.fail 3).e = 3 := by unfold RS.fail; rw [if_pos h]
theorem fail_keep {s : RS} (e : Int) (h : s.e ≠ 0) : s.fail e = s := by unfold RS.fail; rw [if_neg h]
theorem take_cut (bs : List UInt8) (k f f' n : Nat) (hk : k ≤ bs.length) : CutR bs k f f' (fun s => takeR bs s n) (fun s => takeR (bs.take k) s n) := by
  intro s hs he hi _ _ h
  dsimp only at h ⊢
  have hl : (bs.take k).length = k := by rw [List.length_take]; omega
  have h1 : s.i + n ≤ bs.length := by
    rcases Nat.lt_or_ge bs.length (s.i + n) with hh | hh
    · rw [takeR_short (.inr hh), fail3 he] at h; cases h
    · exact hh
  rw [takeR_is he h1]
  refine ⟨fun h2 => ?_, fun h2 => ?_⟩
  · dsimp only at h2
    rw [takeR_is he (by rw [hl]; exact h2), slice_cut _ _ _ _ h2]
  · dsimp only at h2
    rw [takeR_short (.inr (by rw [hl]; exact h2))]
    exact fail3 he
theorem manyR_of2 {bs : List UInt8} {s : RS} {n : Nat} {a b : Int} {o : Option (List UInt8) × RS} (h : takeR bs s n = o) : manyR bs s n a b = if o.2.e ≠ 0 then (0, o.2) else if beV (o.1.getD []) 0 < a ∨ b < beV (o.1.getD []) 0 then (0, o.2.fail 4) else (beV (o.1.getD []) 0, o.2) := by
  subst h; rfl
theorem many_cut (bs : List UInt8) (k f f' n : Nat) (a b : Int) (hk : k ≤ bs.length) : CutR bs k f f' (fun s => manyR bs s n a b) (fun s => manyR (bs.take k) s n a b) := by
  intro s hs he hi h1 h2 h
  dsimp only at h ⊢
  have ht := take_cut bs k f f' n hk s hs he hi h1 h2
  dsimp only at ht
  obtain ⟨o, ho⟩ : ∃ o, takeR bs s n = o := ⟨_, rfl⟩
  obtain ⟨o', ho'⟩ : ∃ o, takeR (bs.take k) s n = o := ⟨_, rfl⟩
  rw [ho, ho'] at ht
  rw [manyR_of2 ho] at h ⊢
  rw [manyR_of2 ho']
  by_cases h3 : o.2.e ≠ 0
  · rw [if_pos h3] at h; exact absurd h h3
  · rw [if_neg h3] at h ⊢
    have h3' : o.2.e = 0 := by simpa using h3
    have ht := ht h3'
    have hi2 : (if beV (o.1.getD []) 0 < a ∨ b < beV (o.1.getD []) 0 then ((0 : Int), o.2.fail 4) else (beV (o.1.getD []) 0, o.2)).2.i = o.2.i := by
      split
      · exact (fail_i _ _).1
      · rfl
    rw [hi2]
    refine ⟨fun h4 => ?_, fun h4 => ?_⟩
    · rw [ht.1 h4, if_neg h3]
    · have := ht.2 h4
      rw [if_pos (by rw [this]; decide)]
      exact this
theorem endR_e {bs : List UInt8} {r : RS} {p : T} {fr : Nat} (h : (endR bs r p fr).e = 0) : r.e = 0 ∧ endR bs r p fr = r := by
  unfold endR at h ⊢
  split
  · rename_i h1
    rw [if_pos h1] at h
    unfold RS.fail at h
    rw [if_pos h1.1] at h
    cases h
  · rename_i h1
    rw [if_neg h1] at h
    exact ⟨h, rfl⟩
theorem endR_bad {bs : List UInt8} {r : RS} {p : T} {fr : Nat} (h : r.e ≠ 0) : endR bs r p fr = r := by
  unfold endR
  rw [if_neg (fun hh => h hh.1)]
theorem end_cut (bs : List UInt8) (k : Nat) (r : RS) (p : T) (fr : Nat) (h : r.i ≤ k) (hf : fr ≤ r.i) : endR (bs.take k) r p fr = endR bs r p fr := by
  unfold endR
  rw [slice_cut _ _ _ _ (by omega)]
theorem CutR.bind {α β : Type} {bs : List UInt8} {k f f' : Nat} {F F' : RS → α × RS} (H : CutR bs k f f' F F') {G G' : α → RS → β × RS} (HG : ∀ a, CutR bs k f f' (G a) (G' a))
    (h0 : ∀ s, InvR bs s → InvR bs (F s).2 ∧ s.i ≤ (F s).2.i) (h1 : ∀ a s, InvR bs s → s.i ≤ (G a s).2.i) (h2 : ∀ a s, s.e ≠ 0 → (G a s).2.e ≠ 0) (h3 : ∀ a s, s.e = 3 → (G' a s).2.e = 3) :
    CutR bs k f f' (fun s => G (F s).1 (F s).2) (fun s => G' (F' s).1 (F' s).2) := by
  intro s hs he hi hf hf' h
  dsimp only at h ⊢
  have hFe : (F s).2.e = 0 := by
    rcases Classical.em ((F s).2.e = 0) with hh | hh
    · exact hh
    · exact absurd h (h2 _ _ hh)
  have c1 := H s hs he hi hf hf' hFe
  have hi1 := h0 s hs
  rcases Nat.lt_or_ge k (F s).2.i with hh | hh
  · refine ⟨fun h4 => ?_, fun _ => h3 _ _ (c1.2 hh)⟩
    have := h1 (F s).1 _ hi1.1
    omega
  · rw [c1.1 hh]
    exact HG (F s).1 (F s).2 hi1.1 hFe hh (by omega) (by omega) h
end Go.Ab

/- What is cut is short: terms. Conditions: places in range. -/
namespace Go.Ab
open Go.Proofs
set_option maxRecDepth 100000

theorem CutR.map {α β : Type} {bs : List UInt8} {k f f' : Nat} {F F' : RS → α × RS} (H : CutR bs k f f' F F') (g : α → β) : CutR bs k f f' (fun s => (g (F s).1, (F s).2)) (fun s => (g (F' s).1, (F' s).2)) := by
  intro s hs he hi hf hf' h
  have := H s hs he hi hf hf' h
  dsimp only at h ⊢
  exact ⟨fun h1 => by rw [this.1 h1], this.2⟩
def finR (bs : List UInt8) (fr : Nat) (x : T × RS) : T × RS := (x.1, endR bs x.2 x.1 fr)
def raw97 (o : Option (List UInt8)) : T := one97 (o.getD [])
def raw98 (o : Option (List UInt8)) : T := match o with | some x => smallT (i32 (beV x 0)) | none => .mk 1 false .n [] [] 0 .n []
def raw110 (o : Option (List UInt8)) : T := .mk 1 (bigR (o.getD [])).1 (bigR (o.getD [])).2.1 (bigR (o.getD [])).2.2 [] 0 .n []
def raw119 (o : Option (List UInt8)) : T := .mk 2 false .n [] (o.getD []) 0 .n []
def raw109 (o : Option (List UInt8)) : T := .mk 6 false .n [] (o.getD []) 0 .n []
def two (f : Int → Nat) (g : Option (List UInt8) → T) (bs : List UInt8) (n : Nat) (a b : Int) (s : RS) : T × RS := (g (takeR bs (manyR bs s n a b).2 (f (manyR bs s n a b).1)).1, (takeR bs (manyR bs s n a b).2 (f (manyR bs s n a b).1)).2)
theorem plainF_97 (bs : List UInt8) (s : RS) (fr : Nat) : plainR bs s 97 fr = finR bs fr (raw97 (takeR bs s 1).1, (takeR bs s 1).2) := rfl
theorem plainF_98 (bs : List UInt8) (s : RS) (fr : Nat) : plainR bs s 98 fr = finR bs fr (raw98 (takeR bs s 4).1, (takeR bs s 4).2) := rfl
theorem plainF_110 (bs : List UInt8) (s : RS) (fr : Nat) : plainR bs s 110 fr = finR bs fr (two (fun m => 1 + m.toNat) raw110 bs 1 1 48 s) := rfl
theorem plainF_119 (bs : List UInt8) (s : RS) (fr : Nat) : plainR bs s 119 fr = finR bs fr (two Int.toNat raw119 bs 1 1 40 s) := rfl
theorem plainF_109 (bs : List UInt8) (s : RS) (fr : Nat) : plainR bs s 109 fr = finR bs fr (two Int.toNat raw109 bs 4 0 400 s) := rfl
theorem plainF_106 (bs : List UInt8) (s : RS) (fr : Nat) : plainR bs s 106 fr = finR bs fr (nilT', s) := rfl
theorem fin_cut {bs : List UInt8} {k f f' : Nat} {F F' : RS → T × RS} (H : CutR bs k f f' F F') (hm : ∀ s, s.i ≤ (F s).2.i) (fr : Nat) {s : RS} (hfr : fr ≤ s.i) (hs : InvR bs s) (he : s.e = 0) (hi : s.i ≤ k) (hf : bs.length < s.i + f) (hf' : k < s.i + f') (h : (finR bs fr (F s)).2.e = 0) :
    ((finR bs fr (F s)).2.i ≤ k → finR (bs.take k) fr (F' s) = finR bs fr (F s)) ∧ (k < (finR bs fr (F s)).2.i → (finR (bs.take k) fr (F' s)).2.e = 3) := by
  obtain ⟨h1, h2⟩ := endR_e h
  have c := H s hs he hi hf hf' h1
  have hmi := hm s
  simp only [finR] at h ⊢
  rw [h2]
  refine ⟨fun h3 => ?_, fun h3 => ?_⟩
  · rw [c.1 h3, end_cut _ _ _ _ _ h3 (by omega), h2]
  · have := c.2 h3
    rw [endR_bad (by rw [this]; decide)]
    exact this
theorem takeR_bad {bs : List UInt8} {s : RS} {n : Nat} (h : s.e ≠ 0) : takeR bs s n = (none, s) := by rw [takeR_short (.inl h), fail_keep _ h]
theorem two_cut (f0 : Int → Nat) (g : Option (List UInt8) → T) (bs : List UInt8) (k f f' n : Nat) (a b : Int) (hk : k ≤ bs.length) : CutR bs k f f' (two f0 g bs n a b) (two f0 g (bs.take k) n a b) := by
  have h := CutR.bind (many_cut bs k f f' n a b hk) (G := fun m s => takeR bs s (f0 m)) (G' := fun m s => takeR (bs.take k) s (f0 m)) (fun m => take_cut bs k f f' (f0 m) hk) (fun s hs => ⟨hs.many, manyR_mono.1⟩) (fun m s _ => takeR_mono.1) (fun m s he h => he (takeR_e h).1) (fun m s he => by
    rw [takeR_bad (by rw [he]; decide)]
    exact he)
  exact CutR.map h g
theorem two_mono {f0 : Int → Nat} {g : Option (List UInt8) → T} {bs : List UInt8} {n : Nat} {a b : Int} (s : RS) : s.i ≤ (two f0 g bs n a b s).2.i := Nat.le_trans manyR_mono.1 takeR_mono.1
theorem plain_cut (bs : List UInt8) (k f f' : Nat) (hk : k ≤ bs.length) (tag fr : Nat) (htag : tag = 97 ∨ tag = 98 ∨ tag = 110 ∨ tag = 119 ∨ tag = 109 ∨ tag = 106) {s : RS} (hfr : fr ≤ s.i) (hs : InvR bs s) (he : s.e = 0) (hi : s.i ≤ k) (hf : bs.length < s.i + f) (hf' : k < s.i + f') (h : (plainR bs s tag fr).2.e = 0) :
    ((plainR bs s tag fr).2.i ≤ k → plainR (bs.take k) s tag fr = plainR bs s tag fr) ∧ (k < (plainR bs s tag fr).2.i → (plainR (bs.take k) s tag fr).2.e = 3) := by
  rcases htag with rfl | rfl | rfl | rfl | rfl | rfl
  · exact fin_cut ((take_cut bs k f f' 1 hk).map raw97) (fun s => takeR_mono.1) fr hfr hs he hi hf hf' h
  · exact fin_cut ((take_cut bs k f f' 4 hk).map raw98) (fun s => takeR_mono.1) fr hfr hs he hi hf hf' h
  · exact fin_cut (two_cut (fun m => 1 + m.toNat) raw110 bs k f f' 1 1 48 hk) two_mono fr hfr hs he hi hf hf' h
  · exact fin_cut (two_cut Int.toNat raw119 bs k f f' 1 1 40 hk) two_mono fr hfr hs he hi hf hf' h
  · exact fin_cut (two_cut Int.toNat raw109 bs k f f' 4 0 400 hk) two_mono fr hfr hs he hi hf hf' h
  · refine fin_cut (F := fun s => (nilT', s)) (F' := fun s => (nilT', s)) (fun s _ _ hi _ _ _ => ⟨fun _ => rfl, fun h => ?_⟩) (fun s => Nat.le_refl _) fr hfr hs he hi hf hf' h
    dsimp only at h; omega
theorem someR_bad {rd : RS → T × RS} (hr : ∀ s, s.e ≠ 0 → (rd s).2 = s) (n : Nat) (s : RS) (acc : List T) (h : s.e ≠ 0) : (someR rd n s acc).2 = s := by
  cases n with
  | zero => rfl
  | succ n =>
    simp only [someR]
    rw [if_pos (by rw [hr s h]; exact h)]
    exact hr s h
theorem someR_z {rd : RS → T × RS} (hr : ∀ s, (rd s).2.e = 0 → s.e = 0) (n : Nat) (s : RS) (acc : List T) (h : (someR rd n s acc).2.e = 0) : s.e = 0 := by
  cases n with
  | zero => exact h
  | succ n =>
    simp only [someR] at h
    split at h
    · rename_i h1; exact absurd h h1
    · rename_i h1; exact hr s (by simpa using h1)
theorem some_cut {bs : List UInt8} {k f f' : Nat} {rd rd' : RS → T × RS} (H : CutR bs k f f' rd rd') (Hi : ∀ s, InvR bs s → InvR bs (rd s).2 ∧ s.i ≤ (rd s).2.i) (Hb : ∀ s, s.e ≠ 0 → (rd' s).2 = s) : ∀ (n : Nat) (acc : List T), CutR bs k f f' (fun s => someR rd n s acc) (fun s => someR rd' n s acc)
  | 0, acc => fun s _ _ hi _ _ _ => ⟨fun _ => rfl, fun h => by dsimp only [someR] at h; omega⟩
  | n + 1, acc => fun s hs he hi hf hf' h => by
    dsimp only at h ⊢
    simp only [someR] at h ⊢
    have hi1 := Hi s hs
    by_cases h1 : (rd s).2.e ≠ 0
    · rw [if_pos h1] at h; exact absurd h h1
    · rw [if_neg h1] at h ⊢
      have h1' : (rd s).2.e = 0 := by simpa using h1
      have c := H s hs he hi hf hf' h1'
      have hmono := (someR_inv Hi n (rd s).2 (acc ++ [(rd s).1]) hi1.1).2
      rcases Nat.lt_or_ge k (rd s).2.i with hh | hh
      · refine ⟨fun h4 => by omega, fun _ => ?_⟩
        have := c.2 hh
        rw [if_pos (by rw [this]; decide)]
        exact this
      · rw [c.1 hh, if_neg h1]
        exact some_cut H Hi Hb n (acc ++ [(rd s).1]) (rd s).2 hi1.1 h1' hh (by omega) (by omega) h
theorem list_e {rd1 rd2 : RS → T × RS} {bs : List UInt8} {s : RS} (h : (listR bs rd1 rd2 s).2.e = 0) : (rd2 (someR rd1 (manyR bs s 4 1 (2001 - s.tm)).1.toNat (bumpR (manyR bs s 4 1 (2001 - s.tm))) []).2).2.e = 0 ∧ kindT (rd2 (someR rd1 (manyR bs s 4 1 (2001 - s.tm)).1.toNat (bumpR (manyR bs s 4 1 (2001 - s.tm))) []).2).1 ≠ 4 := by
  unfold listR at h
  dsimp only at h
  split at h
  · unfold RS.fail at h
    split at h
    · cases h
    · rename_i h1; exact absurd h h1
  · rename_i h1; exact ⟨h, h1⟩
theorem list_cut {bs : List UInt8} {k f f' : Nat} (hk : k ≤ bs.length) {rd1 rd1' rd2 rd2' : RS → T × RS} (H1 : CutR bs k f f' rd1 rd1') (H2 : CutR bs k f f' rd2 rd2') (I1 : ∀ s, InvR bs s → InvR bs (rd1 s).2 ∧ s.i ≤ (rd1 s).2.i) (I2 : ∀ s, InvR bs s → InvR bs (rd2 s).2 ∧ s.i ≤ (rd2 s).2.i)
    (E1 : ∀ s, (rd1 s).2.e = 0 → s.e = 0) (E2 : ∀ s, (rd2 s).2.e = 0 → s.e = 0) (B1 : ∀ s, s.e ≠ 0 → (rd1' s).2 = s) (B2 : ∀ s, s.e ≠ 0 → rd2' s = (T0, s)) {s : RS} (hs : InvR bs s) (hpos : 1 ≤ s.tm) (he : s.e = 0) (hi : s.i ≤ k) (hf : bs.length < s.i + f) (hf' : k < s.i + f') (h : (listR bs rd1 rd2 s).2.e = 0) :
    ((listR bs rd1 rd2 s).2.i ≤ k → listR (bs.take k) rd1' rd2' s = listR bs rd1 rd2 s) ∧ (k < (listR bs rd1 rd2 s).2.i → (listR (bs.take k) rd1' rd2' s).2.e = 3) ∧ s.i ≤ (listR bs rd1 rd2 s).2.i := by
  obtain ⟨h1, h2⟩ := list_e h
  have cm := many_cut bs k f f' 4 1 (2001 - s.tm) hk s hs he hi hf hf'
  dsimp only at cm
  have hbm := bumpR_inv hs hpos
  obtain ⟨m, hm⟩ : ∃ m, manyR bs s 4 1 (2001 - s.tm) = m := ⟨_, rfl⟩
  rw [hm] at h1 h2 cm hbm
  obtain ⟨hh, hhq⟩ : ∃ hh, someR rd1 m.1.toNat (bumpR m) [] = hh := ⟨_, rfl⟩
  rw [hhq] at h1 h2
  obtain ⟨t, ht⟩ : ∃ t, rd2 hh.2 = t := ⟨_, rfl⟩
  rw [ht] at h1 h2
  have hL := listR_ok hm hhq ht h2
  rw [hL]
  dsimp only
  have e2 : hh.2.e = 0 := E2 _ (by rw [ht]; exact h1)
  have e1 : (bumpR m).e = 0 := someR_z E1 _ _ _ (by rw [hhq]; exact e2)
  have cm := cm e1
  have ih1 := someR_inv I1 m.1.toNat (bumpR m) [] hbm.1
  rw [hhq] at ih1
  have ih2 := I2 hh.2 ih1.1
  rw [ht] at ih2
  have hbi : (bumpR m).i = m.2.i := rfl
  have bad : ∀ r : RS, r.e = 3 → ∀ m' : Int × RS, manyR (bs.take k) s 4 1 (2001 - s.tm) = m' → (someR rd1' m'.1.toNat (bumpR m') []).2 = r → (listR (bs.take k) rd1' rd2' s).2.e = 3 := fun r hr m' hm' hr' => by
    have hb := B2 r (by rw [hr]; decide)
    have hk0 : ¬ kindT (T0, r).1 = 4 := by simp [T0, kindT]
    rw [listR_ok hm' rfl (by rw [hr']; exact hb) hk0]
    exact hr
  rcases Nat.lt_or_ge k m.2.i with hc | hc
  · have h3 := cm.2 hc
    refine ⟨fun h4 => by omega, fun _ => ?_, by omega⟩
    refine bad (bumpR (manyR (bs.take k) s 4 1 (2001 - s.tm))) h3 _ rfl ?_
    exact someR_bad B1 _ _ _ (by show (manyR (bs.take k) s 4 1 (2001 - s.tm)).2.e ≠ 0; rw [h3]; decide)
  · have hm' := cm.1 hc
    have cs := some_cut H1 I1 B1 m.1.toNat [] (bumpR m) hbm.1 e1 hc (by omega) (by omega)
    dsimp only at cs
    rw [hhq] at cs
    have cs := cs e2
    rcases Nat.lt_or_ge k hh.2.i with hc2 | hc2
    · have h3 := cs.2 hc2
      exact ⟨fun h4 => by omega, fun _ => bad _ h3 _ hm' rfl, by omega⟩
    · have hs' := cs.1 hc2
      have ct := H2 hh.2 ih1.1 e2 hc2 (by omega) (by omega)
      rw [ht] at ct
      have ct := ct h1
      refine ⟨fun h4 => ?_, fun h4 => ?_, by omega⟩
      · exact listR_ok hm' hs' (ct.1 h4) h2
      · have h3 := ct.2 h4
        by_cases hk4 : kindT (rd2' hh.2).1 = 4
        · unfold listR
          dsimp only
          rw [hm', hs', if_pos hk4, fail_keep _ (by rw [h3]; decide)]
          exact h3
        · rw [listR_ok hm' hs' rfl hk4]
          exact h3
theorem termR_bad2 (bs : List UInt8) (f : Nat) (deep : Int) (s : RS) (he : s.e ≠ 0) : (termR bs f deep s).2 = s := by rw [termR_bad bs f deep s he]
theorem term_cut (bs : List UInt8) (k : Nat) (hk : k ≤ bs.length) : ∀ (f f' : Nat) (deep : Int), CutR bs k f f' (termR bs f deep) (termR (bs.take k) f' deep)
  | 0, f', deep => fun s hs _ _ hf _ _ => by have := hs.i; omega
  | f + 1, 0, deep => fun s hs _ hi _ hf' _ => by omega
  | f + 1, f' + 1, deep => fun s hs he hi hf hf' h => by
    have hl : (bs.take k).length = k := by rw [List.length_take]; omega
    have ht1 : (takeR bs s 1).2.e = 0 := by
      rcases Classical.em ((takeR bs s 1).2.e = 0) with hh | hh
      · exact hh
      · exfalso
        simp only [termR] at h
        rw [if_pos hh] at h
        exact hh h
    obtain ⟨_, _, h4, _⟩ := stepR hs ht1
    obtain ⟨c, hc, _⟩ := take1 h4
    have htm := hs.ok he
    rw [termR_step hs ht1 f deep hc] at h ⊢
    have hno : ¬ (s.tm + 1 > 2000 ∨ deep > 60) := fun hh => by
      unfold tagR at h
      dsimp only at h
      rw [if_pos hh] at h
      cases h
    have hs1 : InvR bs ⟨s.i + 1, s.tm + 1, 0⟩ := ⟨h4, hs.len, by dsimp only; omega, by dsimp only; omega, fun _ => by dsimp only; omega⟩
    have IH := fun d => term_cut bs k hk f f' d
    have I := fun d s hs => termR_inv bs f d s hs
    have hge : s.i + 1 ≤ (tagR bs f deep ⟨s.i + 1, s.tm + 1, 0⟩ c.toNat s.i).2.i ∧ (s.i + 1 ≤ k → ((tagR bs f deep ⟨s.i + 1, s.tm + 1, 0⟩ c.toNat s.i).2.i ≤ k → tagR (bs.take k) f' deep ⟨s.i + 1, s.tm + 1, 0⟩ c.toNat s.i = tagR bs f deep ⟨s.i + 1, s.tm + 1, 0⟩ c.toNat s.i) ∧ (k < (tagR bs f deep ⟨s.i + 1, s.tm + 1, 0⟩ c.toNat s.i).2.i → (tagR (bs.take k) f' deep ⟨s.i + 1, s.tm + 1, 0⟩ c.toNat s.i).2.e = 3)) := by
      generalize c.toNat = tag at h ⊢
      unfold tagR at h ⊢
      dsimp only at h ⊢
      rw [if_neg hno] at h
      rw [if_neg hno, if_neg hno]
      by_cases hp : tag = 97 ∨ tag = 98 ∨ tag = 110 ∨ tag = 119 ∨ tag = 109 ∨ tag = 106
      · rw [if_pos hp] at h
        rw [if_pos hp, if_pos hp]
        exact ⟨(plainR_inv hs1 tag s.i).2, fun hk1 => plain_cut bs k f f' hk tag s.i hp (by dsimp only; omega) hs1 rfl hk1 (by dsimp only; omega) (by dsimp only; omega) h⟩
      · rw [if_neg hp] at h
        rw [if_neg hp, if_neg hp]
        by_cases h108 : tag = 108
        · rw [if_pos h108] at h
          rw [if_pos h108, if_pos h108]
          have hm1 : s.i + 1 ≤ (listR bs (termR bs f (deep + 1)) (termR bs f deep) ⟨s.i + 1, s.tm + 1, 0⟩).2.i := by
            have hbm := bumpR_inv hs1 (by dsimp only; omega)
            have hsm := someR_inv (I (deep + 1)) (manyR bs ⟨s.i + 1, s.tm + 1, 0⟩ 4 1 (2001 - (s.tm + 1))).1.toNat _ [] hbm.1
            have htl := I deep _ hsm.1
            obtain ⟨_, h2⟩ := list_e h
            rw [listR_ok rfl rfl rfl h2]
            exact Nat.le_trans (Nat.le_trans hbm.2 hsm.2) htl.2
          refine ⟨hm1, fun hk1 => ?_⟩
          have := list_cut hk (IH (deep + 1)) (IH deep) (I (deep + 1)) (I deep) (fun s h => termR_e h) (fun s h => termR_e h) (fun s h => termR_bad2 _ _ _ _ h) (fun s h => termR_bad _ _ _ _ h) hs1 (by dsimp only; omega) rfl hk1 (by dsimp only; omega) (by dsimp only; omega) h
          exact ⟨this.1, this.2.1⟩
        · rw [if_neg h108] at h
          rw [if_neg h108, if_neg h108]
          by_cases h104 : tag = 104
          · rw [if_pos h104] at h
            rw [if_pos h104, if_pos h104]
            dsimp only at h ⊢
            have hm := hs1.many (k := 1) (a := 0) (b := 40)
            have hmo := (manyR_mono (bs := bs) (s := ⟨s.i + 1, s.tm + 1, 0⟩) (k := 1) (a := 0) (b := 40)).1
            have hsm := someR_inv (I (deep + 1)) (manyR bs ⟨s.i + 1, s.tm + 1, 0⟩ 1 0 40).1.toNat _ [] hm
            refine ⟨Nat.le_trans hmo hsm.2, fun hk1 => ?_⟩
            have hb := CutR.bind (many_cut bs k f f' 1 0 40 hk) (G := fun m s => someR (termR bs f (deep + 1)) m.toNat s []) (G' := fun m s => someR (termR (bs.take k) f' (deep + 1)) m.toNat s []) (fun m => some_cut (IH (deep + 1)) (I (deep + 1)) (fun s h => termR_bad2 _ _ _ _ h) m.toNat []) (fun s hs => ⟨hs.many, manyR_mono.1⟩) (fun m s hs => (someR_inv (I (deep + 1)) m.toNat s [] hs).2) (fun m s he h => he (someR_z (fun s h => termR_e h) _ _ _ h)) (fun m s he => by
              rw [someR_bad (fun s h => termR_bad2 _ _ _ _ h) _ _ _ (by rw [he]; decide)]
              exact he)
            exact hb.map (fun us => tupT (kgOf us) us) ⟨s.i + 1, s.tm + 1, 0⟩ hs1 rfl hk1 (by dsimp only; omega) (by dsimp only; omega) h
          · rw [if_neg h104] at h
            cases h
    rcases Nat.lt_or_ge k (s.i + 1) with hc1 | hc1
    · refine ⟨fun h5 => by have := hge.1; omega, fun _ => ?_⟩
      have hsh : takeR (bs.take k) s 1 = (none, s.fail 3) := takeR_short (.inr (by rw [hl]; exact hc1))
      simp only [termR]
      rw [hsh]
      dsimp only
      rw [if_pos (by rw [fail3 he]; decide)]
      exact fail3 he
    · have hs' : InvR (bs.take k) s := ⟨by rw [hl]; exact hi, by rw [hl]; have := hs.len; omega, hs.lo, hs.hi, hs.ok⟩
      have ht1' : (takeR (bs.take k) s 1).2.e = 0 := by rw [takeR_is he (by rw [hl]; exact hc1)]; exact he
      have hc' : ((bs.take k).drop s.i).take 1 = [c] := by rw [slice_cut _ _ _ _ hc1]; exact hc
      rw [termR_step hs' ht1' f' deep hc']
      exact hge.2 hc1
end Go.Ab
