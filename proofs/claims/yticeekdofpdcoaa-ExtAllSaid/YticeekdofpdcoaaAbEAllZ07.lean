/- Several texts put together: AbeY12, AbeY13, AbeY14, AbeY15, AbeY16, AbeY17, AbeY18, AbeY19, AbeY20, AbeY21, AbeY22, AbeY23, AbeY24, AbeY25, AbeY26, AbeY27, AbeY28, AbeY29, AbeY30, AbeY31. Conditions: as each part says. -/
import Derived.Test.YticeekdofpdcoaaAbEAllZ06
import Derived.Test.YticeekdofpdcoaaAbEAllZ05
/- Bytes taken; how many, in so many bytes (CFG5). Conditions: places in range. -/
namespace Go.Ab
open Go.Proofs
set_option maxRecDepth 100000
set_option linter.unusedSimpArgs false

def takeV : Option (List UInt8) → AV
  | none => .sl [] 0 .nil
  | some x => .sl (cellsOfBytes x) x.length .tight
def okR (bs : List UInt8) (s : RS) : Prop := s.i ≤ bs.length ∧ bs.length ≤ 150000000000000 ∧ -1000000 ≤ s.tm ∧ s.tm ≤ 1000000
theorem slMid (s : St) (bs : List UInt8) (g : Grip) (i j : Nat) (h1 : i ≤ j) (h2 : j ≤ bs.length) : sliceA Try.prog 22 s (.sl (cellsOfBytes bs) bs.length g) (some (.int .i64 (i : Int))) (some (.int .i64 (j : Int))) (some (.int .i64 (j : Int))) = some (.sl (cellsOfBytes ((bs.drop i).take (j - i))) ((bs.drop i).take (j - i)).length .tight) := by
  have a1 : (0 : Int) ≤ (j : Int) ∧ (j : Int) ≤ (bs.length : Nat) := ⟨by omega, by omega⟩
  have a2 : (0 : Int) ≤ (j : Int) ∧ (j : Int) ≤ (j : Nat) := ⟨by omega, by omega⟩
  have a3 : (0 : Int) ≤ (i : Int) ∧ (i : Int) ≤ (j : Nat) := ⟨by omega, by omega⟩
  have a4 : ((bs.drop i).take (j - i)).length = j - i := by rw [List.length_take, List.length_drop]; omega
  have a5 : ((cellsOfBytes bs).take j).drop i = cellsOfBytes ((bs.drop i).take (j - i)) := by
    rw [cB_take, cB_drop, List.drop_take]
  simp only [sliceA, tkB, Option.isNone_some, Option.isSome_some, Bool.false_eq_true, and_false, if_false, boundA, a1, a2, a3, and_self, if_true, Int.toNat_natCast, Option.bind_some, eszB, cB_len, Nat.mul_one, true_and, true_or, a4, a5]
set_option maxHeartbeats 8000000 in
theorem take_eq (n d : Nat) (bs : List UInt8) (g : Grip) (s : RS) (k : Nat) (hs : okR bs s) (hk : k ≤ 1000000000) : evalFn Try.prog cfg5 n (d+2) 53 [.ptr (rC bs g s) 0, .tree (.int .i64 (k : Int))] = some (.tree (takeV (takeR bs s k).1), [rC bs g (takeR bs s k).2, []]) := by
  rw [evalFn_go _ Try.func53 (by unfold Try.f53; rfl) (by unfold Try.f53; decide) (Nat.le_of_ble_eq_true (by unfold Try.f53; rfl)) (by kernel_rfl)]
  have e0 : env0 [.ptr (rC bs g s) 0, .tree (.int .i64 (k : Int))] 0 = .ptr 0 0 0 := rfl
  have e1 : env0 [.ptr (rC bs g s) 0, .tree (.int .i64 (k : Int))] 1 = .int .i64 (k : Int) := rfl
  have j0 : st0 [.ptr (rC bs g s) 0, .tree (.int .i64 (k : Int))] 0 = ⟨0, .buf (rC bs g s)⟩ := rfl
  have ho : ∀ s' ys, s' 0 = ⟨0, .buf ys⟩ → outsA s' 0 [.ptr (rC bs g s) 0, .tree (.int .i64 (k : Int))] = some [ys, []] := fun s' ys h => outs_ptr s' (rC bs g s) ys h [.int .i64 (k : Int)]
  have cf := fun D (st : St) (hp : st 0 = ⟨0, .buf (rC bs g s)⟩) => callA_ptr (call := evalFn Try.prog cfg5 n (d+1)) [.int .i64 3] rfl (efail_eq n d bs g s 3) D hp
  generalize [Arg.ptr (rC bs g s) 0, .tree (.int .i64 (k : Int))] = as1 at e0 e1 j0 ho
  generalize env0 as1 = env at e0 e1
  generalize st0 as1 = st at j0
  obtain ⟨i, tm, e⟩ := s
  obtain ⟨hi, hb, h3, h4⟩ := hs
  dsimp only at hi h3 h4
  unfold takeR
  dsimp only
  simp only [rC] at j0 cf
  by_cases he : e = 0
  · subst he
    have b1 : ((0 : Int) != 0) = false := rfl
    have f1 := i_sub Try.prog 3 (bs.length : Int) (i : Int) (by omega) (by omega)
    by_cases hk2 : bs.length < i + k
    · have q1 : (k : Int) > (bs.length : Int) - (i : Int) := by omega
      rw [if_pos (.inr hk2)]
      simp only [simB, keep5, Nat.reduceBEq, own5, String.reduceAppend, String.reduceBEq, Bool.or_false, Bool.or_true, Bool.or_self, ↓reduceIte, Nat.reduceEqDiff, Nat.reduceAdd, simA, simL, simN, Nat.zero_add, e0, e1, j0, opA_nck, nckA_p, fa59_0, fa59_1, fa59_3, ld59_0, ld59_1, ld59_3, y_neq, y_gtr, b1, lenB, f1, q1, cf]
      exact finish_slB _ rfl _ _ _ .nil rfl _ _ (by simp only [zfk, ↓reduceIte, Nat.reduceEqDiff]; try rfl) (ho _ _ (by simp only [zfk, ↓reduceIte, Nat.reduceEqDiff]; try rfl))
    · have q1 : ¬ (k : Int) > (bs.length : Int) - (i : Int) := by omega
      rw [if_neg (by omega)]
      have f2 := i_add Try.prog 3 (i : Int) (k : Int) (by omega) (by omega)
      have e2 : (i : Int) + (k : Int) = ((i + k : Nat) : Int) := by omega
      rw [e2] at f2
      have f3 : binA Try.prog .sub 3 (.int .i64 ((i + k : Nat) : Int)) (.int .i64 (k : Int)) = some (.int .i64 (i : Int)) := by
        rw [i_sub Try.prog 3 ((i + k : Nat) : Int) (k : Int) (by omega) (by omega)]
        congr 2; omega
      have f4 := fun s => slMid s bs g i (i + k) (by omega) (by omega)
      rw [Nat.add_sub_cancel_left] at f4
      simp only [simB, keep5, Nat.reduceBEq, own5, String.reduceAppend, String.reduceBEq, Bool.or_false, Bool.or_true, Bool.or_self, ↓reduceIte, Nat.reduceEqDiff, Nat.reduceAdd, simA, simL, simN, Nat.zero_add, e0, e1, j0, opA_nck, nckA_p, fa59_0, fa59_1, fa59_3, ld59_0, ld59_1, ld59_3, y_neq, y_gtr, b1, lenB, f1, q1, f2, f3, f4, st_iY, stY_1]
      exact finish_slB _ rfl _ _ _ .tight rfl _ _ (by simp only [zfk, ↓reduceIte, Nat.reduceEqDiff]; try rfl) (ho _ _ (by simp only [zfk, ↓reduceIte, Nat.reduceEqDiff]; try rfl))
  · have b1 : (e != 0) = true := by simpa using he
    rw [if_pos (.inl he)]
    simp only [simB, keep5, Nat.reduceBEq, own5, String.reduceAppend, String.reduceBEq, Bool.or_false, Bool.or_true, Bool.or_self, ↓reduceIte, Nat.reduceEqDiff, Nat.reduceAdd, simA, simL, simN, Nat.zero_add, e0, e1, j0, opA_nck, nckA_p, fa59_0, fa59_1, fa59_3, ld59_0, ld59_1, ld59_3, y_neq, y_gtr, b1, lenB, cf]
    exact finish_slB _ rfl _ _ _ .nil rfl _ _ (by simp only [zfk, ↓reduceIte, Nat.reduceEqDiff]; try rfl) (ho _ _ (by simp only [zfk, ↓reduceIte, Nat.reduceEqDiff]; try rfl))
end Go.Ab

/- How many, in so many bytes (CFG5). Conditions: places in range. -/
namespace Go.Ab
open Go.Proofs
set_option maxRecDepth 100000
set_option linter.unusedSimpArgs false

theorem y_or (P : Program) (t : TypeId) (a b : Nat) (h : a < 4611686018427387904) (h' : b < 4611686018427387904) : binA P .or t (.int .i64 (a : Int)) (.int .i64 (b : Int)) = some (.int .i64 (((a ||| b) : Nat) : Int)) := by
  have h1 : (BitVec.ofInt 64 (a : Int) ||| BitVec.ofInt 64 (b : Int)).toNat = a ||| b := by
    rw [BitVec.toNat_or]
    simp only [BitVec.ofInt_natCast, BitVec.toNat_ofNat]
    rw [Nat.mod_eq_of_lt (by omega), Nat.mod_eq_of_lt (by omega)]
  have h2 : a ||| b < 2 ^ 62 := Nat.or_lt_two_pow (by omega) (by omega)
  show some (AV.int .i64 (IntKind.i64.wrap ((BitVec.ofInt 64 (a : Int) ||| BitVec.ofInt 64 (b : Int)).toNat : Int))) = _
  rw [h1]
  generalize a ||| b = c at *
  rw [i64_wrap _ (by omega) (by omega)]
theorem y_shl8 (P : Program) (t : TypeId) (a : Nat) (h : a < 4503599627370496) : binA P .shl t (.int .i64 (a : Int)) (.int .u64 8) = some (.int .i64 ((a * 256 : Nat) : Int)) := by
  have e : (a : Int) * 2 ^ (min (8 : Int).toNat 64) = ((a * 256 : Nat) : Int) := by
    show (a : Int) * 256 = _
    omega
  simp only [binA, shA, IntKind.bits]
  rw [if_neg (by decide), e, i64_wrap _ (by omega) (by omega)]
theorem or_256 (v x : Nat) (h : x < 256) : v * 256 ||| x = v * 256 + x := by
  have := shl_or v x 8 (by omega)
  rw [Nat.or_comm, show v * 256 = v * 2 ^ 8 from rfl, this, Nat.add_comm]
def beN : List UInt8 → Nat → Nat
  | [], v => v
  | b :: r, v => beN r (v * 256 + b.toNat)
theorem beV_N : ∀ (l : List UInt8) (v : Nat), beV l (v : Int) = (beN l v : Int)
  | [], v => rfl
  | b :: r, v => by
    have := beV_N r (v * 256 + b.toNat)
    simp only [beV, beN]
    rw [← this]
    congr 1
theorem beN_lt : ∀ (l : List UInt8) (v k : Nat), v < 256 ^ k → beN l v < 256 ^ (k + l.length)
  | [], v, k, h => by simpa [beN] using h
  | b :: r, v, k, h => by
    have hb : b.toNat < 256 := b.toNat_lt
    have h1 : v * 256 + b.toNat < 256 ^ (k + 1) := by rw [Nat.pow_succ]; omega
    have := beN_lt r _ _ h1
    simp only [beN, List.length_cons]
    rw [show k + (r.length + 1) = k + 1 + r.length by omega]
    exact this
theorem beN_app : ∀ (a b : List UInt8) (v : Nat), beN (a ++ b) v = beN b (beN a v)
  | [], b, v => rfl
  | x :: r, b, v => by simp only [List.cons_append, beN, beN_app r b]
theorem iaB (s : St) (bs : List UInt8) (g : Grip) (i : Nat) (h : i < bs.length) : indexAddrA Try.prog 22 s (.sl (cellsOfBytes bs) bs.length g) (.int .i64 (i : Int)) = some (.rptr (cellsOfBytes (bs.drop i))) := by
  simp only [indexAddrA, tkB, eszB, Option.bind_some, Int.toNat_natCast, Nat.mul_one, cB_drop]
  rw [if_pos ⟨by omega, by omega⟩]
theorem ldB (s : St) (b : UInt8) (r : List UInt8) : loadA Try.prog 5 s (.rptr (cellsOfBytes (b :: r))) = some (.int .u8 (b.toNat : Int)) := by
  have h : shOf Try.prog 5 = some (false, 1) := by kernel_rfl
  simp only [loadA, partA, h]; rfl
theorem finish_iY (k : Bool) (as1 : List Arg) (os : List (List AV)) (t : Nat) (z : Int) (env : Env) (s : St) (hv : env t = .int .i64 z) (ho : outsA s 0 as1 = some os) : finishP Try.prog k as1 #[.tmp t] env s = some (.tree (.int .i64 z), os) := by
  rw [finishP_t1]
  simp only [finish, finish1, hv, settle, Option.bind_some, ho, Option.map_some]
theorem RS.fail_ok {bs : List UInt8} {s : RS} {e : Int} (h : okR bs s) : okR bs (s.fail e) := by
  unfold RS.fail
  split <;> exact h
theorem takeR_ok {bs : List UInt8} {s : RS} {k : Nat} (h : okR bs s) : okR bs (takeR bs s k).2 := by
  unfold takeR
  split
  · exact RS.fail_ok h
  · rename_i hc
    exact ⟨by dsimp only; omega, h.2⟩
theorem takeR_len {bs : List UInt8} {s : RS} {k : Nat} : ((takeR bs s k).1.getD []).length ≤ k := by
  unfold takeR
  split
  · simp
  · simp only [Option.getD_some, List.length_take]; omega
theorem takeV_row (o : Option (List UInt8)) : ∃ g, takeV o = .sl (cellsOfBytes (o.getD [])) (o.getD []).length g := by
  cases o with
  | none => exact ⟨.nil, rfl⟩
  | some x => exact ⟨.tight, rfl⟩
theorem manyR_ok {bs : List UInt8} {s : RS} {k : Nat} {a b : Int} (h : okR bs s) : okR bs (manyR bs s k a b).2 := by
  unfold manyR
  dsimp only
  split
  · exact takeR_ok h
  · split
    · exact RS.fail_ok (takeR_ok h)
    · exact takeR_ok h
set_option maxHeartbeats 8000000 in
theorem many_eq (n d : Nat) (hn : 100 ≤ n) (bs : List UInt8) (g : Grip) (s : RS) (k : Nat) (a b : Int) (hs : okR bs s) (hk : k ≤ 4) : evalFn Try.prog cfg5 n (d+3) 58 [.ptr (rC bs g s) 0, .tree (.int .i64 (k : Int)), .tree (.int .i64 a), .tree (.int .i64 b)] = some (.tree (.int .i64 (manyR bs s k a b).1), [rC bs g (manyR bs s k a b).2, [], [], []]) := by
  rw [evalFn_go _ Try.func58 (by unfold Try.f58; rfl) (by unfold Try.f58; decide) (Nat.le_of_ble_eq_true (by unfold Try.f58; rfl)) (by kernel_rfl)]
  have e0 : env0 [.ptr (rC bs g s) 0, .tree (.int .i64 (k : Int)), .tree (.int .i64 a), .tree (.int .i64 b)] 0 = .ptr 0 0 0 := rfl
  have e1 : env0 [.ptr (rC bs g s) 0, .tree (.int .i64 (k : Int)), .tree (.int .i64 a), .tree (.int .i64 b)] 1 = .int .i64 (k : Int) := rfl
  have e2 : env0 [.ptr (rC bs g s) 0, .tree (.int .i64 (k : Int)), .tree (.int .i64 a), .tree (.int .i64 b)] 2 = .int .i64 a := rfl
  have e3 : env0 [.ptr (rC bs g s) 0, .tree (.int .i64 (k : Int)), .tree (.int .i64 a), .tree (.int .i64 b)] 3 = .int .i64 b := rfl
  have j0 : st0 [.ptr (rC bs g s) 0, .tree (.int .i64 (k : Int)), .tree (.int .i64 a), .tree (.int .i64 b)] 0 = ⟨0, .buf (rC bs g s)⟩ := rfl
  have ho : ∀ s' ys, s' 0 = ⟨0, .buf ys⟩ → outsA s' 0 [.ptr (rC bs g s) 0, .tree (.int .i64 (k : Int)), .tree (.int .i64 a), .tree (.int .i64 b)] = some [ys, [], [], []] := fun s' ys h => outs_ptr s' (rC bs g s) ys h [.int .i64 (k : Int), .int .i64 a, .int .i64 b]
  have ct := fun D (st : St) (hp : st 0 = ⟨0, .buf (rC bs g s)⟩) => callA_ptr (call := evalFn Try.prog cfg5 n (d+2)) [.int .i64 (k : Int)] rfl (take_eq n d bs g s k hs (by omega)) D hp
  have cf := fun D (st : St) (hp : st 0 = ⟨0, .buf (rC bs g (takeR bs s k).2)⟩) => callA_ptr (call := evalFn Try.prog cfg5 n (d+2)) [.int .i64 4] rfl (efail_eq n (d+1) bs g (takeR bs s k).2 4) D hp
  generalize [Arg.ptr (rC bs g s) 0, .tree (.int .i64 (k : Int)), .tree (.int .i64 a), .tree (.int .i64 b)] = as1 at e0 e1 e2 e3 j0 ho
  generalize env0 as1 = env at e0 e1 e2 e3
  generalize st0 as1 = st at j0
  have hlen := takeR_len (bs := bs) (s := s) (k := k)
  unfold manyR
  dsimp only
  obtain ⟨gv, hgv⟩ := takeV_row (takeR bs s k).1
  rw [hgv] at ct
  obtain ⟨x, hx⟩ : ∃ x, (takeR bs s k).1.getD [] = x := ⟨_, rfl⟩
  rw [hx] at ct hlen ⊢
  obtain ⟨r, hr⟩ : ∃ r, (takeR bs s k).2 = r := ⟨_, rfl⟩
  rw [hr] at ct cf ⊢
  have hv0 : beV x 0 = ((beN x 0 : Nat) : Int) := beV_N x 0
  rw [hv0]
  simp only [simB, keep5, Nat.reduceBEq, own5, String.reduceAppend, String.reduceBEq, Bool.or_false, Bool.or_true, Bool.or_self, ↓reduceIte, Nat.reduceEqDiff, Nat.reduceAdd, simA, simL, simN, Nat.zero_add, e0, e1, j0, ct, lenB, den_loop]
  refine loop_ends (X := Nat) (fun i env s => env 0 = .ptr 0 0 0 ∧ env 2 = .int .i64 a ∧ env 3 = .int .i64 b ∧ env 9 = .int .i64 ((beN (x.take i) 0 : Nat) : Int) ∧ env 14 = .sl (cellsOfBytes x) x.length gv ∧ env 15 = .int .i64 (x.length : Int) ∧ env 16 = .int .i64 (i : Int) ∧ i ≤ x.length ∧ s 0 = ⟨0, .buf (rC bs g r)⟩) (fun i => x.length - i) (fun _ => (.tree (.int .i64 (if r.e ≠ 0 then (0, r) else if ((beN x 0 : Nat) : Int) < a ∨ b < ((beN x 0 : Nat) : Int) then (0, r.fail 4) else (((beN x 0 : Nat) : Int), r)).1), [rC bs g (if r.e ≠ 0 then (0, r) else if ((beN x 0 : Nat) : Int) < a ∨ b < ((beN x 0 : Nat) : Int) then (0, r.fail 4) else (((beN x 0 : Nat) : Int), r)).2, [], [], []])) ?_ n 0 _ _ (by omega) ⟨(by simp only [zfk, ↓reduceIte, Nat.reduceEqDiff, e0]; try rfl), (by simp only [zfk, ↓reduceIte, Nat.reduceEqDiff, e2]; try rfl), (by simp only [zfk, ↓reduceIte, Nat.reduceEqDiff, e3]; try rfl), (by simp only [zfk, ↓reduceIte, Nat.reduceEqDiff]; try rfl), (by simp only [zfk, ↓reduceIte, Nat.reduceEqDiff]; try rfl), (by simp only [zfk, ↓reduceIte, Nat.reduceEqDiff]; try rfl), (by simp only [zfk, ↓reduceIte, Nat.reduceEqDiff]; try rfl), Nat.zero_le _, (by simp only [zfk, ↓reduceIte, Nat.reduceEqDiff]; try rfl)⟩
  rintro rd i hrd ih env1 s1 ⟨e0', e2', e3', e9, e14, e15, e16, hi, k0⟩
  cases hdr : x.drop i with
  | cons c q =>
    have hlt : i < x.length := by have := congrArg List.length hdr; simp only [List.length_drop, List.length_cons] at this; omega
    have q1 : (i : Int) < (x.length : Int) := by omega
    have ia := fun st => iaB st x gv i hlt
    rw [hdr] at ia
    have ld := fun st => ldB st c q
    have hv : beN (x.take i) 0 < 256 ^ (0 + (x.take i).length) := beN_lt _ 0 0 (by decide)
    have hv2 : beN (x.take i) 0 < 256 ^ 4 := Nat.lt_of_lt_of_le hv (Nat.pow_le_pow_right (by decide) (by rw [List.length_take]; omega))
    have hv3 : beN (x.take i) 0 < 4294967296 := hv2
    have g1 := y_shl8 Try.prog 3 (beN (x.take i) 0) (by omega)
    have hc : c.toNat < 256 := c.toNat_lt
    have g2 := fun s => conv5_3 s c.toNat hc
    have g3 := y_or Try.prog 3 (beN (x.take i) 0 * 256) c.toNat (by omega) (by omega)
    rw [or_256 _ _ hc] at g3
    have hnx : beN (x.take (i + 1)) 0 = beN (x.take i) 0 * 256 + c.toNat := by
      have hxi : x[i]? = some c := by rw [← Nat.add_zero i, ← List.getElem?_drop, hdr]; rfl
      rw [List.take_add_one, hxi, beN_app]; rfl
    rw [← hnx] at g3
    have g8 := i_add Try.prog 3 (i : Int) 1 (by omega) (by omega)
    simp only [simB, keep5, Nat.reduceBEq, own5, String.reduceAppend, String.reduceBEq, Bool.or_false, Bool.or_true, Bool.or_self, ↓reduceIte, Nat.reduceEqDiff, Nat.reduceAdd, simA, simL, simN, Nat.zero_add, y_lss, e0', e9, e14, e15, e16, q1, ia, ld, g1, g2, g3, g8]
    exact ih (i + 1) _ _ (by omega) rfl ⟨(by simp only [zfk, ↓reduceIte, Nat.reduceEqDiff, e0']; try rfl), (by simp only [zfk, ↓reduceIte, Nat.reduceEqDiff, e2']; try rfl), (by simp only [zfk, ↓reduceIte, Nat.reduceEqDiff, e3']; try rfl), (by simp only [zfk, ↓reduceIte, Nat.reduceEqDiff]; try rfl), (by simp only [zfk, ↓reduceIte, Nat.reduceEqDiff, e14]; try rfl), (by simp only [zfk, ↓reduceIte, Nat.reduceEqDiff, e15]; try rfl), (by simp only [zfk, ↓reduceIte, Nat.reduceEqDiff]; try rfl), by omega, (by simp only [zfk, ↓reduceIte, Nat.reduceEqDiff, k0]; try rfl)⟩
  | nil =>
    have hie : i = x.length := by have := congrArg List.length hdr; simp only [List.length_drop, List.length_nil] at this; omega
    subst hie
    rw [List.take_length] at e9
    have q1 : ¬ (x.length : Int) < (x.length : Int) := by omega
    obtain ⟨v, hv⟩ : ∃ v, ((beN x 0 : Nat) : Int) = v := ⟨_, rfl⟩
    rw [hv] at e9 ⊢
    obtain ⟨i, tm, e⟩ := r
    simp only [rC, RS.fail] at k0 cf ⊢
    by_cases he : e = 0
    · subst he
      have b1 : ((0 : Int) == 0) = true := rfl
      have b2 : ((0 : Int) != 0) = false := rfl
      have b3 : ((4 : Int) != 0) = true := rfl
      have n0 : ¬ ((0 : Int) ≠ 0) := fun h => h rfl
      rw [if_neg n0]
      simp only [↓reduceIte] at cf
      by_cases h1 : v < a
      · rw [if_pos (.inl h1)]
        simp only [simB, keep5, Nat.reduceBEq, own5, String.reduceAppend, String.reduceBEq, Bool.or_false, Bool.or_true, Bool.or_self, ↓reduceIte, Nat.reduceEqDiff, Nat.reduceAdd, simA, simL, simN, Nat.zero_add, y_lss, y_gtr, y_eql, y_neq, e0', e2', e3', e9, e14, e15, e16, q1, k0, opA_nck, nckA_p, fa59_3, ld59_3, b1, b2, b3, h1, cf]
        exact finish_iY _ _ _ _ _ _ _ (by simp only [zfk, ↓reduceIte, Nat.reduceEqDiff]; try rfl) (ho _ _ (by simp only [zfk, ↓reduceIte, Nat.reduceEqDiff]; try rfl))
      · by_cases h2 : v > b
        · rw [if_pos (.inr h2)]
          simp only [simB, keep5, Nat.reduceBEq, own5, String.reduceAppend, String.reduceBEq, Bool.or_false, Bool.or_true, Bool.or_self, ↓reduceIte, Nat.reduceEqDiff, Nat.reduceAdd, simA, simL, simN, Nat.zero_add, y_lss, y_gtr, y_eql, y_neq, e0', e2', e3', e9, e14, e15, e16, q1, k0, opA_nck, nckA_p, fa59_3, ld59_3, b1, b2, b3, h1, h2, cf]
          exact finish_iY _ _ _ _ _ _ _ (by simp only [zfk, ↓reduceIte, Nat.reduceEqDiff]; try rfl) (ho _ _ (by simp only [zfk, ↓reduceIte, Nat.reduceEqDiff]; try rfl))
        · rw [if_neg (fun h => h.elim h1 h2)]
          simp only [simB, keep5, Nat.reduceBEq, own5, String.reduceAppend, String.reduceBEq, Bool.or_false, Bool.or_true, Bool.or_self, ↓reduceIte, Nat.reduceEqDiff, Nat.reduceAdd, simA, simL, simN, Nat.zero_add, y_lss, y_gtr, y_eql, y_neq, e0', e2', e3', e9, e14, e15, e16, q1, k0, opA_nck, nckA_p, fa59_3, ld59_3, b1, b2, h1, h2]
          exact finish_iY _ _ _ _ _ _ _ (by simp only [zfk, ↓reduceIte, Nat.reduceEqDiff, e9]; try rfl) (ho _ _ k0)
    · have b1 : (e == 0) = false := beq_eq_false_iff_ne.mpr he
      have b2 : (e != 0) = true := by simpa using he
      rw [if_pos he]
      simp only [simB, keep5, Nat.reduceBEq, own5, String.reduceAppend, String.reduceBEq, Bool.or_false, Bool.or_true, Bool.or_self, ↓reduceIte, Nat.reduceEqDiff, Nat.reduceAdd, simA, simL, simN, Nat.zero_add, y_lss, y_gtr, y_eql, y_neq, e0', e2', e3', e9, e14, e15, e16, q1, k0, opA_nck, nckA_p, fa59_3, ld59_3, b1, b2]
      exact finish_iY _ _ _ _ _ _ _ (by simp only [zfk, ↓reduceIte, Nat.reduceEqDiff]; try rfl) (ho _ _ k0)
end Go.Ab

/- A term that is made of no others: what is told of it at the end (CFG5). Conditions: places in range. -/
namespace Go.Ab
open Go.Proofs
set_option maxRecDepth 100000
set_option linter.unusedSimpArgs false

theorem convBS (s : St) (b : List UInt8) (g : Grip) : convA Try.prog 22 9 s (.sl (cellsOfBytes b) b.length g) = some (.str b) := by
  simp only [convA, tkB, tk9, tkU8, cB_len, if_true, bytesOf_cB, Option.map_some]
theorem slLH (s : St) (bs : List UInt8) (g : Grip) (i j : Nat) (h1 : i ≤ j) (h2 : j ≤ bs.length) : ∃ g', sliceA Try.prog 22 s (.sl (cellsOfBytes bs) bs.length g) (some (.int .i64 (i : Int))) (some (.int .i64 (j : Int))) none = some (.sl (cellsOfBytes ((bs.drop i).take (j - i))) ((bs.drop i).take (j - i)).length g') := by
  have a1 : (0 : Int) ≤ (j : Int) ∧ (j : Int) ≤ (bs.length : Nat) := ⟨by omega, by omega⟩
  have a3 : (0 : Int) ≤ (i : Int) ∧ (i : Int) ≤ (j : Nat) := ⟨by omega, by omega⟩
  have a4 : ((bs.drop i).take (j - i)).length = j - i := by rw [List.length_take, List.length_drop]; omega
  have a5 : ((cellsOfBytes bs).take j).drop i = cellsOfBytes ((bs.drop i).take (j - i)) := by
    rw [cB_take, cB_drop, List.drop_take]
  simp only [sliceA, tkB, Option.isNone_none, Option.isSome_none, Bool.false_eq_true, false_and, if_false, boundA, a1, a3, and_self, if_true, Int.toNat_natCast, Option.bind_some, eszB, cB_len, Nat.mul_one, a4, a5]
  exact ⟨_, rfl⟩
structure Leaf (t : T) : Prop where
  kids : kidsT t = []
  kind : kindT t ≠ 4
  lim : Limbs (limT t)
theorem Leaf.wf {t : T} (h : Leaf t) : wfT t := by
  obtain ⟨k, b, lg, l, s, n, kg, ks⟩ := t
  have h1 : ks = [] := h.kids
  subst h1
  simp only [wfT, wfK, and_true]
  exact h.lim
theorem Leaf.nod {t : T} (h : Leaf t) : nodT t = 1 := by
  obtain ⟨k, b, lg, l, s, n, kg, ks⟩ := t
  have h1 : ks = [] := h.kids
  subst h1; rfl
theorem Leaf.chk {t : T} (h : Leaf t) : (chkT t 1 2000).1 = ownT t := by
  obtain ⟨k, b, lg, l, s, n, kg, ks⟩ := t
  have h1 : ks = [] := h.kids
  have h2 : k ≠ 4 := h.kind
  subst h1
  simp only [chkT, chkK, if_neg h2]
  cases ho : ownT (.mk k b lg l s n kg [])
  · rw [if_pos (.inr (.inr rfl))]
  · rw [if_neg (by simp)]
theorem numB_len (b : Bool) (l : List Nat) (hc : chkN b l = true) (hL : Limbs l) : (numB b l).length ≤ 60 := by
  have h1 := limbs_bits hL
  rw [← chkN_abs hc] at h1
  have h2 : l.length ≤ 12 := by
    simp only [chkN, Bool.and_eq_true, decide_eq_true_eq] at hc
    exact hc.1
  unfold numB
  split
  · show (2 : Nat) ≤ 60; decide
  · split
    · show _ + 1 ≤ 60; exact (by decide : 4 + 1 ≤ 60)
    · simp only [List.length_cons, limBs_len]; omega
theorem Leaf.len {t : T} (h : Leaf t) (ho : ownT t = true) : (putB t).length ≤ 500 := by
  obtain ⟨k, b, lg, l, s, n, kg, ks⟩ := t
  have h1 : ks = [] := h.kids
  have h2 : k ≠ 4 := h.kind
  have h3 := own_str ho
  subst h1
  rcases own_kind ho with rfl | rfl | rfl | rfl | rfl | rfl
  · have := numB_len b l (own_num ho) h.lim
    show (numB b l).length ≤ 500; omega
  · rw [putB_2]; simp only [List.length_cons]; omega
  · rw [putB_3]; decide
  · exact absurd rfl h2
  · rw [putB_5]; simp [putAll]
  · rw [putB_6]
    have : (be32 (s.length : Int)).length = 4 := rfl
    simp only [List.length_cons, List.length_append, this]; omega
noncomputable def plC : Code := (Try.f55.body).getD .skip
noncomputable def pl1 : Code := seqR plC
noncomputable def pl2 : Code := seqR pl1
noncomputable def pl3 : Code := seqR pl2
def endR (bs : List UInt8) (r : RS) (p : T) (fr : Nat) : RS := if r.e = 0 ∧ ¬ (putB p = (bs.drop fr).take (r.i - fr) ∧ ownT p = true) then r.fail 4 else r
theorem s_neqY (t : TypeId) (a b : List UInt8) : binA Try.prog .neq t (.str a) (.str b) = some (.bool (!(a == b))) := rfl
theorem finish_cY (k : Bool) (as1 : List Arg) (os : List (List AV)) (a p e : Nat) (u : T) (env : Env) (s : St) (ha : env a = .ptr p e 0) (hs : s p = ⟨e, .buf (cellsT u)⟩) (ho : outsA s 0 as1 = some os) :
    finishP Try.prog k as1 #[.cell a 28] env s = some (.tree (encT u), os) := by
  have hl : loadA Try.prog 28 s (env a) = some (.agg (cellsT u)) := by rw [ha, zeo, hs, ldT_u, if_pos rfl]
  simp [finishP, isTmpR, hl, settle, ho, encT]
set_option maxHeartbeats 16000000 in
theorem pl3_eq (n d : Nat) (hn : 2200 ≤ n) (hd : 6010 ≤ d) (bs : List UInt8) (g : Grip) (r : RS) (hr : okR bs r) (fr : Nat) (hf : fr < r.i ∨ r.e ≠ 0) (p : T) (hp : Leaf p) (as1 : List Arg) (os : List (List AV)) (ho : ∀ s ys, s 0 = ⟨0, .buf ys⟩ → outsA s 0 as1 = some (ys :: os)) (K : Kont)
    (hK : ∀ env s, K .ret env s = finishP Try.prog false as1 #[.cell 6 28] env s) (env : Env) (st : St) (e0 : env 0 = .ptr 0 0 0) (e2 : env 2 = .int .i64 (fr : Int)) (e6 : env 6 = .ptr 6 1 0) (e7 : env 7 = .ptr 7 1 0)
    (j0 : st 0 = ⟨0, .buf (rC bs g r)⟩) (j6 : st 6 = ⟨1, .buf [.int .i64 0, .bool false, .sl [] 0 .nil, .str [], .int .i64 0, .sl [] 0 .nil]⟩) (j7 : st 7 = ⟨1, .buf (cellsT p)⟩) :
    den Try.prog cfg5 (evalFn Try.prog cfg5 n (d+1)) n pl3 K env st = some (.tree (encT p), rC bs g (endR bs r p fr) :: os) := by
  have cf := fun D (st : St) (hp : st 0 = ⟨0, .buf (rC bs g r)⟩) => callA_ptr (call := evalFn Try.prog cfg5 n (d+1)) [.int .i64 4] rfl (efail_eq n d bs g r 4) D hp
  obtain ⟨i, tm, e⟩ := r
  obtain ⟨hi, hb, h3, h4⟩ := hr
  dsimp only at hi h3 h4 hf
  unfold endR
  dsimp only
  simp only [rC] at j0 cf
  by_cases he : e = 0
  · subst he
    have b1 : ((0 : Int) == 0) = true := rfl
    have hfi : fr < i := hf.resolve_right (fun h => h rfl)
    have fs : ∃ g', ∀ s, sliceA Try.prog 22 s (.sl (cellsOfBytes bs) bs.length g) (some (.int .i64 (fr : Int))) (some (.int .i64 (i : Int))) none = some (.sl (cellsOfBytes ((bs.drop fr).take (i - fr))) ((bs.drop fr).take (i - fr)).length g') := by
      obtain ⟨g', h⟩ := slLH dead bs g fr i (by omega) hi
      refine ⟨g', fun s => ?_⟩
      rw [← h]
      simp only [sliceA, tkB]
    obtain ⟨g', fs⟩ := fs
    have hsl : ((bs.drop fr).take (i - fr)).length = i - fr := by rw [List.length_take, List.length_drop]; omega
    obtain ⟨w, hw⟩ : ∃ w, (bs.drop fr).take (i - fr) = w := ⟨_, rfl⟩
    rw [hw] at fs hsl ⊢
    have hput : ∃ q : List UInt8, (∃ g2, callQ (evalFn Try.prog cfg5 n (d+1)) 10 [.sl [] 0 .nil, encT p] = some (.sl (cellsOfBytes q) q.length g2)) ∧ (q = w ↔ (putB p = w ∧ ownT p = true)) := by
      cases hown : ownT p with
      | true =>
        refine ⟨putB p, ⟨.loose, ?_⟩, by simp⟩
        have hl := hp.len hown
        exact callQ_trees (f := 10) (vs := [.sl [] 0 .nil, encT p]) rfl (ePut_ok n d [] .nil p (by rw [hp.chk]; exact hown) hp.wf hn (by omega) (by simp only [List.length_nil]; omega))
      | false =>
        refine ⟨[], ⟨.nil, ?_⟩, ?_⟩
        · obtain ⟨d', rfl⟩ : ∃ d', d = d' + 1 := ⟨d - 1, by omega⟩
          exact callQ_trees (f := 10) (vs := [.sl [] 0 .nil, encT p]) rfl (ePut_no n d' [] .nil rfl p (by rw [hp.chk]; exact hown) hp.wf (by rw [hp.nod]; decide))
        · constructor
          · intro h; rw [← h] at hsl; simp at hsl; omega
          · intro h; exact absurd h.2 (by decide)
    obtain ⟨q, ⟨g2, hq⟩, hqw⟩ := hput
    simp only [encT] at hq
    have cs := fun s => convBS s q g2
    have cw := fun s => convBS s w g'
    by_cases heq : putB p = w ∧ ownT p = true
    · have hqe : q = w := hqw.2 heq
      have b2 : (!(q == w)) = false := by rw [hqe]; simp
      rw [if_neg (fun h => h.2 heq)]
      simp only [pl3, pl2, pl1, plC, seqR, Try.f55, Option.getD_some, simB, keep5, Nat.reduceBEq, own5, String.reduceAppend, String.reduceBEq, Bool.or_false, Bool.or_true, Bool.or_self, ↓reduceIte, Nat.reduceEqDiff, Nat.reduceAdd, simA, simL, simN, Nat.zero_add, e0, e2, e6, e7, j0, j6, j7, opA_nck, nckA_p, fa59_0, fa59_1, fa59_3, ld59_0, ld59_1, ld59_3, y_eql, b1, ldT_u, hq, cs, zdp, fs, cw, s_neqY, b2, st_Tt, stT_6, hK]
      exact finish_cY _ _ _ _ _ _ p _ _ (by simp only [zfk, ↓reduceIte, Nat.reduceEqDiff, e6]; try rfl) (by simp only [zfk, ↓reduceIte, Nat.reduceEqDiff]; try rfl) (ho _ _ (by simp only [zfk, ↓reduceIte, Nat.reduceEqDiff, j0]; try rfl))
    · have hqe : ¬ q = w := fun h => heq (hqw.1 h)
      have b2 : (!(q == w)) = true := by simpa using hqe
      rw [if_pos ⟨rfl, heq⟩]
      simp only [pl3, pl2, pl1, plC, seqR, Try.f55, Option.getD_some, simB, keep5, Nat.reduceBEq, own5, String.reduceAppend, String.reduceBEq, Bool.or_false, Bool.or_true, Bool.or_self, ↓reduceIte, Nat.reduceEqDiff, Nat.reduceAdd, simA, simL, simN, Nat.zero_add, e0, e2, e6, e7, j0, j6, j7, opA_nck, nckA_p, fa59_0, fa59_1, fa59_3, ld59_0, ld59_1, ld59_3, y_eql, b1, ldT_u, hq, cs, zdp, fs, cw, s_neqY, b2, cf, st_Tt, stT_6, hK]
      exact finish_cY _ _ _ _ _ _ p _ _ (by simp only [zfk, ↓reduceIte, Nat.reduceEqDiff, e6]; try rfl) (by simp only [zfk, ↓reduceIte, Nat.reduceEqDiff]; try rfl) (ho _ _ (by simp only [zfk, ↓reduceIte, Nat.reduceEqDiff]; try rfl))
  · have b1 : (e == 0) = false := beq_eq_false_iff_ne.mpr he
    rw [if_neg (fun h => he h.1)]
    simp only [pl3, pl2, pl1, plC, seqR, Try.f55, Option.getD_some, simB, keep5, Nat.reduceBEq, own5, String.reduceAppend, String.reduceBEq, Bool.or_false, Bool.or_true, Bool.or_self, ↓reduceIte, Nat.reduceEqDiff, Nat.reduceAdd, simA, simL, simN, Nat.zero_add, e0, e2, e6, e7, j0, j6, j7, opA_nck, nckA_p, fa59_0, fa59_1, fa59_3, ld59_0, ld59_1, ld59_3, y_eql, b1, ldT_u, st_Tt, stT_6, hK]
    exact finish_cY _ _ _ _ _ _ p _ _ (by simp only [zfk, ↓reduceIte, Nat.reduceEqDiff, e6]; try rfl) (by simp only [zfk, ↓reduceIte, Nat.reduceEqDiff]; try rfl) (ho _ _ (by simp only [zfk, ↓reduceIte, Nat.reduceEqDiff, j0]; try rfl))
end Go.Ab

/- A term that is made of no others, read (CFG5). Conditions: places in range. -/
namespace Go.Ab
open Go.Proofs
set_option maxRecDepth 100000
set_option linter.unusedSimpArgs false

theorem takeR_some {bs : List UInt8} {s : RS} {k : Nat} {x : List UInt8} (h : (takeR bs s k).1 = some x) : x.length = k ∧ (takeR bs s k).2 = ⟨s.i + k, s.tm, s.e⟩ ∧ s.e = 0 ∧ s.i + k ≤ bs.length ∧ x = (bs.drop s.i).take k := by
  unfold takeR at h ⊢
  split at h
  · cases h
  · rename_i hc
    simp only [Option.some.injEq] at h
    rw [if_neg hc]
    refine ⟨?_, rfl, ?_, by omega, h.symm⟩
    · rw [← h, List.length_take, List.length_drop]; omega
    · rcases Classical.em (s.e = 0) with h | h
      · exact h
      · exact absurd (.inl h) hc
theorem takeR_mono {bs : List UInt8} {s : RS} {k : Nat} : s.i ≤ (takeR bs s k).2.i ∧ (takeR bs s k).2.tm = s.tm := by
  unfold takeR
  split
  · unfold RS.fail; split <;> exact ⟨Nat.le_refl _, rfl⟩
  · exact ⟨by dsimp only; omega, rfl⟩
theorem manyR_mono {bs : List UInt8} {s : RS} {k : Nat} {a b : Int} : s.i ≤ (manyR bs s k a b).2.i ∧ (manyR bs s k a b).2.tm = s.tm := by
  have h := takeR_mono (bs := bs) (s := s) (k := k)
  unfold manyR
  dsimp only
  split
  · exact h
  · split
    · unfold RS.fail; split <;> exact h
    · exact h
theorem manyR_range {bs : List UInt8} {s : RS} {k : Nat} {a b : Int} (ha : 0 ≤ a) (hb : 0 ≤ b) : 0 ≤ (manyR bs s k a b).1 ∧ (manyR bs s k a b).1 ≤ b := by
  unfold manyR
  dsimp only
  split
  · exact ⟨Int.le_refl 0, hb⟩
  · split
    · exact ⟨Int.le_refl 0, hb⟩
    · rename_i h1 h2
      exact ⟨by dsimp only; omega, by dsimp only; omega⟩
def BigOk (n D : Nat) : Prop := ∀ o : Option (List UInt8), (o.getD []).length ≤ 49 → evalFn Try.prog cfg5 n D 83 [.tree (takeV o)] = some (.tree (encA (bigR (o.getD [])).1 (bigR (o.getD [])).2.1 (bigR (o.getD [])).2.2), [[]])
def stN (e : Ent) (p k : Nat) (s : St) (x y : AV) : Option St := match e with
  | ⟨t', .buf xs⟩ => if t' = k then (if 1 + 2 ≤ xs.length then some (upd s p ⟨t', .buf (splice xs 1 [x, y])⟩) else none) else none
  | _ => none
theorem st_N1 (s : St) (p k : Nat) (x y : AV) : storeA Try.prog 25 s (.ptr p k 1) (.agg [x, y]) = stN (s p) p k s x y := by
  simp only [storeA, settle, Option.bind_some, stN]
  cases h : s p with
  | mk t c => cases c <;> simp [esz24]
theorem stN_6 (t p k : Nat) (s : St) (a b c d e f x y : AV) : stN ⟨t, .buf [a, b, c, d, e, f]⟩ p k s x y = if t = k then some (upd s p ⟨t, .buf [a, x, y, d, e, f]⟩) else none := by simp [stN, splice]
theorem stY_60 (t p k : Nat) (s : St) (a b c d e f v : AV) : stY ⟨t, .buf [a, b, c, d, e, f]⟩ p k 0 s v = if t = k then some (upd s p ⟨t, .buf [v, b, c, d, e, f]⟩) else none := by simp [stY]
theorem y_eql8 (t : TypeId) (x y : Int) : binA Try.prog .eql t (.int .u8 x) (.int .u8 y) = some (.bool (x == y)) := rfl
theorem limR_limbs (x : List UInt8) : ∀ (m j : Nat), Limbs (limR x m j)
  | 0, j => by intro y hy; cases hy
  | m + 1, j => by
    have h := fun i => (x.getD i 0).toNat_lt
    have ih := limR_limbs x m (j + 1)
    intro y hy
    simp only [limR, List.mem_cons] at hy
    rcases hy with rfl | hy
    · have h0 := h (4 * j); have h1 := h (4 * j + 1); have h2 := h (4 * j + 2); have h3 := h (4 * j + 3)
      omega
    · exact ih y hy
theorem bigR_limbs (x : List UInt8) : Limbs (bigR x).2.2 := by
  unfold bigR
  split
  · intro y hy; cases hy
  · exact limR_limbs _ _ _
section
variable (n d : Nat) (hn : 2200 ≤ n) (hd : 6011 ≤ d) (bs : List UInt8) (g : Grip) (s : RS) (hs : okR bs s) (he : s.e = 0) (fr : Nat) (hf : fr < s.i)
include hn hd hs he hf
theorem plain_nil (tag : Nat) (h1 : tag ≠ 97) (h2 : tag ≠ 98) (h3 : tag ≠ 110) (h4 : tag ≠ 119) (h5 : tag ≠ 109) : evalFn Try.prog cfg5 n (d+2) 55 [.ptr (rC bs g s) 0, .tree (.int .u8 (tag : Int)), .tree (.int .i64 (fr : Int))] = some (.tree (encT nilT'), [rC bs g (endR bs s nilT' fr), [], []]) := by
  have _hu := he
  rw [evalFn_go _ Try.func55 (by unfold Try.f55; rfl) (by unfold Try.f55; decide) (Nat.le_of_ble_eq_true (by unfold Try.f55; rfl)) (by kernel_rfl)]
  have e0 : env0 [.ptr (rC bs g s) 0, .tree (.int .u8 (tag : Int)), .tree (.int .i64 (fr : Int))] 0 = .ptr 0 0 0 := rfl
  have e1 : env0 [.ptr (rC bs g s) 0, .tree (.int .u8 (tag : Int)), .tree (.int .i64 (fr : Int))] 1 = .int .u8 (tag : Int) := rfl
  have e2 : env0 [.ptr (rC bs g s) 0, .tree (.int .u8 (tag : Int)), .tree (.int .i64 (fr : Int))] 2 = .int .i64 (fr : Int) := rfl
  have j0 : st0 [.ptr (rC bs g s) 0, .tree (.int .u8 (tag : Int)), .tree (.int .i64 (fr : Int))] 0 = ⟨0, .buf (rC bs g s)⟩ := rfl
  have j6 : (st0 [.ptr (rC bs g s) 0, .tree (.int .u8 (tag : Int)), .tree (.int .i64 (fr : Int))] 6).t = 0 := rfl
  have j7 : (st0 [.ptr (rC bs g s) 0, .tree (.int .u8 (tag : Int)), .tree (.int .i64 (fr : Int))] 7).t = 0 := rfl
  have ho : ∀ s' ys, s' 0 = ⟨0, .buf ys⟩ → outsA s' 0 [.ptr (rC bs g s) 0, .tree (.int .u8 (tag : Int)), .tree (.int .i64 (fr : Int))] = some (ys :: [[], []]) := fun s' ys h => outs_ptr s' (rC bs g s) ys h [.int .u8 (tag : Int), .int .i64 (fr : Int)]
  generalize [Arg.ptr (rC bs g s) 0, .tree (.int .u8 (tag : Int)), .tree (.int .i64 (fr : Int))] = as1 at e0 e1 e2 j0 j6 j7 ho
  generalize env0 as1 = env at e0 e1 e2
  generalize st0 as1 = st at j0 j6 j7
  have hc : plC = .seq (seqL plC) (.seq (seqL pl1) (.seq (seqL pl2) pl3)) := rfl
  show den _ _ _ _ plC _ _ _ = _
  rw [hc]
  have b1 : ((tag : Int) == 97) = false := beq_eq_false_iff_ne.mpr (by omega)
  have b2 : ((tag : Int) == 98) = false := beq_eq_false_iff_ne.mpr (by omega)
  have b3 : ((tag : Int) == 110) = false := beq_eq_false_iff_ne.mpr (by omega)
  have b4 : ((tag : Int) == 119) = false := beq_eq_false_iff_ne.mpr (by omega)
  have b5 : ((tag : Int) == 109) = false := beq_eq_false_iff_ne.mpr (by omega)
  have bd := bdT_0 1
  have stt := fun s p k => st_Tt s p k int0
  simp only [int0, cellsT, encC, encL, List.map_nil, cellsK, List.length_nil, gr] at stt
  have st6 := fun t k p st => stT_6 t k p st (.int .i64 0) (.bool false) (.sl [] 0 .nil) (.str []) (.int .i64 0) (.sl [] 0 .nil) int0
  simp only [int0, cellsT, encC, encL, List.map_nil, cellsK, List.length_nil, gr] at st6
  simp only [seqL, pl2, pl1, plC, seqR, Try.f55, Option.getD_some, simB, keep5, Nat.reduceBEq, own5, String.reduceAppend, String.reduceBEq, Bool.or_false, Bool.or_true, Bool.or_self, ↓reduceIte, Nat.reduceEqDiff, Nat.reduceAdd, simA, simL, simN, Nat.zero_add, e0, e1, e2, zeroT, j6, j7, bd, stt, st6, y_eql8, b1, b2, b3, b4, b5, faT_0, Nat.reduceAdd, st_iY, stY_60]
  exact pl3_eq n d (by omega) (by omega) bs g s hs fr (.inl hf) nilT' ⟨rfl, by decide, by intro y hy; cases hy⟩ as1 _ ho _ (fun _ _ => rfl) _ _ (by simp only [zfk, ↓reduceIte, Nat.reduceEqDiff, e0]; try rfl) (by simp only [zfk, ↓reduceIte, Nat.reduceEqDiff, e2]; try rfl) (by simp only [zfk, ↓reduceIte, Nat.reduceEqDiff]; try rfl) (by simp only [zfk, ↓reduceIte, Nat.reduceEqDiff]; try rfl) (by simp only [zfk, ↓reduceIte, Nat.reduceEqDiff, j0]; try rfl) (by simp only [zfk, ↓reduceIte, Nat.reduceEqDiff]; try rfl) (by simp only [zfk, ↓reduceIte, Nat.reduceEqDiff]; try rfl)
end
end Go.Ab

/- A term that is made of no others, read, by its tag (CFG5; printed by genplain.py). Conditions: places in range. -/
namespace Go.Ab
open Go.Proofs
set_option maxRecDepth 100000
set_option linter.unusedSimpArgs false

theorem y_add1 (k : Nat) (h : k ≤ 1000000) : binA Try.prog .add 3 (.int .i64 1) (.int .i64 (k : Int)) = some (.int .i64 ((1 + k : Nat) : Int)) := by
  rw [i_add Try.prog 3 1 (k : Int) (by omega) (by omega)]
  congr 2
theorem eqNil_n (t : TypeId) (ht : tkOf Try.prog t = .sl 5) : binA Try.prog .neq t (.sl [] 0 .nil) (.sl [] 0 .nil) = some (.bool false) := by
  simp only [binA, ht, nilA, eqA, Option.map_some, Bool.not_true]
theorem eqNil_x (t : TypeId) (ht : tkOf Try.prog t = .sl 5) (xs : List AV) (n : Nat) (h : 0 < n) : binA Try.prog .neq t (.sl xs n .tight) (.sl [] 0 .nil) = some (.bool true) := by
  simp only [binA, ht, nilA, h, if_true, eqA, Option.map_some, Bool.not_false]
theorem st_N1Z (s : St) (p k : Nat) (z : Int) : storeA Try.prog 25 s (.ptr p k 1) (encZ z) = stN (s p) p k s (.bool (decide (z < 0))) (encL (numG z) (digs z.natAbs)) := by
  rw [encZ_G]; exact st_N1 _ _ _ _ _
theorem y_shlU (a K : Nat) (z : Int) (hz : z = (K : Int)) (hK : K ≤ 32) (h : a * 2 ^ K < 4294967296) : binA Try.prog .shl 56 (.int .u32 (a : Int)) (.int .u64 z) = some (.int .u32 ((a * 2 ^ K : Nat) : Int)) := by
  subst hz
  have hm : min ((K : Int).toNat) 32 = K := by omega
  have e : (a : Int) * 2 ^ K = ((a * 2 ^ K : Nat) : Int) := by rw [Int.natCast_mul, Int.natCast_pow]; rfl
  simp only [binA, shA, IntKind.bits]
  rw [if_neg (by omega)]
  simp only [hm, e]
  have w : IntKind.u32.wrap ((a * 2 ^ K : Nat) : Int) = ((a * 2 ^ K : Nat) : Int) := by
    generalize a * 2 ^ K = q at *
    show (q : Int) % 4294967296 = q
    omega
  rw [w]
theorem conv5_31 (s : St) (x : Nat) (h : x < 256) : convA Try.prog 5 56 s (.int .u8 (x : Int)) = some (.int .u32 (x : Int)) := by
  have w : IntKind.u32.wrap (x : Int) = (x : Int) := by
    show (x : Int) % 4294967296 = x
    omega
  simp only [convA, tkU8, tk31, w]
theorem tkI32 : tkOf Try.prog 21 = .int .i32 := by kernel_rfl
theorem conv_i32 (s : St) (x : Nat) (h : x < 4294967296) : convA Try.prog 56 21 s (.int .u32 (x : Int)) = some (.int .i32 (i32 (x : Int))) := by
  have w : IntKind.i32.wrap (x : Int) = i32 (x : Int) := by
    unfold i32
    simp [IntKind.wrap, IntKind.bits, IntKind.signed]
    (repeat' split) <;> omega
  simp only [convA, tk31, tkI32, w]
theorem conv_i32i (s : St) (z : Int) (h : -2147483648 ≤ z ∧ z ≤ 2147483647) : convA Try.prog 21 3 s (.int .i32 z) = some (.int .i64 z) := by
  simp only [convA, tkI32, tk3]
  rw [i64_wrap _ (by omega) (by omega)]
theorem bdT_ks (k : Int) (s : List UInt8) : buildA Try.prog 28 [(0, .int .i64 k), (2, .str s)] = some (.agg (cellsT (.mk k false .n [] s 0 .n []))) := bdT_2 k s
end Go.Ab

/- A plain term read: texts (CFG5; printed by genplain.py). Conditions: places in range. -/
namespace Go.Ab
open Go.Proofs
set_option maxRecDepth 100000
set_option linter.unusedSimpArgs false

section
variable (n d : Nat) (hn : 2200 ≤ n) (hd : 6011 ≤ d) (bs : List UInt8) (g : Grip) (s : RS) (hs : okR bs s) (fr : Nat) (hf : fr < s.i)
include hn hd hs hf
set_option maxHeartbeats 1000000 in
theorem plain_119 (c : Nat) (r : RS) (hmq : manyR bs s 1 1 40 = ((c : Int), r)) : evalFn Try.prog cfg5 n (d+2) 55 [.ptr (rC bs g s) 0, .tree (.int .u8 119), .tree (.int .i64 (fr : Int))] = some (.tree (encT (.mk 2 false .n [] ((takeR bs r c).1.getD []) 0 .n [])), [rC bs g (endR bs (takeR bs r c).2 (.mk 2 false .n [] ((takeR bs r c).1.getD []) 0 .n []) fr), [], []]) := by
  rw [evalFn_go _ Try.func55 (by unfold Try.f55; rfl) (by unfold Try.f55; decide) (Nat.le_of_ble_eq_true (by unfold Try.f55; rfl)) (by kernel_rfl)]
  have e0 : env0 [.ptr (rC bs g s) 0, .tree (.int .u8 119), .tree (.int .i64 (fr : Int))] 0 = .ptr 0 0 0 := rfl
  have e1 : env0 [.ptr (rC bs g s) 0, .tree (.int .u8 119), .tree (.int .i64 (fr : Int))] 1 = .int .u8 119 := rfl
  have e2 : env0 [.ptr (rC bs g s) 0, .tree (.int .u8 119), .tree (.int .i64 (fr : Int))] 2 = .int .i64 (fr : Int) := rfl
  have j0 : st0 [.ptr (rC bs g s) 0, .tree (.int .u8 119), .tree (.int .i64 (fr : Int))] 0 = ⟨0, .buf (rC bs g s)⟩ := rfl
  have j6 : (st0 [.ptr (rC bs g s) 0, .tree (.int .u8 119), .tree (.int .i64 (fr : Int))] 6).t = 0 := rfl
  have j7 : (st0 [.ptr (rC bs g s) 0, .tree (.int .u8 119), .tree (.int .i64 (fr : Int))] 7).t = 0 := rfl
  have ho : ∀ s' ys, s' 0 = ⟨0, .buf ys⟩ → outsA s' 0 [.ptr (rC bs g s) 0, .tree (.int .u8 119), .tree (.int .i64 (fr : Int))] = some (ys :: [[], []]) := fun s' ys h => outs_ptr s' (rC bs g s) ys h [.int .u8 119, .int .i64 (fr : Int)]
  generalize [Arg.ptr (rC bs g s) 0, .tree (.int .u8 119), .tree (.int .i64 (fr : Int))] = as1 at e0 e1 e2 j0 j6 j7 ho
  generalize env0 as1 = env at e0 e1 e2
  generalize st0 as1 = st at j0 j6 j7
  have hc : plC = .seq (seqL plC) (.seq (seqL pl1) (.seq (seqL pl2) pl3)) := rfl
  show den _ _ _ _ plC _ _ _ = _
  rw [hc]
  have bd := bdT_0 1
  have stt := fun s p k => st_Tt s p k int0
  simp only [int0, cellsT, encC, encL, List.map_nil, cellsK, List.length_nil, gr] at stt
  have st6 := fun t k p st => stT_6 t k p st (.int .i64 0) (.bool false) (.sl [] 0 .nil) (.str []) (.int .i64 0) (.sl [] 0 .nil) int0
  simp only [int0, cellsT, encC, encL, List.map_nil, cellsK, List.length_nil, gr] at st6
  obtain ⟨dd, rfl⟩ : ∃ dd, d = dd + 2 := ⟨d - 2, by omega⟩
  have cm := fun D (st : St) (hp : st 0 = ⟨0, .buf (rC bs g s)⟩) => callA_ptr (call := evalFn Try.prog cfg5 n (dd+3)) [.int .i64 1, .int .i64 1, .int .i64 40] rfl (many_eq n dd (by omega) bs g s 1 1 40 hs (by decide)) D hp
  have hm := manyR_range (bs := bs) (s := s) (k := 1) (a := 1) (b := 40) (by decide) (by decide)
  have hmo := manyR_mono (bs := bs) (s := s) (k := 1) (a := 1) (b := 40)
  have hok := manyR_ok (k := 1) (a := 1) (b := 40) hs
  rw [hmq] at cm hm hmo hok
  dsimp only at cm hm hmo hok
  have ct := fun D (st : St) (hp : st 0 = ⟨0, .buf (rC bs g r)⟩) => callA_ptr (call := evalFn Try.prog cfg5 n (dd+3)) [.int .i64 (c : Int)] rfl (take_eq n (dd+1) bs g r c hok (by omega)) D hp
  have hto := takeR_ok (k := c) hok
  have htm := takeR_mono (bs := bs) (s := r) (k := c)
  obtain ⟨gv, hgv⟩ := takeV_row (takeR bs r c).1
  rw [hgv] at ct
  have cv := fun st => convBS st ((takeR bs r c).1.getD []) gv
  have bk := bdT_ks 2 ((takeR bs r c).1.getD [])
  have sk := fun s p k => st_Tt s p k (.mk 2 false .n [] ((takeR bs r c).1.getD []) 0 .n [])
  simp only [seqL, pl2, pl1, plC, seqR, Try.f55, Option.getD_some, simB, keep5, Nat.reduceBEq, own5, String.reduceAppend, String.reduceBEq, Bool.or_false, Bool.or_true, Bool.or_self, ↓reduceIte, Nat.reduceEqDiff, Nat.reduceAdd, simA, simL, simN, Nat.zero_add, e0, e1, e2, j0, zeroT, j6, j7, bd, stt, st6, y_eql8, Int.reduceBEq, faT_0, faT_1, Nat.reduceAdd, st_iY, stY_60, cm, ct, cv, bk, sk, stT_6]
  exact pl3_eq n (dd+2) (by omega) (by omega) bs g (takeR bs r c).2 hto fr (.inl (by omega)) (.mk 2 false .n [] ((takeR bs r c).1.getD []) 0 .n []) ⟨rfl, by show (2 : Int) ≠ 4; decide, by intro y hy; cases hy⟩ as1 _ ho _ (fun _ _ => rfl) _ _ (by simp only [zfk, ↓reduceIte, Nat.reduceEqDiff, e0]; try rfl) (by simp only [zfk, ↓reduceIte, Nat.reduceEqDiff, e2]; try rfl) (by simp only [zfk, ↓reduceIte, Nat.reduceEqDiff]; try rfl) (by simp only [zfk, ↓reduceIte, Nat.reduceEqDiff]; try rfl) (by simp only [zfk, ↓reduceIte, Nat.reduceEqDiff]; try rfl) (by simp only [zfk, ↓reduceIte, Nat.reduceEqDiff]; try rfl) (by simp only [zfk, ↓reduceIte, Nat.reduceEqDiff]; try rfl)
set_option maxHeartbeats 1000000 in
theorem plain_109 (c : Nat) (r : RS) (hmq : manyR bs s 4 0 400 = ((c : Int), r)) : evalFn Try.prog cfg5 n (d+2) 55 [.ptr (rC bs g s) 0, .tree (.int .u8 109), .tree (.int .i64 (fr : Int))] = some (.tree (encT (.mk 6 false .n [] ((takeR bs r c).1.getD []) 0 .n [])), [rC bs g (endR bs (takeR bs r c).2 (.mk 6 false .n [] ((takeR bs r c).1.getD []) 0 .n []) fr), [], []]) := by
  rw [evalFn_go _ Try.func55 (by unfold Try.f55; rfl) (by unfold Try.f55; decide) (Nat.le_of_ble_eq_true (by unfold Try.f55; rfl)) (by kernel_rfl)]
  have e0 : env0 [.ptr (rC bs g s) 0, .tree (.int .u8 109), .tree (.int .i64 (fr : Int))] 0 = .ptr 0 0 0 := rfl
  have e1 : env0 [.ptr (rC bs g s) 0, .tree (.int .u8 109), .tree (.int .i64 (fr : Int))] 1 = .int .u8 109 := rfl
  have e2 : env0 [.ptr (rC bs g s) 0, .tree (.int .u8 109), .tree (.int .i64 (fr : Int))] 2 = .int .i64 (fr : Int) := rfl
  have j0 : st0 [.ptr (rC bs g s) 0, .tree (.int .u8 109), .tree (.int .i64 (fr : Int))] 0 = ⟨0, .buf (rC bs g s)⟩ := rfl
  have j6 : (st0 [.ptr (rC bs g s) 0, .tree (.int .u8 109), .tree (.int .i64 (fr : Int))] 6).t = 0 := rfl
  have j7 : (st0 [.ptr (rC bs g s) 0, .tree (.int .u8 109), .tree (.int .i64 (fr : Int))] 7).t = 0 := rfl
  have ho : ∀ s' ys, s' 0 = ⟨0, .buf ys⟩ → outsA s' 0 [.ptr (rC bs g s) 0, .tree (.int .u8 109), .tree (.int .i64 (fr : Int))] = some (ys :: [[], []]) := fun s' ys h => outs_ptr s' (rC bs g s) ys h [.int .u8 109, .int .i64 (fr : Int)]
  generalize [Arg.ptr (rC bs g s) 0, .tree (.int .u8 109), .tree (.int .i64 (fr : Int))] = as1 at e0 e1 e2 j0 j6 j7 ho
  generalize env0 as1 = env at e0 e1 e2
  generalize st0 as1 = st at j0 j6 j7
  have hc : plC = .seq (seqL plC) (.seq (seqL pl1) (.seq (seqL pl2) pl3)) := rfl
  show den _ _ _ _ plC _ _ _ = _
  rw [hc]
  have bd := bdT_0 1
  have stt := fun s p k => st_Tt s p k int0
  simp only [int0, cellsT, encC, encL, List.map_nil, cellsK, List.length_nil, gr] at stt
  have st6 := fun t k p st => stT_6 t k p st (.int .i64 0) (.bool false) (.sl [] 0 .nil) (.str []) (.int .i64 0) (.sl [] 0 .nil) int0
  simp only [int0, cellsT, encC, encL, List.map_nil, cellsK, List.length_nil, gr] at st6
  obtain ⟨dd, rfl⟩ : ∃ dd, d = dd + 2 := ⟨d - 2, by omega⟩
  have cm := fun D (st : St) (hp : st 0 = ⟨0, .buf (rC bs g s)⟩) => callA_ptr (call := evalFn Try.prog cfg5 n (dd+3)) [.int .i64 4, .int .i64 0, .int .i64 400] rfl (many_eq n dd (by omega) bs g s 4 0 400 hs (by decide)) D hp
  have hm := manyR_range (bs := bs) (s := s) (k := 4) (a := 0) (b := 400) (by decide) (by decide)
  have hmo := manyR_mono (bs := bs) (s := s) (k := 4) (a := 0) (b := 400)
  have hok := manyR_ok (k := 4) (a := 0) (b := 400) hs
  rw [hmq] at cm hm hmo hok
  dsimp only at cm hm hmo hok
  have ct := fun D (st : St) (hp : st 0 = ⟨0, .buf (rC bs g r)⟩) => callA_ptr (call := evalFn Try.prog cfg5 n (dd+3)) [.int .i64 (c : Int)] rfl (take_eq n (dd+1) bs g r c hok (by omega)) D hp
  have hto := takeR_ok (k := c) hok
  have htm := takeR_mono (bs := bs) (s := r) (k := c)
  obtain ⟨gv, hgv⟩ := takeV_row (takeR bs r c).1
  rw [hgv] at ct
  have cv := fun st => convBS st ((takeR bs r c).1.getD []) gv
  have bk := bdT_ks 6 ((takeR bs r c).1.getD [])
  have sk := fun s p k => st_Tt s p k (.mk 6 false .n [] ((takeR bs r c).1.getD []) 0 .n [])
  simp only [seqL, pl2, pl1, plC, seqR, Try.f55, Option.getD_some, simB, keep5, Nat.reduceBEq, own5, String.reduceAppend, String.reduceBEq, Bool.or_false, Bool.or_true, Bool.or_self, ↓reduceIte, Nat.reduceEqDiff, Nat.reduceAdd, simA, simL, simN, Nat.zero_add, e0, e1, e2, j0, zeroT, j6, j7, bd, stt, st6, y_eql8, Int.reduceBEq, faT_0, faT_1, Nat.reduceAdd, st_iY, stY_60, cm, ct, cv, bk, sk, stT_6]
  exact pl3_eq n (dd+2) (by omega) (by omega) bs g (takeR bs r c).2 hto fr (.inl (by omega)) (.mk 6 false .n [] ((takeR bs r c).1.getD []) 0 .n []) ⟨rfl, by show (6 : Int) ≠ 4; decide, by intro y hy; cases hy⟩ as1 _ ho _ (fun _ _ => rfl) _ _ (by simp only [zfk, ↓reduceIte, Nat.reduceEqDiff, e0]; try rfl) (by simp only [zfk, ↓reduceIte, Nat.reduceEqDiff, e2]; try rfl) (by simp only [zfk, ↓reduceIte, Nat.reduceEqDiff]; try rfl) (by simp only [zfk, ↓reduceIte, Nat.reduceEqDiff]; try rfl) (by simp only [zfk, ↓reduceIte, Nat.reduceEqDiff]; try rfl) (by simp only [zfk, ↓reduceIte, Nat.reduceEqDiff]; try rfl) (by simp only [zfk, ↓reduceIte, Nat.reduceEqDiff]; try rfl)
end
end Go.Ab

/- A plain term read: great numbers (CFG5; printed by genplain.py). Conditions: places in range. -/
namespace Go.Ab
open Go.Proofs
set_option maxRecDepth 100000
set_option linter.unusedSimpArgs false

section
variable (n d : Nat) (hn : 2200 ≤ n) (hd : 6011 ≤ d) (bs : List UInt8) (g : Grip) (s : RS) (hs : okR bs s) (fr : Nat) (hf : fr < s.i)
include hn hd hs hf
set_option maxHeartbeats 1000000 in
theorem plain_110 (hbig : BigOk n (d+1)) (c : Nat) (r : RS) (hmq : manyR bs s 1 1 48 = ((c : Int), r)) (nb : Bool) (ng : Gk) (nl : List Nat) (hbg : bigR ((takeR bs r (1 + c)).1.getD []) = (nb, ng, nl)) : evalFn Try.prog cfg5 n (d+2) 55 [.ptr (rC bs g s) 0, .tree (.int .u8 110), .tree (.int .i64 (fr : Int))] = some (.tree (encT (.mk 1 nb ng nl [] 0 .n [])), [rC bs g (endR bs (takeR bs r (1 + c)).2 (.mk 1 nb ng nl [] 0 .n []) fr), [], []]) := by
  rw [evalFn_go _ Try.func55 (by unfold Try.f55; rfl) (by unfold Try.f55; decide) (Nat.le_of_ble_eq_true (by unfold Try.f55; rfl)) (by kernel_rfl)]
  have e0 : env0 [.ptr (rC bs g s) 0, .tree (.int .u8 110), .tree (.int .i64 (fr : Int))] 0 = .ptr 0 0 0 := rfl
  have e1 : env0 [.ptr (rC bs g s) 0, .tree (.int .u8 110), .tree (.int .i64 (fr : Int))] 1 = .int .u8 110 := rfl
  have e2 : env0 [.ptr (rC bs g s) 0, .tree (.int .u8 110), .tree (.int .i64 (fr : Int))] 2 = .int .i64 (fr : Int) := rfl
  have j0 : st0 [.ptr (rC bs g s) 0, .tree (.int .u8 110), .tree (.int .i64 (fr : Int))] 0 = ⟨0, .buf (rC bs g s)⟩ := rfl
  have j6 : (st0 [.ptr (rC bs g s) 0, .tree (.int .u8 110), .tree (.int .i64 (fr : Int))] 6).t = 0 := rfl
  have j7 : (st0 [.ptr (rC bs g s) 0, .tree (.int .u8 110), .tree (.int .i64 (fr : Int))] 7).t = 0 := rfl
  have ho : ∀ s' ys, s' 0 = ⟨0, .buf ys⟩ → outsA s' 0 [.ptr (rC bs g s) 0, .tree (.int .u8 110), .tree (.int .i64 (fr : Int))] = some (ys :: [[], []]) := fun s' ys h => outs_ptr s' (rC bs g s) ys h [.int .u8 110, .int .i64 (fr : Int)]
  generalize [Arg.ptr (rC bs g s) 0, .tree (.int .u8 110), .tree (.int .i64 (fr : Int))] = as1 at e0 e1 e2 j0 j6 j7 ho
  generalize env0 as1 = env at e0 e1 e2
  generalize st0 as1 = st at j0 j6 j7
  have hc : plC = .seq (seqL plC) (.seq (seqL pl1) (.seq (seqL pl2) pl3)) := rfl
  show den _ _ _ _ plC _ _ _ = _
  rw [hc]
  have bd := bdT_0 1
  have stt := fun s p k => st_Tt s p k int0
  simp only [int0, cellsT, encC, encL, List.map_nil, cellsK, List.length_nil, gr] at stt
  have st6 := fun t k p st => stT_6 t k p st (.int .i64 0) (.bool false) (.sl [] 0 .nil) (.str []) (.int .i64 0) (.sl [] 0 .nil) int0
  simp only [int0, cellsT, encC, encL, List.map_nil, cellsK, List.length_nil, gr] at st6
  obtain ⟨dd, rfl⟩ : ∃ dd, d = dd + 2 := ⟨d - 2, by omega⟩
  have cm := fun D (st : St) (hp : st 0 = ⟨0, .buf (rC bs g s)⟩) => callA_ptr (call := evalFn Try.prog cfg5 n (dd+3)) [.int .i64 1, .int .i64 1, .int .i64 48] rfl (many_eq n dd (by omega) bs g s 1 1 48 hs (by decide)) D hp
  have hm := manyR_range (bs := bs) (s := s) (k := 1) (a := 1) (b := 48) (by decide) (by decide)
  have hmo := manyR_mono (bs := bs) (s := s) (k := 1) (a := 1) (b := 48)
  have hok := manyR_ok (k := 1) (a := 1) (b := 48) hs
  rw [hmq] at cm hm hmo hok
  dsimp only at cm hm hmo hok
  have ct := fun D (st : St) (hp : st 0 = ⟨0, .buf (rC bs g r)⟩) => callA_ptr (call := evalFn Try.prog cfg5 n (dd+3)) [.int .i64 ((1 + c : Nat) : Int)] rfl (take_eq n (dd+1) bs g r (1 + c) hok (by omega)) D hp
  have hto := takeR_ok (k := 1 + c) hok
  have htm := takeR_mono (bs := bs) (s := r) (k := 1 + c)
  have hlen := takeR_len (bs := bs) (s := r) (k := 1 + c)
  have fa := y_add1 c (by omega)
  have hL := bigR_limbs ((takeR bs r (1 + c)).1.getD [])
  have htr : isTree (takeV (takeR bs r (1 + c)).1) = true := by cases (takeR bs r (1 + c)).1 <;> rfl
  have cb := fun D st => callA_trees (cfg := cfg5) (d := D) (s := st) (f := 83) (vs := [takeV (takeR bs r (1 + c)).1]) (by simp only [List.all_cons, htr, List.all_nil, Bool.and_self]) (hbig (takeR bs r (1 + c)).1 (by omega))
  rw [hbg] at cb hL
  dsimp only at cb hL
  simp only [encA] at cb
  simp only [seqL, pl2, pl1, plC, seqR, Try.f55, Option.getD_some, simB, keep5, Nat.reduceBEq, own5, String.reduceAppend, String.reduceBEq, Bool.or_false, Bool.or_true, Bool.or_self, ↓reduceIte, Nat.reduceEqDiff, Nat.reduceAdd, simA, simL, simN, Nat.zero_add, e0, e1, e2, j0, zeroT, j6, j7, bd, stt, st6, y_eql8, Int.reduceBEq, faT_0, faT_1, Nat.reduceAdd, st_iY, stY_60, cm, fa, ct, cb, st_N1, stN_6]
  exact pl3_eq n (dd+2) (by omega) (by omega) bs g (takeR bs r (1 + c)).2 hto fr (.inl (by omega)) (.mk 1 nb ng nl [] 0 .n []) ⟨rfl, by show (1 : Int) ≠ 4; decide, hL⟩ as1 _ ho _ (fun _ _ => rfl) _ _ (by simp only [zfk, ↓reduceIte, Nat.reduceEqDiff, e0]; try rfl) (by simp only [zfk, ↓reduceIte, Nat.reduceEqDiff, e2]; try rfl) (by simp only [zfk, ↓reduceIte, Nat.reduceEqDiff]; try rfl) (by simp only [zfk, ↓reduceIte, Nat.reduceEqDiff]; try rfl) (by simp only [zfk, ↓reduceIte, Nat.reduceEqDiff]; try rfl) (by simp only [zfk, ↓reduceIte, Nat.reduceEqDiff]; try rfl) (by simp only [zfk, ↓reduceIte, Nat.reduceEqDiff]; try rfl)
end
end Go.Ab

/- A plain term read: words (CFG5; printed by genplain.py). Conditions: places in range. -/
namespace Go.Ab
open Go.Proofs
set_option maxRecDepth 100000
set_option linter.unusedSimpArgs false

theorem four_of : ∀ (x : List UInt8), x.length = 4 → ∃ c0 c1 c2 c3, x = [c0, c1, c2, c3]
  | [], h => by cases h
  | [_], h => by cases h
  | [_, _], h => by cases h
  | [_, _, _], h => by cases h
  | [a, b, c, d], _ => ⟨a, b, c, d, rfl⟩
  | _ :: _ :: _ :: _ :: _ :: _, h => by simp only [List.length_cons] at h; omega
theorem i32_b (N : Nat) (h : N < 4294967296) : (-2147483648 ≤ i32 (N : Int) ∧ i32 (N : Int) ≤ 2147483647) ∧ -9223372036854775808 ≤ i32 (N : Int) ∧ i32 (N : Int) ≤ 9223372036854775807 := by
  unfold i32; split <;> omega
section
variable (n d : Nat) (hn : 2200 ≤ n) (hd : 6011 ≤ d) (bs : List UInt8) (g : Grip) (s : RS) (hs : okR bs s) (fr : Nat) (hf : fr < s.i)
include hn hd hs hf
set_option maxHeartbeats 1000000 in
theorem plain_98 (T : T) (hT : T = (match (takeR bs s 4).1 with | some x => smallT (i32 (beV x 0)) | none => int0)) : evalFn Try.prog cfg5 n (d+2) 55 [.ptr (rC bs g s) 0, .tree (.int .u8 98), .tree (.int .i64 (fr : Int))] = some (.tree (encT T), [rC bs g (endR bs (takeR bs s 4).2 T fr), [], []]) := by
  rw [evalFn_go _ Try.func55 (by unfold Try.f55; rfl) (by unfold Try.f55; decide) (Nat.le_of_ble_eq_true (by unfold Try.f55; rfl)) (by kernel_rfl)]
  have e0 : env0 [.ptr (rC bs g s) 0, .tree (.int .u8 98), .tree (.int .i64 (fr : Int))] 0 = .ptr 0 0 0 := rfl
  have e1 : env0 [.ptr (rC bs g s) 0, .tree (.int .u8 98), .tree (.int .i64 (fr : Int))] 1 = .int .u8 98 := rfl
  have e2 : env0 [.ptr (rC bs g s) 0, .tree (.int .u8 98), .tree (.int .i64 (fr : Int))] 2 = .int .i64 (fr : Int) := rfl
  have j0 : st0 [.ptr (rC bs g s) 0, .tree (.int .u8 98), .tree (.int .i64 (fr : Int))] 0 = ⟨0, .buf (rC bs g s)⟩ := rfl
  have j6 : (st0 [.ptr (rC bs g s) 0, .tree (.int .u8 98), .tree (.int .i64 (fr : Int))] 6).t = 0 := rfl
  have j7 : (st0 [.ptr (rC bs g s) 0, .tree (.int .u8 98), .tree (.int .i64 (fr : Int))] 7).t = 0 := rfl
  have ho : ∀ s' ys, s' 0 = ⟨0, .buf ys⟩ → outsA s' 0 [.ptr (rC bs g s) 0, .tree (.int .u8 98), .tree (.int .i64 (fr : Int))] = some (ys :: [[], []]) := fun s' ys h => outs_ptr s' (rC bs g s) ys h [.int .u8 98, .int .i64 (fr : Int)]
  generalize [Arg.ptr (rC bs g s) 0, .tree (.int .u8 98), .tree (.int .i64 (fr : Int))] = as1 at e0 e1 e2 j0 j6 j7 ho
  generalize env0 as1 = env at e0 e1 e2
  generalize st0 as1 = st at j0 j6 j7
  have hc : plC = .seq (seqL plC) (.seq (seqL pl1) (.seq (seqL pl2) pl3)) := rfl
  show den _ _ _ _ plC _ _ _ = _
  rw [hc]
  have bd := bdT_0 1
  have stt := fun s p k => st_Tt s p k int0
  simp only [int0, cellsT, encC, encL, List.map_nil, cellsK, List.length_nil, gr] at stt
  have st6 := fun t k p st => stT_6 t k p st (.int .i64 0) (.bool false) (.sl [] 0 .nil) (.str []) (.int .i64 0) (.sl [] 0 .nil) int0
  simp only [int0, cellsT, encC, encL, List.map_nil, cellsK, List.length_nil, gr] at st6
  obtain ⟨dd, rfl⟩ : ∃ dd, d = dd + 2 := ⟨d - 2, by omega⟩
  have ct := fun D (st : St) (hp : st 0 = ⟨0, .buf (rC bs g s)⟩) => callA_ptr (call := evalFn Try.prog cfg5 n (dd+3)) [.int .i64 4] rfl (take_eq n (dd+1) bs g s 4 hs (by decide)) D hp
  have hto := takeR_ok (k := 4) hs
  have htm := takeR_mono (bs := bs) (s := s) (k := 4)
  have hfr : fr < (takeR bs s 4).2.i := Nat.lt_of_lt_of_le hf htm.1
  have hd1 : 6010 ≤ dd + 2 := by omega
  have hts := fun x => takeR_some (bs := bs) (s := s) (k := 4) (x := x)
  obtain ⟨o, hoq⟩ : ∃ o, (takeR bs s 4).1 = o := ⟨_, rfl⟩
  rw [hoq] at ct hts hT
  cases o with
  | none =>
    simp only [takeV] at ct hT
    subst hT
    have n0 := eqNil_n 22 tkB
    simp only [seqL, pl2, pl1, plC, seqR, Try.f55, Option.getD_some, simB, keep5, Nat.reduceBEq, own5, String.reduceAppend, String.reduceBEq, Bool.or_false, Bool.or_true, Bool.or_self, ↓reduceIte, Nat.reduceEqDiff, Nat.reduceAdd, simA, simL, simN, Nat.zero_add, e0, e1, e2, j0, zeroT, j6, j7, bd, stt, st6, y_eql8, Int.reduceBEq, faT_0, faT_1, Nat.reduceAdd, st_iY, stY_60, ct, n0]
    exact pl3_eq n (dd+2) hn hd1 bs g (takeR bs s 4).2 hto fr (.inl hfr) int0 ⟨rfl, by decide, by intro y hy; cases hy⟩ as1 _ ho _ (fun _ _ => rfl) _ _ (by simp only [zfk, ↓reduceIte, Nat.reduceEqDiff, e0]; try rfl) (by simp only [zfk, ↓reduceIte, Nat.reduceEqDiff, e2]; try rfl) (by simp only [zfk, ↓reduceIte, Nat.reduceEqDiff]; try rfl) (by simp only [zfk, ↓reduceIte, Nat.reduceEqDiff]; try rfl) (by simp only [zfk, ↓reduceIte, Nat.reduceEqDiff]; try rfl) (by simp only [zfk, ↓reduceIte, Nat.reduceEqDiff]; try rfl) (by simp only [zfk, ↓reduceIte, Nat.reduceEqDiff]; try rfl)
  | some x =>
    obtain ⟨h4, hr, _⟩ := hts x rfl
    simp only [takeV] at ct hT
    obtain ⟨c0, c1, c2, c3, rfl⟩ := four_of x h4
    have n0 := eqNil_x 22 tkB (cellsOfBytes [c0, c1, c2, c3]) [c0, c1, c2, c3].length (by simp)
    have i0 : ∀ st, indexAddrA Try.prog 22 st (.sl (cellsOfBytes [c0, c1, c2, c3]) [c0, c1, c2, c3].length .tight) (.int .i64 0) = some (.rptr (cellsOfBytes [c0, c1, c2, c3])) := fun st => iaB st [c0, c1, c2, c3] .tight 0 (by simp)
    have i1 : ∀ st, indexAddrA Try.prog 22 st (.sl (cellsOfBytes [c0, c1, c2, c3]) [c0, c1, c2, c3].length .tight) (.int .i64 1) = some (.rptr (cellsOfBytes [c1, c2, c3])) := fun st => iaB st [c0, c1, c2, c3] .tight 1 (by simp)
    have i2 : ∀ st, indexAddrA Try.prog 22 st (.sl (cellsOfBytes [c0, c1, c2, c3]) [c0, c1, c2, c3].length .tight) (.int .i64 2) = some (.rptr (cellsOfBytes [c2, c3])) := fun st => iaB st [c0, c1, c2, c3] .tight 2 (by simp)
    have i3 : ∀ st, indexAddrA Try.prog 22 st (.sl (cellsOfBytes [c0, c1, c2, c3]) [c0, c1, c2, c3].length .tight) (.int .i64 3) = some (.rptr (cellsOfBytes [c3])) := fun st => iaB st [c0, c1, c2, c3] .tight 3 (by simp)
    have l0 := fun st => ldB st c0 [c1, c2, c3]
    have l1 := fun st => ldB st c1 [c2, c3]
    have l2 := fun st => ldB st c2 [c3]
    have l3 := fun st => ldB st c3 []
    have h0 : c0.toNat < 256 := c0.toNat_lt
    have h1 : c1.toNat < 256 := c1.toNat_lt
    have h2 : c2.toNat < 256 := c2.toNat_lt
    have h3 : c3.toNat < 256 := c3.toNat_lt
    have v0 := fun s => conv5_31 s c0.toNat h0
    have v1 := fun s => conv5_31 s c1.toNat h1
    have v2 := fun s => conv5_31 s c2.toNat h2
    have v3 := fun s => conv5_31 s c3.toNat h3
    have w0 := y_shlU c0.toNat 24 24 rfl (by decide) (by omega)
    have w1 := y_shlU c1.toNat 16 16 rfl (by decide) (by omega)
    have w2 := y_shlU c2.toNat 8 8 rfl (by decide) (by omega)
    have o1 := s_or Try.prog 56 (c0.toNat * 2 ^ 24) (c1.toNat * 2 ^ 16) (by omega) (by omega)
    rw [show c0.toNat * 2 ^ 24 ||| c1.toNat * 2 ^ 16 = c0.toNat * 2 ^ 24 + c1.toNat * 2 ^ 16 by rw [Nat.or_comm, shl_or _ _ _ (by omega), Nat.add_comm]] at o1
    have o2 := s_or Try.prog 56 (c0.toNat * 2 ^ 24 + c1.toNat * 2 ^ 16) (c2.toNat * 2 ^ 8) (by omega) (by omega)
    rw [show (c0.toNat * 2 ^ 24 + c1.toNat * 2 ^ 16) ||| c2.toNat * 2 ^ 8 = c0.toNat * 2 ^ 24 + c1.toNat * 2 ^ 16 + c2.toNat * 2 ^ 8 by
      rw [show c0.toNat * 2 ^ 24 + c1.toNat * 2 ^ 16 = (c0.toNat * 2 ^ 8 + c1.toNat) * 2 ^ 16 by omega, Nat.or_comm, shl_or _ _ _ (by omega), Nat.add_comm]] at o2
    have o3 := s_or Try.prog 56 (c0.toNat * 2 ^ 24 + c1.toNat * 2 ^ 16 + c2.toNat * 2 ^ 8) c3.toNat (by omega) (by omega)
    rw [show (c0.toNat * 2 ^ 24 + c1.toNat * 2 ^ 16 + c2.toNat * 2 ^ 8) ||| c3.toNat = beN [c0, c1, c2, c3] 0 by
      rw [show c0.toNat * 2 ^ 24 + c1.toNat * 2 ^ 16 + c2.toNat * 2 ^ 8 = (c0.toNat * 2 ^ 16 + c1.toNat * 2 ^ 8 + c2.toNat) * 2 ^ 8 by omega, Nat.or_comm, shl_or _ _ _ (by omega)]
      simp only [beN]; omega] at o3
    have hbe : beV [c0, c1, c2, c3] 0 = ((beN [c0, c1, c2, c3] 0 : Nat) : Int) := beV_N _ 0
    rw [hbe] at hT
    have hN : beN [c0, c1, c2, c3] 0 < 4294967296 := by simp only [beN]; omega
    obtain ⟨N, hNq⟩ : ∃ N, beN [c0, c1, c2, c3] 0 = N := ⟨_, rfl⟩
    rw [hNq] at o3 hN hT
    have cI := fun s => conv_i32 s N hN
    obtain ⟨hz, hz1, hz2⟩ := i32_b N hN
    obtain ⟨z, hzq⟩ : ∃ z, i32 (N : Int) = z := ⟨_, rfl⟩
    rw [hzq] at cI hz hz1 hz2 hT
    subst hT
    have cJ := fun s => conv_i32i s z hz
    have hO := of64_eq 9223372036854775808 6187 (by decide) z hz1 hz2
    have hO5 : evalFn Try.prog cfg5 n (dd+2+1) 21 [.tree (.int .i64 z)] = some (.tree (encZ z), [[]]) := ev5 rfl hO
    have cO : callQ (evalFn Try.prog cfg5 n (dd+2+1)) 21 [.int .i64 z] = some (encZ z) := callQ_trees (vs := [.int .i64 z]) rfl hO5
    simp only [seqL, pl2, pl1, plC, seqR, Try.f55, Option.getD_some, simB, keep5, Nat.reduceBEq, own5, String.reduceAppend, String.reduceBEq, Bool.or_false, Bool.or_true, Bool.or_self, ↓reduceIte, Nat.reduceEqDiff, Nat.reduceAdd, simA, simL, simN, Nat.zero_add, e0, e1, e2, j0, zeroT, j6, j7, bd, stt, st6, y_eql8, Int.reduceBEq, faT_0, faT_1, Nat.reduceAdd, st_iY, stY_60, ct, n0, i0, i1, i2, i3, l0, l1, l2, l3, v0, v1, v2, v3, w0, w1, w2, o1, o2, o3, cI, cJ, cO, st_N1Z, stN_6]
    exact pl3_eq n (dd+2) hn hd1 bs g (takeR bs s 4).2 hto fr (.inl hfr) (smallT z) ⟨rfl, by show (1 : Int) ≠ 4; decide, limbs_digs _⟩ as1 _ ho _ (fun _ _ => rfl) _ _ (by simp only [zfk, ↓reduceIte, Nat.reduceEqDiff, e0]; try rfl) (by simp only [zfk, ↓reduceIte, Nat.reduceEqDiff, e2]; try rfl) (by simp only [zfk, ↓reduceIte, Nat.reduceEqDiff]; try rfl) (by simp only [zfk, ↓reduceIte, Nat.reduceEqDiff]; try rfl) (by simp only [zfk, ↓reduceIte, Nat.reduceEqDiff]; try rfl) (by simp only [zfk, ↓reduceIte, Nat.reduceEqDiff]; try rfl) (by simp only [zfk, ↓reduceIte, Nat.reduceEqDiff]; try rfl)
end
end Go.Ab

/- A plain term read: bytes (CFG5; printed by genplain.py). Conditions: places in range. -/
namespace Go.Ab
open Go.Proofs
set_option maxRecDepth 100000
set_option linter.unusedSimpArgs false

section
variable (n d : Nat) (hn : 2200 ≤ n) (hd : 6011 ≤ d) (bs : List UInt8) (g : Grip) (s : RS) (hs : okR bs s) (fr : Nat) (hf : fr < s.i)
include hn hd hs hf
set_option maxHeartbeats 1000000 in
theorem plain_97 (xs : List UInt8) (hox : (takeR bs s 1).1 = some xs ∨ ((takeR bs s 1).1 = none ∧ xs = [])) : evalFn Try.prog cfg5 n (d+2) 55 [.ptr (rC bs g s) 0, .tree (.int .u8 97), .tree (.int .i64 (fr : Int))] = some (.tree (encT (one97 xs)), [rC bs g (endR bs (takeR bs s 1).2 (one97 xs) fr), [], []]) := by
  rw [evalFn_go _ Try.func55 (by unfold Try.f55; rfl) (by unfold Try.f55; decide) (Nat.le_of_ble_eq_true (by unfold Try.f55; rfl)) (by kernel_rfl)]
  have e0 : env0 [.ptr (rC bs g s) 0, .tree (.int .u8 97), .tree (.int .i64 (fr : Int))] 0 = .ptr 0 0 0 := rfl
  have e1 : env0 [.ptr (rC bs g s) 0, .tree (.int .u8 97), .tree (.int .i64 (fr : Int))] 1 = .int .u8 97 := rfl
  have e2 : env0 [.ptr (rC bs g s) 0, .tree (.int .u8 97), .tree (.int .i64 (fr : Int))] 2 = .int .i64 (fr : Int) := rfl
  have j0 : st0 [.ptr (rC bs g s) 0, .tree (.int .u8 97), .tree (.int .i64 (fr : Int))] 0 = ⟨0, .buf (rC bs g s)⟩ := rfl
  have j6 : (st0 [.ptr (rC bs g s) 0, .tree (.int .u8 97), .tree (.int .i64 (fr : Int))] 6).t = 0 := rfl
  have j7 : (st0 [.ptr (rC bs g s) 0, .tree (.int .u8 97), .tree (.int .i64 (fr : Int))] 7).t = 0 := rfl
  have ho : ∀ s' ys, s' 0 = ⟨0, .buf ys⟩ → outsA s' 0 [.ptr (rC bs g s) 0, .tree (.int .u8 97), .tree (.int .i64 (fr : Int))] = some (ys :: [[], []]) := fun s' ys h => outs_ptr s' (rC bs g s) ys h [.int .u8 97, .int .i64 (fr : Int)]
  generalize [Arg.ptr (rC bs g s) 0, .tree (.int .u8 97), .tree (.int .i64 (fr : Int))] = as1 at e0 e1 e2 j0 j6 j7 ho
  generalize env0 as1 = env at e0 e1 e2
  generalize st0 as1 = st at j0 j6 j7
  have hc : plC = .seq (seqL plC) (.seq (seqL pl1) (.seq (seqL pl2) pl3)) := rfl
  show den _ _ _ _ plC _ _ _ = _
  rw [hc]
  have bd := bdT_0 1
  have stt := fun s p k => st_Tt s p k int0
  simp only [int0, cellsT, encC, encL, List.map_nil, cellsK, List.length_nil, gr] at stt
  have st6 := fun t k p st => stT_6 t k p st (.int .i64 0) (.bool false) (.sl [] 0 .nil) (.str []) (.int .i64 0) (.sl [] 0 .nil) int0
  simp only [int0, cellsT, encC, encL, List.map_nil, cellsK, List.length_nil, gr] at st6
  obtain ⟨dd, rfl⟩ : ∃ dd, d = dd + 2 := ⟨d - 2, by omega⟩
  have ct := fun D (st : St) (hp : st 0 = ⟨0, .buf (rC bs g s)⟩) => callA_ptr (call := evalFn Try.prog cfg5 n (dd+3)) [.int .i64 1] rfl (take_eq n (dd+1) bs g s 1 hs (by decide)) D hp
  have hto := takeR_ok (k := 1) hs
  have htm := takeR_mono (bs := bs) (s := s) (k := 1)
  have hts := fun x => takeR_some (bs := bs) (s := s) (k := 1) (x := x)
  obtain ⟨gx, hxs, hl1⟩ : ∃ gx, takeV (takeR bs s 1).1 = .sl (cellsOfBytes xs) xs.length gx ∧ xs.length ≤ 1 := by
    rcases hox with h | ⟨h, rfl⟩
    · rw [h]; exact ⟨.tight, rfl, Nat.le_of_eq (hts xs h).1⟩
    · rw [h]; exact ⟨.nil, rfl, by decide⟩
  rw [hxs] at ct
  obtain ⟨r, hrq⟩ : ∃ r, (takeR bs s 1).2 = r := ⟨_, rfl⟩
  rw [hrq] at ct hto htm
  rw [hrq]
  simp only [seqL, pl2, pl1, plC, seqR, Try.f55, Option.getD_some, simB, keep5, Nat.reduceBEq, own5, String.reduceAppend, String.reduceBEq, Bool.or_false, Bool.or_true, Bool.or_self, ↓reduceIte, Nat.reduceEqDiff, Nat.reduceAdd, simA, simL, simN, Nat.zero_add, e0, e1, e2, j0, zeroT, j6, j7, bd, stt, st6, y_eql8, Int.reduceBEq, faT_0, faT_1, Nat.reduceAdd, st_iY, stY_60, ct, lenB, den_loop]
  have hlen2 : xs = [] ∨ ∃ c, xs = [c] := by
    match xs, hl1 with
    | [], _ => exact .inl rfl
    | [c], _ => exact .inr ⟨c, rfl⟩
  refine loop_ends (X := Nat) (fun i env st => env 0 = .ptr 0 0 0 ∧ env 2 = .int .i64 (fr : Int) ∧ env 6 = .ptr 6 1 0 ∧ env 7 = .ptr 7 1 0 ∧ env 20 = .sl (cellsOfBytes xs) xs.length gx ∧ env 21 = .int .i64 (xs.length : Int) ∧ env 22 = .int .i64 (i : Int) ∧ i ≤ xs.length ∧ st 0 = ⟨0, .buf (rC bs g r)⟩ ∧ st 6 = ⟨1, .buf [.int .i64 0, .bool false, .sl [] 0 .nil, .str [], .int .i64 0, .sl [] 0 .nil]⟩ ∧ st 7 = ⟨1, .buf (cellsT (if i = 0 then int0 else (one97 xs)))⟩) (fun i => xs.length - i) (fun _ => (.tree (encT (one97 xs)), [rC bs g (endR bs r (one97 xs) fr), [], []])) ?_ n 0 _ _ (by omega) ⟨(by simp only [zfk, ↓reduceIte, Nat.reduceEqDiff, e0]; try rfl), (by simp only [zfk, ↓reduceIte, Nat.reduceEqDiff, e2]; try rfl), (by simp only [zfk, ↓reduceIte, Nat.reduceEqDiff]; try rfl), (by simp only [zfk, ↓reduceIte, Nat.reduceEqDiff]; try rfl), (by simp only [zfk, ↓reduceIte, Nat.reduceEqDiff]; try rfl), (by simp only [zfk, ↓reduceIte, Nat.reduceEqDiff]; try rfl), (by simp only [zfk, ↓reduceIte, Nat.reduceEqDiff]; try rfl), Nat.zero_le _, (by simp only [zfk, ↓reduceIte, Nat.reduceEqDiff]; try rfl), (by simp only [zfk, ↓reduceIte, Nat.reduceEqDiff]; try rfl), (by simp only [zfk, ↓reduceIte, Nat.reduceEqDiff]; try rfl)⟩
  rintro rd i hrd ih env1 s1 ⟨e0', e2', e6', e7', e20, e21, e22, hi, k0, k6, k7⟩
  rcases hlen2 with rfl | ⟨c, rfl⟩
  · have hi0 : i = 0 := by simpa using hi
    subst hi0
    simp only [↓reduceIte] at k7
    have q1 : ¬ ((0 : Nat) : Int) < (([] : List UInt8).length : Int) := by simp
    simp only [simB, keep5, Nat.reduceBEq, own5, String.reduceAppend, String.reduceBEq, Bool.or_false, Bool.or_true, Bool.or_self, ↓reduceIte, Nat.reduceEqDiff, Nat.reduceAdd, simA, simL, simN, Nat.zero_add, y_lss, e20, e21, e22, q1]
    exact pl3_eq n (dd+2) (by omega) (by omega) bs g r hto fr (.inl (by omega)) int0 ⟨rfl, by decide, by intro y hy; cases hy⟩ as1 _ ho _ (fun _ _ => rfl) _ _ (by simp only [zfk, ↓reduceIte, Nat.reduceEqDiff, e0']; try rfl) (by simp only [zfk, ↓reduceIte, Nat.reduceEqDiff, e2']; try rfl) (by simp only [zfk, ↓reduceIte, Nat.reduceEqDiff, e6']; try rfl) (by simp only [zfk, ↓reduceIte, Nat.reduceEqDiff, e7']; try rfl) k0 k6 k7
  · have hi1 : i = 0 ∨ i = 1 := by simp at hi; omega
    rcases hi1 with rfl | rfl
    · simp only [↓reduceIte, int0, cellsT, encC, encL, List.map_nil, cellsK, List.length_nil, gr] at k7
      have q1 : ((0 : Nat) : Int) < (([c] : List UInt8).length : Int) := by simp
      have i0 : ∀ st, indexAddrA Try.prog 22 st (.sl (cellsOfBytes [c]) [c].length gx) (.int .i64 ((0 : Nat) : Int)) = some (.rptr (cellsOfBytes [c])) := fun st => iaB st [c] gx 0 (by simp)
      have l0 := fun st => ldB st c []
      have hc0 : c.toNat < 256 := c.toNat_lt
      have v0 := fun s => conv5_3 s c.toNat hc0
      have cO := fun D st => callA_trees (cfg := cfg5) (d := D) (s := st) (f := 21) (vs := [.int .i64 (c.toNat : Int)]) rfl (ev5 (n := n) (d := dd+2) rfl (of64_eq 9223372036854775808 6187 (by decide) (c.toNat : Int) (by omega) (by omega)))
      have g8 : binA Try.prog .add 3 (.int .i64 ((0 : Nat) : Int)) (.int .i64 1) = some (.int .i64 ((1 : Nat) : Int)) := rfl
      simp only [simB, keep5, Nat.reduceBEq, own5, String.reduceAppend, String.reduceBEq, Bool.or_false, Bool.or_true, Bool.or_self, ↓reduceIte, Nat.reduceEqDiff, Nat.reduceAdd, simA, simL, simN, Nat.zero_add, y_lss, e0', e7', e20, e21, e22, k7, q1, i0, l0, v0, cO, faT_1, Nat.reduceAdd, st_N1Z, stN_6, g8]
      exact ih 1 _ _ (by simp only [List.length_cons, List.length_nil]; omega) rfl ⟨(by simp only [zfk, ↓reduceIte, Nat.reduceEqDiff, e0']; try rfl), (by simp only [zfk, ↓reduceIte, Nat.reduceEqDiff, e2']; try rfl), (by simp only [zfk, ↓reduceIte, Nat.reduceEqDiff, e6']; try rfl), (by simp only [zfk, ↓reduceIte, Nat.reduceEqDiff, e7']; try rfl), (by simp only [zfk, ↓reduceIte, Nat.reduceEqDiff, e20]; try rfl), (by simp only [zfk, ↓reduceIte, Nat.reduceEqDiff, e21]; try rfl), (by simp only [zfk, ↓reduceIte, Nat.reduceEqDiff]; try rfl), by simp, (by simp only [zfk, ↓reduceIte, Nat.reduceEqDiff, k0]; try rfl), (by simp only [zfk, ↓reduceIte, Nat.reduceEqDiff, k6]; try rfl), (by simp only [zfk, ↓reduceIte, Nat.reduceEqDiff]; try rfl)⟩
    · have q1 : ¬ ((1 : Nat) : Int) < (([c] : List UInt8).length : Int) := by simp
      simp only [show ¬ (1 : Nat) = 0 by decide, ↓reduceIte] at k7
      simp only [simB, keep5, Nat.reduceBEq, own5, String.reduceAppend, String.reduceBEq, Bool.or_false, Bool.or_true, Bool.or_self, ↓reduceIte, Nat.reduceEqDiff, Nat.reduceAdd, simA, simL, simN, Nat.zero_add, y_lss, e20, e21, e22, q1]
      exact pl3_eq n (dd+2) (by omega) (by omega) bs g r hto fr (.inl (by omega)) (smallT (c.toNat : Int)) ⟨rfl, by show (1 : Int) ≠ 4; decide, limbs_digs _⟩ as1 _ ho _ (fun _ _ => rfl) _ _ (by simp only [zfk, ↓reduceIte, Nat.reduceEqDiff, e0']; try rfl) (by simp only [zfk, ↓reduceIte, Nat.reduceEqDiff, e2']; try rfl) (by simp only [zfk, ↓reduceIte, Nat.reduceEqDiff, e6']; try rfl) (by simp only [zfk, ↓reduceIte, Nat.reduceEqDiff, e7']; try rfl) k0 k6 k7
end
end Go.Ab

/- A plain term, read, whatever its tag; what a reading keeps (CFG5). Conditions: places in range. -/
namespace Go.Ab
open Go.Proofs
set_option maxRecDepth 100000
set_option linter.unusedSimpArgs false

theorem plain_eq (n d : Nat) (hn : 2200 ≤ n) (hd : 6011 ≤ d) (bs : List UInt8) (g : Grip) (s : RS) (hs : okR bs s) (he : s.e = 0) (fr : Nat) (hf : fr < s.i) (tag : Nat) (ht : tag = 97 ∨ tag = 98 ∨ tag = 110 ∨ tag = 119 ∨ tag = 109 ∨ tag = 106) (hbig : tag = 110 → BigOk n (d+1)) :
    evalFn Try.prog cfg5 n (d+2) 55 [.ptr (rC bs g s) 0, .tree (.int .u8 (tag : Int)), .tree (.int .i64 (fr : Int))] = some (.tree (encT (plainR bs s tag fr).1), [rC bs g (plainR bs s tag fr).2, [], []]) := by
  rcases ht with rfl | rfl | rfl | rfl | rfl | rfl
  · have key : ∀ xs, ((takeR bs s 1).1 = some xs ∨ ((takeR bs s 1).1 = none ∧ xs = [])) → plainR bs s 97 fr = (one97 xs, endR bs (takeR bs s 1).2 (one97 xs) fr) := fun xs hx => by
      have hT : one97 ((takeR bs s 1).1.getD []) = one97 xs := by
        rcases hx with h | ⟨h, rfl⟩
        · rw [h]; rfl
        · rw [h]; rfl
      unfold plainR
      simp only [↓reduceIte, hT]
      rfl
    cases h : (takeR bs s 1).1 with
    | some xs => rw [key xs (.inl h)]; exact plain_97 n d hn hd bs g s hs fr hf xs (.inl h)
    | none => rw [key [] (.inr ⟨h, rfl⟩)]; exact plain_97 n d hn hd bs g s hs fr hf [] (.inr ⟨h, rfl⟩)
  · have key : plainR bs s 98 fr = ((match (takeR bs s 4).1 with | some x => smallT (i32 (beV x 0)) | none => int0), endR bs (takeR bs s 4).2 (match (takeR bs s 4).1 with | some x => smallT (i32 (beV x 0)) | none => int0) fr) := by
      unfold plainR
      simp only [show ¬ (98 = 97) by decide, ↓reduceIte]
      rfl
    rw [key]
    exact plain_98 n d hn hd bs g s hs fr hf _ rfl
  · have hr := manyR_range (bs := bs) (s := s) (k := 1) (a := 1) (b := 48) (by decide) (by decide)
    obtain ⟨c, hc⟩ : ∃ c : Nat, (manyR bs s 1 1 48).1 = c := ⟨(manyR bs s 1 1 48).1.toNat, by omega⟩
    have key : plainR bs s 110 fr = ((.mk 1 (bigR ((takeR bs (manyR bs s 1 1 48).2 (1 + c)).1.getD [])).1 (bigR ((takeR bs (manyR bs s 1 1 48).2 (1 + c)).1.getD [])).2.1 (bigR ((takeR bs (manyR bs s 1 1 48).2 (1 + c)).1.getD [])).2.2 [] 0 .n []), endR bs (takeR bs (manyR bs s 1 1 48).2 (1 + c)).2 (.mk 1 (bigR ((takeR bs (manyR bs s 1 1 48).2 (1 + c)).1.getD [])).1 (bigR ((takeR bs (manyR bs s 1 1 48).2 (1 + c)).1.getD [])).2.1 (bigR ((takeR bs (manyR bs s 1 1 48).2 (1 + c)).1.getD [])).2.2 [] 0 .n []) fr) := by
      unfold plainR
      simp only [show ¬ (110 = 97) by decide, show ¬ (110 = 98) by decide, ↓reduceIte, hc, Int.toNat_natCast]
      rfl
    rw [key]
    exact plain_110 n d hn hd bs g s hs fr hf (hbig rfl) c _ (by rw [← hc]) _ _ _ rfl
  · have hr := manyR_range (bs := bs) (s := s) (k := 1) (a := 1) (b := 40) (by decide) (by decide)
    obtain ⟨c, hc⟩ : ∃ c : Nat, (manyR bs s 1 1 40).1 = c := ⟨(manyR bs s 1 1 40).1.toNat, by omega⟩
    have key : plainR bs s 119 fr = ((.mk 2 false .n [] ((takeR bs (manyR bs s 1 1 40).2 c).1.getD []) 0 .n []), endR bs (takeR bs (manyR bs s 1 1 40).2 c).2 (.mk 2 false .n [] ((takeR bs (manyR bs s 1 1 40).2 c).1.getD []) 0 .n []) fr) := by
      unfold plainR
      simp only [show ¬ (119 = 97) by decide, show ¬ (119 = 98) by decide, show ¬ (119 = 110) by decide, ↓reduceIte, hc, Int.toNat_natCast]
      rfl
    rw [key]
    exact plain_119 n d hn hd bs g s hs fr hf c _ (by rw [← hc])
  · have hr := manyR_range (bs := bs) (s := s) (k := 4) (a := 0) (b := 400) (by decide) (by decide)
    obtain ⟨c, hc⟩ : ∃ c : Nat, (manyR bs s 4 0 400).1 = c := ⟨(manyR bs s 4 0 400).1.toNat, by omega⟩
    have key : plainR bs s 109 fr = ((.mk 6 false .n [] ((takeR bs (manyR bs s 4 0 400).2 c).1.getD []) 0 .n []), endR bs (takeR bs (manyR bs s 4 0 400).2 c).2 (.mk 6 false .n [] ((takeR bs (manyR bs s 4 0 400).2 c).1.getD []) 0 .n []) fr) := by
      unfold plainR
      simp only [show ¬ (109 = 97) by decide, show ¬ (109 = 98) by decide, show ¬ (109 = 110) by decide, show ¬ (109 = 119) by decide, ↓reduceIte, hc, Int.toNat_natCast]
      rfl
    rw [key]
    exact plain_109 n d hn hd bs g s hs fr hf c _ (by rw [← hc])
  · have key : plainR bs s 106 fr = (nilT', endR bs s nilT' fr) := by
      unfold plainR
      simp only [show ¬ (106 = 97) by decide, show ¬ (106 = 98) by decide, show ¬ (106 = 110) by decide, show ¬ (106 = 119) by decide, show ¬ (106 = 109) by decide, ↓reduceIte]
      rfl
    rw [key]
    exact plain_nil n d hn hd bs g s hs he fr hf 106 (by decide) (by decide) (by decide) (by decide) (by decide)
structure InvR (bs : List UInt8) (s : RS) : Prop where
  i : s.i ≤ bs.length
  len : bs.length ≤ 150000000000000
  lo : -1 ≤ s.tm
  hi : s.tm ≤ 2001
  ok : s.e = 0 → 0 ≤ s.tm ∧ s.tm ≤ 2000
theorem InvR.okR {bs : List UInt8} {s : RS} (h : InvR bs s) : Go.Ab.okR bs s := ⟨h.i, h.len, by have := h.lo; omega, by have := h.hi; omega⟩
theorem InvR.fail {bs : List UInt8} {s : RS} {e : Int} (h : InvR bs s) (he : e ≠ 0) : InvR bs (s.fail e) := by
  unfold RS.fail
  split
  · exact ⟨h.i, h.len, h.lo, h.hi, fun h' => absurd h' he⟩
  · exact h
theorem fail_e (s : RS) (e : Int) (he : e ≠ 0) : (s.fail e).e ≠ 0 := by
  unfold RS.fail
  split
  · exact he
  · assumption
theorem InvR.take {bs : List UInt8} {s : RS} {k : Nat} (h : InvR bs s) : InvR bs (takeR bs s k).2 := by
  have h1 := takeR_ok (k := k) h.okR
  have h2 := takeR_mono (bs := bs) (s := s) (k := k)
  have h3 : (takeR bs s k).2.e = 0 → s.e = 0 := by
    unfold takeR
    split
    · intro hh; exact absurd hh (fail_e s 3 (by decide))
    · intro hh; exact hh
  exact ⟨h1.1, h.len, by rw [h2.2]; exact h.lo, by rw [h2.2]; exact h.hi, fun he => by rw [h2.2]; exact h.ok (h3 he)⟩
theorem manyR_e {bs : List UInt8} {s : RS} {k : Nat} {a b : Int} (h : (manyR bs s k a b).2.e = 0) : (takeR bs s k).2.e = 0 ∧ (manyR bs s k a b).2 = (takeR bs s k).2 ∧ a ≤ (manyR bs s k a b).1 ∧ (manyR bs s k a b).1 ≤ b := by
  unfold manyR at h ⊢
  dsimp only at h ⊢
  split at h
  · rename_i h1; exact absurd h h1
  · rename_i h1
    split at h
    · exact absurd h (fail_e _ 4 (by decide))
    · rename_i h2
      rw [if_neg h1, if_neg h2]
      exact ⟨by simpa using h1, rfl, by dsimp only; omega, by dsimp only; omega⟩
theorem InvR.many {bs : List UInt8} {s : RS} {k : Nat} {a b : Int} (h : InvR bs s) : InvR bs (manyR bs s k a b).2 := by
  have h1 := h.take (k := k)
  unfold manyR
  dsimp only
  split
  · exact h1
  · split
    · exact h1.fail (by decide)
    · exact h1
end Go.Ab

/- What a reading keeps, to its end. No conditions. -/
namespace Go.Ab
open Go.Proofs
set_option maxRecDepth 100000
set_option linter.unusedSimpArgs false

theorem fail_i (s : RS) (e : Int) : (s.fail e).i = s.i ∧ (s.fail e).tm = s.tm := by unfold RS.fail; split <;> exact ⟨rfl, rfl⟩
theorem InvR.endR {bs : List UInt8} {s : RS} (h : InvR bs s) (p : T) (fr : Nat) : InvR bs (Go.Ab.endR bs s p fr) ∧ (Go.Ab.endR bs s p fr).i = s.i := by
  unfold Go.Ab.endR
  split
  · exact ⟨h.fail (by decide), (fail_i s 4).1⟩
  · exact ⟨h, rfl⟩
theorem plainR_inv {bs : List UInt8} {s : RS} (h : InvR bs s) (tag fr : Nat) : InvR bs (plainR bs s tag fr).2 ∧ s.i ≤ (plainR bs s tag fr).2.i := by
  have key : ∀ (r : RS) (p : T), InvR bs r → s.i ≤ r.i → InvR bs (endR bs r p fr) ∧ s.i ≤ (endR bs r p fr).i := fun r p h1 h2 => by
    obtain ⟨a, b⟩ := h1.endR p fr
    exact ⟨a, by rw [b]; exact h2⟩
  unfold plainR
  by_cases h1 : tag = 97
  · simp only [h1, ↓reduceIte]
    exact key _ _ h.take takeR_mono.1
  by_cases h2 : tag = 98
  · simp only [h1, h2, ↓reduceIte, show ¬ (98 = 97) by decide]
    exact key _ _ h.take takeR_mono.1
  by_cases h3 : tag = 110
  · simp only [h3, ↓reduceIte, show ¬ (110 = 97) by decide, show ¬ (110 = 98) by decide]
    exact key _ _ h.many.take (Nat.le_trans manyR_mono.1 takeR_mono.1)
  by_cases h4 : tag = 119
  · simp only [h4, ↓reduceIte, show ¬ (119 = 97) by decide, show ¬ (119 = 98) by decide, show ¬ (119 = 110) by decide]
    exact key _ _ h.many.take (Nat.le_trans manyR_mono.1 takeR_mono.1)
  by_cases h5 : tag = 109
  · simp only [h5, ↓reduceIte, show ¬ (109 = 97) by decide, show ¬ (109 = 98) by decide, show ¬ (109 = 110) by decide, show ¬ (109 = 119) by decide]
    exact key _ _ h.many.take (Nat.le_trans manyR_mono.1 takeR_mono.1)
  · simp only [h1, h2, h3, h4, h5, ↓reduceIte]
    exact key _ _ h (Nat.le_refl _)
theorem someR_inv {bs : List UInt8} {rd : RS → T × RS} (H : ∀ s, InvR bs s → InvR bs (rd s).2 ∧ s.i ≤ (rd s).2.i) : ∀ (n : Nat) (s : RS) (acc : List T), InvR bs s → InvR bs (someR rd n s acc).2 ∧ s.i ≤ (someR rd n s acc).2.i
  | 0, s, acc, h => ⟨h, Nat.le_refl _⟩
  | n + 1, s, acc, h => by
    have h1 := H s h
    simp only [someR]
    split
    · exact h1
    · have h2 := someR_inv H n (rd s).2 (acc ++ [(rd s).1]) h1.1
      exact ⟨h2.1, Nat.le_trans h1.2 h2.2⟩
def bumpR (m : Int × RS) : RS := ⟨m.2.i, m.2.tm + (m.1 - 1), m.2.e⟩
theorem manyR_no {bs : List UInt8} {s : RS} {k : Nat} {a b : Int} (h : (manyR bs s k a b).2.e ≠ 0) : (manyR bs s k a b).1 = 0 := by
  unfold manyR at h ⊢
  dsimp only at h ⊢
  split
  · rfl
  · split
    · rfl
    · rename_i h1 h2
      rw [if_neg h1, if_neg h2] at h
      exact absurd (by simpa using h1) h
theorem bumpR_inv {bs : List UInt8} {s : RS} (h : InvR bs s) (h1 : 1 ≤ s.tm) : InvR bs (bumpR (manyR bs s 4 1 (2001 - s.tm))) ∧ s.i ≤ (bumpR (manyR bs s 4 1 (2001 - s.tm))).i := by
  have hm := h.many (k := 4) (a := 1) (b := 2001 - s.tm)
  have ht := (manyR_mono (bs := bs) (s := s) (k := 4) (a := 1) (b := 2001 - s.tm))
  have hh := h.hi
  unfold bumpR
  refine ⟨?_, ht.1⟩
  by_cases he : (manyR bs s 4 1 (2001 - s.tm)).2.e = 0
  · have hr := manyR_e he
    exact ⟨hm.i, hm.len, by dsimp only; rw [ht.2]; omega, by dsimp only; rw [ht.2]; omega, fun _ => by dsimp only; rw [ht.2]; omega⟩
  · have h0 := manyR_no he
    exact ⟨hm.i, hm.len, by dsimp only; rw [ht.2, h0]; omega, by dsimp only; rw [ht.2, h0]; omega, fun h => absurd h he⟩
theorem stepR {bs : List UInt8} {s : RS} (h : InvR bs s) (he : (takeR bs s 1).2.e = 0) : (takeR bs s 1).2 = ⟨s.i + 1, s.tm, 0⟩ ∧ s.e = 0 ∧ s.i + 1 ≤ bs.length ∧ (takeR bs s 1).1 = some ((bs.drop s.i).take 1) := by
  unfold takeR at he ⊢
  split at he
  · exact absurd he (fail_e _ 3 (by decide))
  · rename_i hc
    rw [if_neg hc]
    have h0 : s.e = 0 := he
    exact ⟨by rw [h0], h0, by omega, rfl⟩
theorem termR_inv (bs : List UInt8) : ∀ (f : Nat) (deep : Int) (s : RS), InvR bs s → InvR bs (termR bs f deep s).2 ∧ s.i ≤ (termR bs f deep s).2.i
  | 0, _, s, h => ⟨h, Nat.le_refl _⟩
  | f + 1, deep, s, h => by
    by_cases he : (takeR bs s 1).2.e = 0
    · obtain ⟨h1, h2, h3, h4⟩ := stepR h he
      have htm := h.ok h2
      simp only [termR]
      rw [if_neg (fun hh => hh he)]
      rw [h1]
      dsimp only
      by_cases hb : s.tm + 1 > 2000 ∨ deep > 60
      · rw [if_pos hb]
        have e1 : (RS.fail ⟨s.i + 1, s.tm + 1, 0⟩ 4) = ⟨s.i + 1, s.tm + 1, 4⟩ := rfl
        rw [e1]
        exact ⟨⟨h3, h.len, by dsimp only; omega, by dsimp only; omega, fun hh => by cases hh⟩, by dsimp only; omega⟩
      · rw [if_neg hb]
        have hs1 : InvR bs ⟨s.i + 1, s.tm + 1, 0⟩ := ⟨h3, h.len, by dsimp only; omega, by dsimp only; omega, fun _ => by dsimp only; omega⟩
        have lift : ∀ r : RS, s.i + 1 ≤ r.i → s.i ≤ r.i := fun r hr => by omega
        split
        · have := plainR_inv hs1 ((((takeR bs s 1).1.getD []).headD 0).toNat) s.i
          exact ⟨this.1, lift _ this.2⟩
        · split
          · have hbm := bumpR_inv hs1 (by dsimp only; omega)
            have hsm := someR_inv (rd := termR bs f (deep + 1)) (fun s hs => termR_inv bs f (deep + 1) s hs) (manyR bs ⟨s.i + 1, s.tm + 1, 0⟩ 4 1 (2001 - (s.tm + 1))).1.toNat _ [] hbm.1
            have htl := termR_inv bs f deep _ hsm.1
            have hall : s.i ≤ (termR bs f deep (someR (termR bs f (deep + 1)) (manyR bs ⟨s.i + 1, s.tm + 1, 0⟩ 4 1 (2001 - (s.tm + 1))).1.toNat (bumpR (manyR bs ⟨s.i + 1, s.tm + 1, 0⟩ 4 1 (2001 - (s.tm + 1)))) []).2).2.i := by
              have a := hbm.2; have b := hsm.2; have c := htl.2
              exact Nat.le_trans (Nat.le_trans (Nat.le_trans (Nat.le_succ _) a) b) c
            dsimp only
            split
            · exact ⟨htl.1.fail (by decide), by rw [(fail_i _ 4).1]; exact hall⟩
            · exact ⟨htl.1, hall⟩
          · split
            · have hm := hs1.many (k := 1) (a := 0) (b := 40)
              have hmo := (manyR_mono (bs := bs) (s := ⟨s.i + 1, s.tm + 1, 0⟩) (k := 1) (a := 0) (b := 40)).1
              have hsm := someR_inv (rd := termR bs f (deep + 1)) (fun s hs => termR_inv bs f (deep + 1) s hs) (manyR bs ⟨s.i + 1, s.tm + 1, 0⟩ 1 0 40).1.toNat _ [] hm
              exact ⟨hsm.1, by have b := hsm.2; dsimp only at hmo ⊢; omega⟩
            · have e1 : (RS.fail ⟨s.i + 1, s.tm + 1, 0⟩ 4) = ⟨s.i + 1, s.tm + 1, 4⟩ := rfl
              rw [e1]
              exact ⟨⟨h3, h.len, by dsimp only; omega, by dsimp only; omega, fun hh => by cases hh⟩, by dsimp only; omega⟩
    · simp only [termR]
      rw [if_pos he]
      exact ⟨h.take, takeR_mono.1⟩
end Go.Ab

/- So many terms, read one behind the other (CFG5). Conditions: places in range. -/
namespace Go.Ab
open Go.Proofs
set_option maxRecDepth 100000
set_option linter.unusedSimpArgs false

theorem push_nil (d : Nat) (S : St) (v : T) : appendA Try.prog #[26, 26] d S (.sl [] 0 .nil) (.sl (cellsT v) 1 .tight) = some (.sl (cellsK [v]) [v].length (.tok d ((S d).t + 1)), upd S d ⟨(S d).t + 1, .tok 6⟩) := by
  have hb := of_decide_eq_true by28
  have hm : ∀ s, moreA Try.prog 28 6 (some 26) s (.sl (cellsT v) 1 .tight) = some (cellsT v, 1) := fun s => by
    simp only [moreA, Option.map_some, tkTk, cellsT_len, Nat.one_mul, ↓reduceIte]
  have hc : (0 + 1) * byOf Try.prog 28 ≤ 140737488355328 ∧ 0 + 1 ≤ 9223372036854775807 := by
    exact ⟨by omega, by decide⟩
  simp only [appendA, List.getElem?_toArray, List.getElem?_cons_zero, List.getElem?_cons_succ, Option.map_some, tkTk, eszT, Option.bind_some, hm, baseA, List.length_nil, Nat.zero_mul, ↓reduceIte, zl28, and_true]
  rw [if_pos hc]
  simp [cellsK]
theorem push_tok (d t : Nat) (us : List T) (hl : us.length ≤ 1000000) (S : St) (v : T) (hs : S d = ⟨t, .tok 6⟩) : appendA Try.prog #[26, 26] d S (.sl (cellsK us) us.length (.tok d t)) (.sl (cellsT v) 1 .tight) = some (.sl (cellsK (us ++ [v])) (us ++ [v]).length (.tok d (t + 1)), upd (upd S d ⟨t, .dead⟩) d ⟨t + 1, .tok 6⟩) := by
  have hb := of_decide_eq_true by28
  have hk : cellsK (us ++ [v]) = cellsK us ++ cellsT v := by rw [cellsK_append]; simp only [cellsK, List.append_nil]
  have hm : ∀ s, moreA Try.prog 28 6 (some 26) s (.sl (cellsT v) 1 .tight) = some (cellsT v, 1) := fun s => by
    simp only [moreA, Option.map_some, tkTk, cellsT_len, Nat.one_mul, ↓reduceIte]
  have hc : (us.length + 1) * byOf Try.prog 28 ≤ 140737488355328 ∧ us.length + 1 ≤ 9223372036854775807 := by
    have : (us.length + 1) * byOf Try.prog 28 ≤ 1000001 * 200 := Nat.mul_le_mul (by omega) hb
    omega
  simp only [appendA, List.getElem?_toArray, List.getElem?_cons_zero, List.getElem?_cons_succ, Option.map_some, tkTk, eszT, Option.bind_some, hm, baseA, hs, cellsK_len, and_self, ↓reduceIte, zl28, and_true]
  rw [if_pos hc]
  simp only [upd_same, List.length_append, List.length_cons, List.length_nil, Nat.zero_add, hk]
theorem finish_ApY (k : Bool) (hk : k = false) (as1 : List Arg) (os : List (List AV)) (t d : Nat) (x : AV) (us : List T) (env : Env) (s : St) (hv : env t = x) (hA : Ap s d x us) (ho : outsA s 0 as1 = some os) :
    finishP Try.prog k as1 #[.tmp t] env s = some (.tree (.sl (cellsK us) us.length (gr (kgOf us))), os) := by
  subst hk
  rw [finishP_t1]
  rcases hA with ⟨rfl, rfl⟩ | ⟨hu, tt, rfl, _⟩
  · simp [finish, finish1, hv, settle, ho, kgOf, gr, cellsK]
  · simp [finish, finish1, hv, ho, kgOf, hu, gr]
def TermW (n D : Nat) (bs : List UInt8) (g : Grip) (deep : Int) (rd : RS → T × RS) (lo : Nat) : Prop := ∀ s, InvR bs s → (s.e = 0 → lo ≤ s.i) → evalFn Try.prog cfg5 n D 31 [.ptr (rC bs g s) 0, .tree (.int .i64 deep)] = some (.tree (encT (rd s).1), [rC bs g (rd s).2, []])
theorem some_len (rd : RS → T × RS) : ∀ (n : Nat) (s : RS) (acc : List T), (someR rd n s acc).1.length ≤ acc.length + n
  | 0, s, acc => Nat.le_refl _
  | n + 1, s, acc => by
    simp only [someR]
    split
    · dsimp only; omega
    · have := some_len rd n (rd s).2 (acc ++ [(rd s).1])
      simp only [List.length_append, List.length_cons, List.length_nil] at this
      omega
theorem someR_e {rd : RS → T × RS} (He : ∀ s, (rd s).2.e = 0 → s.e = 0) : ∀ (n : Nat) (s : RS) (acc : List T), (someR rd n s acc).2.e = 0 → s.e = 0
  | 0, _, _, h => h
  | n + 1, s, acc, h => by
    simp only [someR] at h
    split at h
    · rename_i h1; exact absurd h h1
    · rename_i h1; exact He s (by simpa using h1)
theorem takeR_e {bs : List UInt8} {s : RS} {k : Nat} (h : (takeR bs s k).2.e = 0) : s.e = 0 ∧ (takeR bs s k).2.i = s.i + k := by
  unfold takeR at h ⊢
  split at h
  · exact absurd h (fail_e s 3 (by decide))
  · rename_i hc
    rw [if_neg hc]
    exact ⟨h, rfl⟩
theorem manyR_pos {bs : List UInt8} {s : RS} {k : Nat} {a b : Int} (h : (manyR bs s k a b).2.e = 0) : s.e = 0 ∧ (manyR bs s k a b).2.i = s.i + k := by
  obtain ⟨h1, h2, _⟩ := manyR_e h
  rw [h2]
  exact takeR_e h1
theorem termR_e {bs : List UInt8} {f : Nat} {deep : Int} {s : RS} (h : (termR bs f deep s).2.e = 0) : s.e = 0 := by
  cases f with
  | zero => exact h
  | succ f =>
    by_cases h1 : (takeR bs s 1).2.e = 0
    · exact (takeR_e h1).1
    · simp only [termR] at h
      rw [if_pos h1] at h
      exact absurd h h1
set_option maxHeartbeats 2000000 in
theorem some_eq (n D : Nat) (bs : List UInt8) (g : Grip) (deep : Int) (rd : RS → T × RS) (lo : Nat) (H : TermW n D bs g deep rd lo) (Hi : ∀ s, InvR bs s → InvR bs (rd s).2 ∧ s.i ≤ (rd s).2.i) (He : ∀ s, (rd s).2.e = 0 → s.e = 0) (k : Nat) (hk : k ≤ 2001) (hkn : k < n) (s : RS) (hs : InvR bs s) (hlo : s.e = 0 → lo ≤ s.i) :
    evalFn Try.prog cfg5 n (D+1) 57 [.ptr (rC bs g s) 0, .tree (.int .i64 (k : Int)), .tree (.int .i64 deep)] = some (.tree (.sl (cellsK (someR rd k s []).1) (someR rd k s []).1.length (gr (kgOf (someR rd k s []).1))), [rC bs g (someR rd k s []).2, [], []]) := by
  rw [evalFn_go _ Try.func57 (by unfold Try.f57; rfl) (by unfold Try.f57; decide) (Nat.le_of_ble_eq_true (by unfold Try.f57; rfl)) (by kernel_rfl)]
  have e0 : env0 [.ptr (rC bs g s) 0, .tree (.int .i64 (k : Int)), .tree (.int .i64 deep)] 0 = .ptr 0 0 0 := rfl
  have e1 : env0 [.ptr (rC bs g s) 0, .tree (.int .i64 (k : Int)), .tree (.int .i64 deep)] 1 = .int .i64 (k : Int) := rfl
  have e2 : env0 [.ptr (rC bs g s) 0, .tree (.int .i64 (k : Int)), .tree (.int .i64 deep)] 2 = .int .i64 deep := rfl
  have j0 : st0 [.ptr (rC bs g s) 0, .tree (.int .i64 (k : Int)), .tree (.int .i64 deep)] 0 = ⟨0, .buf (rC bs g s)⟩ := rfl
  have ho : ∀ s' ys, s' 0 = ⟨0, .buf ys⟩ → outsA s' 0 [.ptr (rC bs g s) 0, .tree (.int .i64 (k : Int)), .tree (.int .i64 deep)] = some [ys, [], []] := fun s' ys h => outs_ptr s' (rC bs g s) ys h [.int .i64 (k : Int), .int .i64 deep]
  generalize [Arg.ptr (rC bs g s) 0, .tree (.int .i64 (k : Int)), .tree (.int .i64 deep)] = as1 at e0 e1 e2 j0 ho
  generalize env0 as1 = env at e0 e1 e2
  generalize st0 as1 = st at j0
  simp only [simB, keep5, Nat.reduceBEq, own5, String.reduceAppend, String.reduceBEq, Bool.or_false, Bool.or_true, Bool.or_self, ↓reduceIte, Nat.reduceEqDiff, Nat.reduceAdd, simA, simL, simN, Nat.zero_add, e0, e1, den_loop]
  refine loop_ends (X := Nat × RS × List T) (fun q env st => env 0 = .ptr 0 0 0 ∧ env 2 = .int .i64 deep ∧ env 9 = .int .i64 (k : Int) ∧ env 10 = .int .i64 (q.1 : Int) ∧ q.1 ≤ k ∧ st 0 = ⟨0, .buf (rC bs g q.2.1)⟩ ∧ InvR bs q.2.1 ∧ (q.2.1.e = 0 → lo ≤ q.2.1.i) ∧ Ap st 23 (env 7) q.2.2 ∧ q.2.2.length ≤ q.1 ∧ someR rd (k - q.1) q.2.1 q.2.2 = someR rd k s []) (fun q => k - q.1) (fun _ => (.tree (.sl (cellsK (someR rd k s []).1) (someR rd k s []).1.length (gr (kgOf (someR rd k s []).1))), [rC bs g (someR rd k s []).2, [], []])) ?_ n (0, s, []) _ _ (by dsimp only; omega) ⟨(by simp only [zfk, ↓reduceIte, Nat.reduceEqDiff, e0]; try rfl), (by simp only [zfk, ↓reduceIte, Nat.reduceEqDiff, e2]; try rfl), (by simp only [zfk, ↓reduceIte, Nat.reduceEqDiff]; try rfl), (by simp only [zfk, ↓reduceIte, Nat.reduceEqDiff]; try rfl), Nat.zero_le _, (by simp only [zfk, ↓reduceIte, Nat.reduceEqDiff, j0]; try rfl), hs, hlo, .inl ⟨rfl, (by simp only [zfk, ↓reduceIte, Nat.reduceEqDiff]; try rfl)⟩, Nat.le_refl _, rfl⟩
  rintro rd' ⟨i, cur, acc⟩ hrd ih env1 s1 ⟨e0', e2', e9, e10, hi, k0, hcur, hcl, ap, hacc, hfin⟩
  dsimp only at hi k0 hcur hcl ap hacc hfin e10
  by_cases hlt : i < k
  · have q1 : (i : Int) < (k : Int) := by omega
    have c1 := fun D' (st : St) (hp : st 0 = ⟨0, .buf (rC bs g cur)⟩) => callA_ptr (call := evalFn Try.prog cfg5 n D) [.int .i64 deep] rfl (H cur hcur hcl) D' hp
    have hci := Hi cur hcur
    obtain ⟨m, hm⟩ : ∃ m, k - i = m + 1 := ⟨k - i - 1, by omega⟩
    rw [hm] at hfin
    simp only [someR] at hfin
    obtain ⟨w, hw⟩ : ∃ w, rd cur = w := ⟨_, rfl⟩
    rw [hw] at c1 hci hfin
    obtain ⟨u, r⟩ := w
    obtain ⟨ri, rtm, re⟩ := r
    have hce : re = 0 → cur.e = 0 := fun h => He cur (by rw [hw]; exact h)
    dsimp only at c1 hci hfin
    have hnl : (⟨ri, rtm, re⟩ : RS).e = 0 → lo ≤ (⟨ri, rtm, re⟩ : RS).i := fun h => Nat.le_trans (hcl (hce h)) hci.2
    have g8 := i_add Try.prog 3 (i : Int) 1 (by omega) (by omega)
    simp only [encT] at c1
    by_cases hre : re = 0
    · have b1 : (re != 0) = false := by rw [hre]; rfl
      rw [if_neg (fun h => h hre)] at hfin
      have hm2 : k - (i + 1) = m := by omega
      rcases ap with ⟨h1, h2⟩ | ⟨h1, t, h2, h3⟩
      · subst h1
        have a1 := fun S => push_nil 23 S u
        simp only [rC] at k0 c1
        simp only [simB, keep5, Nat.reduceBEq, own5, String.reduceAppend, String.reduceBEq, Bool.or_false, Bool.or_true, Bool.or_self, ↓reduceIte, Nat.reduceEqDiff, Nat.reduceAdd, simA, simL, simN, Nat.zero_add, y_lss, y_neq, e0', e2', e9, e10, h2, q1, k0, c1, zeroT, st_Tt, stT_6, ldT_u, opA_nck, nckA_p, fa59_3, ld59_3, b1, opA_one26Y, one26_T, a1, g8]
        exact ih (i + 1, ⟨ri, rtm, re⟩, [u]) _ _ (by dsimp only; omega) rfl ⟨(by simp only [zfk, ↓reduceIte, Nat.reduceEqDiff, e0']; try rfl), (by simp only [zfk, ↓reduceIte, Nat.reduceEqDiff, e2']; try rfl), (by simp only [zfk, ↓reduceIte, Nat.reduceEqDiff, e9]; try rfl), (by simp only [zfk, ↓reduceIte, Nat.reduceEqDiff]; try rfl), by dsimp only; omega, (by simp only [zfk, ↓reduceIte, Nat.reduceEqDiff]; try rfl), hci.1, hnl, .inr ⟨by simp, _, (by simp only [zfk, ↓reduceIte, Nat.reduceEqDiff]; try rfl), (by simp only [zfk, ↓reduceIte, Nat.reduceEqDiff]; try rfl)⟩, by dsimp only; simp only [List.length_cons, List.length_nil]; omega, by dsimp only; rw [hm2]; exact hfin⟩
      · have a1 := fun S hs => push_tok 23 t acc (by omega) S u hs
        simp only [rC] at k0 c1
        simp only [simB, keep5, Nat.reduceBEq, own5, String.reduceAppend, String.reduceBEq, Bool.or_false, Bool.or_true, Bool.or_self, ↓reduceIte, Nat.reduceEqDiff, Nat.reduceAdd, simA, simL, simN, Nat.zero_add, y_lss, y_neq, e0', e2', e9, e10, h2, h3, q1, k0, c1, zeroT, st_Tt, stT_6, ldT_u, opA_nck, nckA_p, fa59_3, ld59_3, b1, opA_one26Y, one26_T, a1, g8]
        exact ih (i + 1, ⟨ri, rtm, re⟩, acc ++ [u]) _ _ (by dsimp only; omega) rfl ⟨(by simp only [zfk, ↓reduceIte, Nat.reduceEqDiff, e0']; try rfl), (by simp only [zfk, ↓reduceIte, Nat.reduceEqDiff, e2']; try rfl), (by simp only [zfk, ↓reduceIte, Nat.reduceEqDiff, e9]; try rfl), (by simp only [zfk, ↓reduceIte, Nat.reduceEqDiff]; try rfl), by dsimp only; omega, (by simp only [zfk, ↓reduceIte, Nat.reduceEqDiff]; try rfl), hci.1, hnl, .inr ⟨by simp, _, (by simp only [zfk, ↓reduceIte, Nat.reduceEqDiff]; try rfl), (by simp only [zfk, ↓reduceIte, Nat.reduceEqDiff]; try rfl)⟩, by dsimp only; rw [List.length_append]; simp only [List.length_cons, List.length_nil]; omega, by dsimp only; rw [hm2]; exact hfin⟩
    · have b1 : (re != 0) = true := by simpa using hre
      rw [if_pos hre] at hfin
      rw [← hfin]
      simp only [rC] at k0 c1
      simp only [simB, keep5, Nat.reduceBEq, own5, String.reduceAppend, String.reduceBEq, Bool.or_false, Bool.or_true, Bool.or_self, ↓reduceIte, Nat.reduceEqDiff, Nat.reduceAdd, simA, simL, simN, Nat.zero_add, y_lss, y_neq, e0', e2', e9, e10, q1, k0, c1, zeroT, st_Tt, stT_6, ldT_u, opA_nck, nckA_p, fa59_3, ld59_3, b1]
      exact finish_ApY _ rfl _ _ _ 23 (env1 7) acc _ _ (by simp only [zfk, ↓reduceIte, Nat.reduceEqDiff]; try rfl) (ap.at (by simp only [zfk, ↓reduceIte, Nat.reduceEqDiff]; try rfl)) (ho _ _ (by simp only [zfk, ↓reduceIte, Nat.reduceEqDiff]; try rfl))
  · have hie : i = k := by omega
    subst hie
    rw [Nat.sub_self] at hfin
    simp only [someR] at hfin
    rw [← hfin]
    have q1 : ¬ (i : Int) < (i : Int) := by omega
    simp only [simB, keep5, Nat.reduceBEq, own5, String.reduceAppend, String.reduceBEq, Bool.or_false, Bool.or_true, Bool.or_self, ↓reduceIte, Nat.reduceEqDiff, Nat.reduceAdd, simA, simL, simN, Nat.zero_add, y_lss, e9, e10, q1]
    exact finish_ApY _ rfl _ _ _ 23 (env1 7) acc _ _ (by simp only [zfk, ↓reduceIte, Nat.reduceEqDiff]; try rfl) ap (ho _ _ k0)
end Go.Ab

/- A list, read (CFG5). Conditions: places in range. -/
namespace Go.Ab
open Go.Proofs
set_option maxRecDepth 100000
set_option linter.unusedSimpArgs false

def listR (bs : List UInt8) (rd1 rd2 : RS → T × RS) (s : RS) : T × RS :=
  let m := manyR bs s 4 1 (2001 - s.tm)
  let h := someR rd1 m.1.toNat (bumpR m) []
  let t := rd2 h.2
  (listT h.1 t.1, if kindT t.1 = 4 then t.2.fail 4 else t.2)
set_option maxHeartbeats 2000000 in
theorem rlist_eq (n D : Nat) (hn : 2200 ≤ n) (hD : 3 ≤ D) (bs : List UInt8) (g : Grip) (deep : Int) (hdp : -1000 ≤ deep ∧ deep ≤ 1000) (rd1 rd2 : RS → T × RS) (lo : Nat) (H1 : TermW n D bs g (deep + 1) rd1 lo) (H2 : TermW n (D+1) bs g deep rd2 lo) (Hi1 : ∀ s, InvR bs s → InvR bs (rd1 s).2 ∧ s.i ≤ (rd1 s).2.i) (He1 : ∀ s, (rd1 s).2.e = 0 → s.e = 0) (s : RS) (hs : InvR bs s) (h1 : 1 ≤ s.tm) (hlo : lo ≤ s.i + 4) :
    evalFn Try.prog cfg5 n (D+2) 56 [.ptr (rC bs g s) 0, .tree (.int .i64 deep)] = some (.tree (encT (listR bs rd1 rd2 s).1), [rC bs g (listR bs rd1 rd2 s).2, []]) := by
  rw [evalFn_go _ Try.func56 (by unfold Try.f56; rfl) (by unfold Try.f56; decide) (Nat.le_of_ble_eq_true (by unfold Try.f56; rfl)) (by kernel_rfl)]
  have e0 : env0 [.ptr (rC bs g s) 0, .tree (.int .i64 deep)] 0 = .ptr 0 0 0 := rfl
  have e1 : env0 [.ptr (rC bs g s) 0, .tree (.int .i64 deep)] 1 = .int .i64 deep := rfl
  have j0 : st0 [.ptr (rC bs g s) 0, .tree (.int .i64 deep)] 0 = ⟨0, .buf (rC bs g s)⟩ := rfl
  have j4 : (st0 [.ptr (rC bs g s) 0, .tree (.int .i64 deep)] 4).t = 0 := rfl
  have j7 : (st0 [.ptr (rC bs g s) 0, .tree (.int .i64 deep)] 7).t = 0 := rfl
  have ho : ∀ s' ys, s' 0 = ⟨0, .buf ys⟩ → outsA s' 0 [.ptr (rC bs g s) 0, .tree (.int .i64 deep)] = some [ys, []] := fun s' ys h => outs_ptr s' (rC bs g s) ys h [.int .i64 deep]
  generalize [Arg.ptr (rC bs g s) 0, .tree (.int .i64 deep)] = as1 at e0 e1 j0 j4 j7 ho
  generalize env0 as1 = env at e0 e1
  generalize st0 as1 = st at j0 j4 j7
  obtain ⟨dd, rfl⟩ : ∃ dd, D = dd + 3 := ⟨D - 3, by omega⟩
  have hhi := hs.hi
  have hb := bumpR_inv hs h1
  have hmr := manyR_range (bs := bs) (s := s) (k := 4) (a := 1) (b := 2001 - s.tm) (by decide) (by omega)
  have hmt := (manyR_mono (bs := bs) (s := s) (k := 4) (a := 1) (b := 2001 - s.tm)).2
  have cm := fun D' (st : St) (hp : st 0 = ⟨0, .buf (rC bs g s)⟩) => callA_ptr (call := evalFn Try.prog cfg5 n (dd+4)) [.int .i64 4, .int .i64 1, .int .i64 (2001 - s.tm)] rfl (many_eq n (dd+1) (by omega) bs g s 4 1 (2001 - s.tm) hs.okR (by decide)) D' hp
  have hpos : (bumpR (manyR bs s 4 1 (2001 - s.tm))).e = 0 → lo ≤ (bumpR (manyR bs s 4 1 (2001 - s.tm))).i := fun h => by
    have := (manyR_pos (bs := bs) (s := s) (k := 4) (a := 1) (b := 2001 - s.tm) h).2
    show lo ≤ (manyR bs s 4 1 (2001 - s.tm)).2.i
    rw [this]; exact hlo
  have f1 := i_sub Try.prog 3 2001 s.tm (by omega) (by omega)
  unfold listR
  dsimp only
  obtain ⟨m, hm⟩ : ∃ m, manyR bs s 4 1 (2001 - s.tm) = m := ⟨_, rfl⟩
  rw [hm] at cm hb hmr hmt hpos
  rw [hm]
  obtain ⟨v, mi, mtm, me⟩ := m
  dsimp only at cm hmr hmt
  obtain ⟨c, rfl⟩ : ∃ c : Nat, v = c := ⟨v.toNat, by omega⟩
  have f2 := i_sub Try.prog 3 (c : Int) 1 (by omega) (by omega)
  have f3 := i_add Try.prog 3 mtm ((c : Int) - 1) (by omega) (by omega)
  have f4 := i_add Try.prog 3 deep 1 (by omega) (by omega)
  have hbq : bumpR ((c : Int), ⟨mi, mtm, me⟩) = ⟨mi, mtm + ((c : Int) - 1), me⟩ := rfl
  rw [hbq] at hb hpos
  rw [hbq]
  dsimp only at hb
  have hsm := someR_inv Hi1 c _ [] hb.1
  have hse := someR_e He1 c ⟨mi, mtm + ((c : Int) - 1), me⟩ []
  have csq := some_eq n (dd+3) bs g (deep + 1) rd1 lo H1 Hi1 He1 c (by omega) (by omega) _ hb.1 hpos
  have cs := fun D' (st : St) (hp : st 0 = ⟨0, .buf (rC bs g ⟨mi, mtm + ((c : Int) - 1), me⟩)⟩) => callA_ptr (call := evalFn Try.prog cfg5 n (dd+4)) [.int .i64 (c : Int), .int .i64 (deep + 1)] rfl csq D' hp
  dsimp only
  rw [Int.toNat_natCast]
  obtain ⟨w, hw⟩ : ∃ w, someR rd1 c ⟨mi, mtm + ((c : Int) - 1), me⟩ [] = w := ⟨_, rfl⟩
  rw [hw] at cs hsm hse
  rw [hw]
  obtain ⟨us, r⟩ := w
  dsimp only at cs hsm hse hpos ⊢
  have hul : us.length ≤ 9223372036854775807 := by
    have := some_len rd1 c ⟨mi, mtm + ((c : Int) - 1), me⟩ []
    rw [hw] at this
    simp only [List.length_nil] at this
    omega
  have ct := fun D' (st : St) (hp : st 0 = ⟨0, .buf (rC bs g r)⟩) => callA_ptr (call := evalFn Try.prog cfg5 n (dd+4)) [.int .i64 deep] rfl (H2 r hsm.1 (fun h => Nat.le_trans (hpos (hse h)) hsm.2)) D' hp
  obtain ⟨q, hq⟩ : ∃ q, rd2 r = q := ⟨_, rfl⟩
  rw [hq] at ct
  rw [hq]
  obtain ⟨tl, r2⟩ := q
  dsimp only at ct ⊢
  have cf := fun D' (st : St) (hp : st 0 = ⟨0, .buf (rC bs g r2)⟩) => callA_ptr (call := evalFn Try.prog cfg5 n (dd+4)) [.int .i64 4] rfl (efail_eq n (dd+3) bs g r2 4) D' hp
  have hgt : isTree (.sl (cellsK us) us.length (gr (kgOf us))) = true := by
    unfold kgOf; split <;> rfl
  have cl0 : evalFn Try.prog cfg5 n (dd+4) 84 [.tree (.sl (cellsK us) us.length (gr (kgOf us))), .tree (encT tl)] = some (.tree (encT (listT us tl)), [[], []]) := ev5 rfl (tList_eq 9223372036854775808 6189 us _ tl hul)
  have cl := fun D' st => callA_trees (cfg := cfg5) (d := D') (s := st) (f := 84) (vs := [.sl (cellsK us) us.length (gr (kgOf us)), encT tl]) (by simp only [List.all_cons, hgt]; rfl) cl0
  simp only [encT] at ct cl
  obtain ⟨k, b, lg, l, x, mm, kg, ks⟩ := tl
  obtain ⟨w2, hw2⟩ : ∃ w2, listT us (.mk k b lg l x mm kg ks) = w2 := ⟨_, rfl⟩
  rw [hw2] at cl
  rw [hw2]
  have hkd : kindT (.mk k b lg l x mm kg ks) = k := rfl
  rw [hkd]
  simp only [cellsT] at ct cl
  have stt := fun s p k' => st_Tt s p k' (.mk k b lg l x mm kg ks)
  have st6 := fun t k' p st => stT_6 t k' p st (.int .i64 0) (.bool false) (.sl [] 0 .nil) (.str []) (.int .i64 0) (.sl [] 0 .nil) (.mk k b lg l x mm kg ks)
  have stw := fun s p k' => st_Tt s p k' w2
  have st6w := fun t k' p st => stT_6 t k' p st (.int .i64 0) (.bool false) (.sl [] 0 .nil) (.str []) (.int .i64 0) (.sl [] 0 .nil) w2
  simp only [cellsT] at stt st6
  simp only [rC] at j0 cm cs ct cf ⊢
  by_cases hk : k = 4
  · have b1 : (k == 4) = true := by rw [hk]; rfl
    rw [if_pos hk]
    simp only [simB, keep5, Nat.reduceBEq, own5, String.reduceAppend, String.reduceBEq, Bool.or_false, Bool.or_true, Bool.or_self, ↓reduceIte, Nat.reduceEqDiff, Nat.reduceAdd, simA, simL, simN, Nat.zero_add, e0, e1, j0, j4, j7, zeroT, opA_nck, nckA_p, fa59_2, ld59_2, f1, f2, f3, f4, cm, cs, ct, cl, st_iY, stY_2, stt, st6, stw, st6w, faT_0, ldT_0, ldT_a, Nat.reduceAdd, y_eql, b1, cf]
    exact finish_cY _ _ _ 4 4 1 w2 _ _ (by simp only [zfk, ↓reduceIte, Nat.reduceEqDiff]; try rfl) (by simp only [zfk, ↓reduceIte, Nat.reduceEqDiff]; try rfl) (ho _ _ (by simp only [zfk, ↓reduceIte, Nat.reduceEqDiff]; try rfl))
  · have b1 : (k == 4) = false := beq_eq_false_iff_ne.mpr hk
    rw [if_neg hk]
    simp only [simB, keep5, Nat.reduceBEq, own5, String.reduceAppend, String.reduceBEq, Bool.or_false, Bool.or_true, Bool.or_self, ↓reduceIte, Nat.reduceEqDiff, Nat.reduceAdd, simA, simL, simN, Nat.zero_add, e0, e1, j0, j4, j7, zeroT, opA_nck, nckA_p, fa59_2, ld59_2, f1, f2, f3, f4, cm, cs, ct, cl, st_iY, stY_2, stt, st6, stw, st6w, faT_0, ldT_0, ldT_a, Nat.reduceAdd, y_eql, b1]
    exact finish_cY _ _ _ 4 4 1 w2 _ _ (by simp only [zfk, ↓reduceIte, Nat.reduceEqDiff]; try rfl) (by simp only [zfk, ↓reduceIte, Nat.reduceEqDiff]; try rfl) (ho _ _ (by simp only [zfk, ↓reduceIte, Nat.reduceEqDiff]; try rfl))
end Go.Ab

/- A term, read (CFG5). Conditions: places in range; what ext.big answers, where there is a great number. -/
namespace Go.Ab
open Go.Proofs
set_option maxRecDepth 100000
set_option linter.unusedSimpArgs false

theorem bdT_tupY (us : List T) : buildA Try.prog 28 [(0, .int .i64 5), (4, .sl (cellsK us) us.length (gr (kgOf us)))] = some (.agg (cellsT (tupT (kgOf us) us))) := by
  simp only [buildA, zeroT, tkT, plT, Option.bind_some]
  unfold kgOf
  split
  · rename_i h; subst h; rfl
  · rfl
theorem take1 {bs : List UInt8} {i : Nat} (h : i + 1 ≤ bs.length) : ∃ c, (bs.drop i).take 1 = [c] ∧ c ∈ bs := by
  have hd : bs.drop i = bs[i] :: bs.drop (i + 1) := List.drop_eq_getElem_cons (by omega)
  exact ⟨bs[i], by rw [hd]; rfl, List.getElem_mem _⟩
def tagR (bs : List UInt8) (f : Nat) (deep : Int) (s1 : RS) (tag fr : Nat) : T × RS :=
  if s1.tm > 2000 ∨ deep > 60 then (T0, s1.fail 4)
  else if tag = 97 ∨ tag = 98 ∨ tag = 110 ∨ tag = 119 ∨ tag = 109 ∨ tag = 106 then plainR bs s1 tag fr
  else if tag = 108 then listR bs (termR bs f (deep + 1)) (termR bs f deep) s1
  else if tag = 104 then
    let h := someR (termR bs f (deep + 1)) (manyR bs s1 1 0 40).1.toNat (manyR bs s1 1 0 40).2 []
    (tupT (kgOf h.1) h.1, h.2)
  else (T0, s1.fail 4)
theorem termR_step {bs : List UInt8} {s : RS} (hs : InvR bs s) (he : (takeR bs s 1).2.e = 0) (f : Nat) (deep : Int) {c : UInt8} (hc : (bs.drop s.i).take 1 = [c]) : termR bs (f + 1) deep s = tagR bs f deep ⟨s.i + 1, s.tm + 1, 0⟩ c.toNat s.i := by
  obtain ⟨h2, h3, h4, h5⟩ := stepR hs he
  simp only [termR]
  rw [if_neg (fun hh => hh he), h2, h5, hc]
  rfl
set_option maxHeartbeats 4000000 in
theorem term_step (n : Nat) (hn : 2200 ≤ n) (bs : List UInt8) (g : Grip) (f E : Nat) (hE : 6020 ≤ E) (deep : Int) (h0 : 0 ≤ deep) (h1 : deep ≤ 100) (lo : Nat) (s : RS) (hs : InvR bs s)
    (hbig : s.e = 0 → (bs.drop s.i).take 1 = [110] → ∀ D, 6000 ≤ D → BigOk n D) (hl8 : s.e = 0 → (bs.drop s.i).take 1 = [108] → lo ≤ s.i + 5) (hl4 : s.e = 0 → (bs.drop s.i).take 1 = [104] → lo ≤ s.i + 2)
    (IH1 : deep ≤ 60 → TermW n (E+1) bs g (deep+1) (termR bs f (deep+1)) lo) (IH2 : TermW n (E+2) bs g deep (termR bs f deep) lo) (IH3 : deep ≤ 60 → TermW n (E+2) bs g (deep+1) (termR bs f (deep+1)) lo) :
    evalFn Try.prog cfg5 n (E+1+3) 31 [.ptr (rC bs g s) 0, .tree (.int .i64 deep)] = some (.tree (encT (termR bs (f+1) deep s).1), [rC bs g (termR bs (f+1) deep s).2, []]) := by
  rw [evalFn_go _ Try.func31 (by unfold Try.f31; rfl) (by unfold Try.f31; decide) (Nat.le_of_ble_eq_true (by unfold Try.f31; rfl)) (by kernel_rfl)]
  have e0 : env0 [.ptr (rC bs g s) 0, .tree (.int .i64 deep)] 0 = .ptr 0 0 0 := rfl
  have e1 : env0 [.ptr (rC bs g s) 0, .tree (.int .i64 deep)] 1 = .int .i64 deep := rfl
  have j0 : st0 [.ptr (rC bs g s) 0, .tree (.int .i64 deep)] 0 = ⟨0, .buf (rC bs g s)⟩ := rfl
  have j4 : (st0 [.ptr (rC bs g s) 0, .tree (.int .i64 deep)] 4).t = 0 := rfl
  have ho : ∀ s' ys, s' 0 = ⟨0, .buf ys⟩ → outsA s' 0 [.ptr (rC bs g s) 0, .tree (.int .i64 deep)] = some [ys, []] := fun s' ys h => outs_ptr s' (rC bs g s) ys h [.int .i64 deep]
  generalize [Arg.ptr (rC bs g s) 0, .tree (.int .i64 deep)] = as1 at e0 e1 j0 j4 ho
  generalize env0 as1 = env at e0 e1
  generalize st0 as1 = st at j0 j4
  have ct := fun D' (st : St) (hp : st 0 = ⟨0, .buf (rC bs g s)⟩) => callA_ptr (call := evalFn Try.prog cfg5 n (E+1+2)) [.int .i64 1] rfl (take_eq n (E+1) bs g s 1 hs.okR (by decide)) D' hp
  have st0T := fun s p k' => st_Tt s p k' T0
  have s60T := fun t k' p st => stT_6 t k' p st (.int .i64 0) (.bool false) (.sl [] 0 .nil) (.str []) (.int .i64 0) (.sl [] 0 .nil) T0
  by_cases he : (takeR bs s 1).2.e = 0
  · obtain ⟨h2, h3, h4, h5⟩ := stepR hs he
    obtain ⟨c, hc, hcm⟩ := take1 h4
    rw [termR_step hs he f deep hc]
    rw [hc] at h5
    rw [h2, h5] at ct
    simp only [takeV] at ct
    have htm := hs.ok h3
    have hs1 : InvR bs ⟨s.i + 1, s.tm + 1, 0⟩ ∨ s.tm + 1 > 2000 := by
      by_cases hb : s.tm + 1 > 2000
      · exact .inr hb
      · exact .inl ⟨h4, hs.len, by dsimp only; omega, by dsimp only; omega, fun _ => by dsimp only; omega⟩
    have f1 := i_add Try.prog 3 s.tm 1 (by omega) (by omega)
    have ia : ∀ st, indexAddrA Try.prog 22 st (.sl (cellsOfBytes [c]) [c].length .tight) (.int .i64 0) = some (.rptr (cellsOfBytes [c])) := fun st => iaB st [c] .tight 0 (by simp)
    have ld := fun st => ldB st c []
    have cf := fun D' (st : St) (hp : st 0 = ⟨0, .buf (rC bs g ⟨s.i + 1, s.tm + 1, 0⟩)⟩) => callA_ptr (call := evalFn Try.prog cfg5 n (E+1+2)) [.int .i64 4] rfl (efail_eq n (E+2) bs g ⟨s.i + 1, s.tm + 1, 0⟩ 4) D' hp
    have hfl : (RS.fail ⟨s.i + 1, s.tm + 1, 0⟩ 4) = ⟨s.i + 1, s.tm + 1, 4⟩ := rfl
    rw [hfl] at cf
    obtain ⟨i, tm, e⟩ := s
    dsimp only at h3 htm hs1 f1 cf h4 hbig hl8 hl4 hc
    subst h3
    unfold tagR
    dsimp only
    have b0 : ((0 : Int) != 0) = false := rfl
    by_cases hbad : tm + 1 > 2000 ∨ deep > 60
    · rw [if_pos hbad, hfl]
      simp only [rC] at j0 ct cf ⊢
      by_cases hb1 : tm + 1 > 2000
      · simp only [simB, keep5, Nat.reduceBEq, own5, String.reduceAppend, String.reduceBEq, Bool.or_false, Bool.or_true, Bool.or_self, ↓reduceIte, Nat.reduceEqDiff, Nat.reduceAdd, simA, simL, simN, Nat.zero_add, e0, e1, j0, j4, zeroT, opA_nck, nckA_p, fa59_1, fa59_2, fa59_3, ld59_1, ld59_2, ld59_3, y_neq, y_gtr, b0, ct, f1, ia, ld, cf, st_iY, stY_2, hb1, bdY_00, st0T, s60T]
        exact finish_cY _ _ _ 4 4 1 T0 _ _ (by simp only [zfk, ↓reduceIte, Nat.reduceEqDiff]; try rfl) (by simp only [zfk, ↓reduceIte, Nat.reduceEqDiff]; try rfl) (ho _ _ (by simp only [zfk, ↓reduceIte, Nat.reduceEqDiff]; try rfl))
      · have hb2 : deep > 60 := hbad.resolve_left hb1
        simp only [simB, keep5, Nat.reduceBEq, own5, String.reduceAppend, String.reduceBEq, Bool.or_false, Bool.or_true, Bool.or_self, ↓reduceIte, Nat.reduceEqDiff, Nat.reduceAdd, simA, simL, simN, Nat.zero_add, e0, e1, j0, j4, zeroT, opA_nck, nckA_p, fa59_1, fa59_2, fa59_3, ld59_1, ld59_2, ld59_3, y_neq, y_gtr, b0, ct, f1, ia, ld, cf, st_iY, stY_2, hb1, hb2, bdY_00, st0T, s60T]
        exact finish_cY _ _ _ 4 4 1 T0 _ _ (by simp only [zfk, ↓reduceIte, Nat.reduceEqDiff]; try rfl) (by simp only [zfk, ↓reduceIte, Nat.reduceEqDiff]; try rfl) (ho _ _ (by simp only [zfk, ↓reduceIte, Nat.reduceEqDiff]; try rfl))
    · rw [if_neg hbad]
      have hb1 : ¬ tm + 1 > 2000 := fun h => hbad (.inl h)
      have hb2 : ¬ deep > 60 := fun h => hbad (.inr h)
      have hs2 : InvR bs ⟨i + 1, tm + 1, 0⟩ := hs1.resolve_right hb1
      generalize htag : c.toNat = tag at ld ⊢
      by_cases hpl : tag = 97 ∨ tag = 98 ∨ tag = 110 ∨ tag = 119 ∨ tag = 109 ∨ tag = 106
      · rw [if_pos hpl]
        have cp := fun D' (st : St) (hp : st 0 = ⟨0, .buf (rC bs g ⟨i + 1, tm + 1, 0⟩)⟩) => callA_ptr (call := evalFn Try.prog cfg5 n (E+1+2)) [.int .u8 (tag : Int), .int .i64 (i : Int)] rfl (plain_eq n (E+1) hn (by omega) bs g ⟨i + 1, tm + 1, 0⟩ hs2.okR rfl i (Nat.lt_succ_self i) tag hpl (fun h110 => hbig rfl (by
          have : c = 110 := by
            apply UInt8.toNat_inj.1
            rw [htag, h110]; rfl
          rw [hc, this]) _ (by omega))) D' hp
        obtain ⟨w, hw⟩ : ∃ w, plainR bs ⟨i + 1, tm + 1, 0⟩ tag i = w := ⟨_, rfl⟩
        rw [hw] at cp
        rw [hw]
        obtain ⟨u, r⟩ := w
        dsimp only at cp ⊢
        simp only [encT] at cp
        have stu := fun s p k' => st_Tt s p k' u
        have s6u := fun t k' p st => stT_6 t k' p st (.int .i64 0) (.bool false) (.sl [] 0 .nil) (.str []) (.int .i64 0) (.sl [] 0 .nil) u
        simp only [rC] at j0 ct cp ⊢
        have hch : (tag == 97) = true ∨ ((tag == 97) = false ∧ (tag == 98) = true) ∨ ((tag == 97) = false ∧ (tag == 98) = false ∧ (tag == 110) = true) ∨ ((tag == 97) = false ∧ (tag == 98) = false ∧ (tag == 110) = false ∧ (tag == 119) = true) ∨ ((tag == 97) = false ∧ (tag == 98) = false ∧ (tag == 110) = false ∧ (tag == 119) = false ∧ (tag == 109) = true) ∨ ((tag == 97) = false ∧ (tag == 98) = false ∧ (tag == 110) = false ∧ (tag == 119) = false ∧ (tag == 109) = false ∧ (tag == 106) = true) := by
          rcases hpl with rfl | rfl | rfl | rfl | rfl | rfl <;> decide
        have hz : ∀ m : Nat, ((tag : Int) == (m : Int)) = (tag == m) := fun m => by
          rw [Bool.eq_iff_iff, beq_iff_eq, beq_iff_eq]; omega
        have z1 := hz 97; have z2 := hz 98; have z3 := hz 110; have z4 := hz 119; have z5 := hz 109; have z6 := hz 106
        simp only [Int.cast_ofNat_Int] at z1 z2 z3 z4 z5 z6
        rcases hch with q1 | ⟨q1, q2⟩ | ⟨q1, q2, q3⟩ | ⟨q1, q2, q3, q4⟩ | ⟨q1, q2, q3, q4, q5⟩ | ⟨q1, q2, q3, q4, q5, q6⟩
        all_goals
          simp only [simB, keep5, Nat.reduceBEq, own5, String.reduceAppend, String.reduceBEq, Bool.or_false, Bool.or_true, Bool.or_self, ↓reduceIte, Nat.reduceEqDiff, Nat.reduceAdd, simA, simL, simN, Nat.zero_add, e0, e1, j0, j4, zeroT, opA_nck, nckA_p, fa59_1, fa59_2, fa59_3, ld59_1, ld59_2, ld59_3, y_neq, y_gtr, y_eql8, b0, ct, f1, ia, ld, st_iY, stY_2, hb1, hb2, z1, z2, z3, z4, z5, z6, *, cp, stu, s6u]
          exact finish_cY _ _ _ 4 4 1 u _ _ (by simp only [zfk, ↓reduceIte, Nat.reduceEqDiff]; try rfl) (by simp only [zfk, ↓reduceIte, Nat.reduceEqDiff]; try rfl) (ho _ _ (by simp only [zfk, ↓reduceIte, Nat.reduceEqDiff]; try rfl))
      · rw [if_neg hpl]
        have hz : ∀ m : Nat, ((tag : Int) == (m : Int)) = (tag == m) := fun m => by
          rw [Bool.eq_iff_iff, beq_iff_eq, beq_iff_eq]; omega
        have z1 := hz 97; have z2 := hz 98; have z3 := hz 110; have z4 := hz 119; have z5 := hz 109; have z6 := hz 106
        have z7 := hz 108; have z8 := hz 104
        simp only [Int.cast_ofNat_Int] at z1 z2 z3 z4 z5 z6 z7 z8
        have q1 : (tag == 97) = false := beq_eq_false_iff_ne.mpr (fun h => hpl (.inl h))
        have q2 : (tag == 98) = false := beq_eq_false_iff_ne.mpr (fun h => hpl (.inr (.inl h)))
        have q3 : (tag == 110) = false := beq_eq_false_iff_ne.mpr (fun h => hpl (.inr (.inr (.inl h))))
        have q4 : (tag == 119) = false := beq_eq_false_iff_ne.mpr (fun h => hpl (.inr (.inr (.inr (.inl h)))))
        have q5 : (tag == 109) = false := beq_eq_false_iff_ne.mpr (fun h => hpl (.inr (.inr (.inr (.inr (.inl h))))))
        have q6 : (tag == 106) = false := beq_eq_false_iff_ne.mpr (fun h => hpl (.inr (.inr (.inr (.inr (.inr h))))))
        clear hz hpl hcm hbig
        by_cases h108 : tag = 108
        · rw [if_pos h108]
          have q7 : (tag == 108) = true := by rw [h108]; rfl
          have cl := fun D' (st : St) (hp : st 0 = ⟨0, .buf (rC bs g ⟨i + 1, tm + 1, 0⟩)⟩) => callA_ptr (call := evalFn Try.prog cfg5 n (E+1+2)) [.int .i64 deep] rfl (rlist_eq n (E+1) hn (by omega) bs g deep ⟨by omega, by omega⟩ (termR bs f (deep + 1)) (termR bs f deep) lo (IH1 (by omega)) IH2 (fun s hs => termR_inv bs f (deep + 1) s hs) (fun s h => termR_e h) ⟨i + 1, tm + 1, 0⟩ hs2 (by dsimp only; omega) (by have := hl8 rfl (by rw [hc]; congr 1; apply UInt8.toNat_inj.1; rw [htag, h108]; rfl); dsimp only at this ⊢; omega)) D' hp
          obtain ⟨w, hw⟩ : ∃ w, listR bs (termR bs f (deep + 1)) (termR bs f deep) ⟨i + 1, tm + 1, 0⟩ = w := ⟨_, rfl⟩
          rw [hw] at cl
          rw [hw]
          obtain ⟨u, r⟩ := w
          dsimp only at cl ⊢
          simp only [encT] at cl
          have stu := fun s p k' => st_Tt s p k' u
          have s6u := fun t k' p st => stT_6 t k' p st (.int .i64 0) (.bool false) (.sl [] 0 .nil) (.str []) (.int .i64 0) (.sl [] 0 .nil) u
          simp only [rC] at j0 ct cl ⊢
          simp only [simB, keep5, Nat.reduceBEq, own5, String.reduceAppend, String.reduceBEq, Bool.or_false, Bool.or_true, Bool.or_self, ↓reduceIte, Nat.reduceEqDiff, Nat.reduceAdd, simA, simL, simN, Nat.zero_add, e0, e1, j0, j4, zeroT, opA_nck, nckA_p, fa59_1, fa59_2, fa59_3, ld59_1, ld59_2, ld59_3, y_neq, y_gtr, y_eql8, b0, ct, f1, ia, ld, st_iY, stY_2, hb1, hb2, z1, z2, z3, z4, z5, z6, z7, z8, q1, q2, q3, q4, q5, q6, q7, cl, stu, s6u]
          exact finish_cY _ _ _ 4 4 1 u _ _ (by simp only [zfk, ↓reduceIte, Nat.reduceEqDiff]; try rfl) (by simp only [zfk, ↓reduceIte, Nat.reduceEqDiff]; try rfl) (ho _ _ (by simp only [zfk, ↓reduceIte, Nat.reduceEqDiff]; try rfl))
        · rw [if_neg h108]
          have q7 : (tag == 108) = false := beq_eq_false_iff_ne.mpr h108
          by_cases h104 : tag = 104
          · rw [if_pos h104]
            have q8 : (tag == 104) = true := by rw [h104]; rfl
            have hmr := manyR_range (bs := bs) (s := ⟨i + 1, tm + 1, 0⟩) (k := 1) (a := 0) (b := 40) (by decide) (by decide)
            have hpo := fun h => manyR_pos (bs := bs) (s := ⟨i + 1, tm + 1, 0⟩) (k := 1) (a := 0) (b := 40) h
            have hmi := hs2.many (k := 1) (a := 0) (b := 40)
            have cm := fun D' (st : St) (hp : st 0 = ⟨0, .buf (rC bs g ⟨i + 1, tm + 1, 0⟩)⟩) => callA_ptr (call := evalFn Try.prog cfg5 n (E+1+2)) [.int .i64 1, .int .i64 0, .int .i64 40] rfl (many_eq n E (by omega) bs g ⟨i + 1, tm + 1, 0⟩ 1 0 40 hs2.okR (by decide)) D' hp
            obtain ⟨m, hm⟩ : ∃ m, manyR bs ⟨i + 1, tm + 1, 0⟩ 1 0 40 = m := ⟨_, rfl⟩
            rw [hm] at cm hmr hmi hpo
            rw [hm]
            obtain ⟨v, mr⟩ := m
            dsimp only at cm hmr hmi hpo ⊢
            obtain ⟨k, rfl⟩ : ∃ k : Nat, v = k := ⟨v.toNat, by omega⟩
            rw [Int.toNat_natCast]
            have csq := some_eq n (E+2) bs g (deep + 1) (termR bs f (deep + 1)) lo (IH3 (by omega)) (fun s hs => termR_inv bs f (deep + 1) s hs) (fun s h => termR_e h) k (by omega) (by omega) mr hmi (fun h => by have := hl4 rfl (by rw [hc]; congr 1; apply UInt8.toNat_inj.1; rw [htag, h104]; rfl); have h2 := (hpo h).2; (try dsimp only at this h2 ⊢); omega)
            have cs := fun D' (st : St) (hp : st 0 = ⟨0, .buf (rC bs g mr)⟩) => callA_ptr (call := evalFn Try.prog cfg5 n (E+1+2)) [.int .i64 (k : Int), .int .i64 (deep + 1)] rfl csq D' hp
            obtain ⟨w, hw⟩ : ∃ w, someR (termR bs f (deep + 1)) k mr [] = w := ⟨_, rfl⟩
            rw [hw] at cs
            rw [hw]
            obtain ⟨us, r⟩ := w
            dsimp only at cs ⊢
            have f4 := i_add Try.prog 3 deep 1 (by omega) (by omega)
            have bu := bdT_tupY us
            have stu := fun s p k' => st_Tt s p k' (tupT (kgOf us) us)
            have s6u := fun t k' p st => stT_6 t k' p st (.int .i64 0) (.bool false) (.sl [] 0 .nil) (.str []) (.int .i64 0) (.sl [] 0 .nil) (tupT (kgOf us) us)
            simp only [rC] at j0 ct cm cs ⊢
            simp only [simB, keep5, Nat.reduceBEq, own5, String.reduceAppend, String.reduceBEq, Bool.or_false, Bool.or_true, Bool.or_self, ↓reduceIte, Nat.reduceEqDiff, Nat.reduceAdd, simA, simL, simN, Nat.zero_add, e0, e1, j0, j4, zeroT, opA_nck, nckA_p, fa59_1, fa59_2, fa59_3, ld59_1, ld59_2, ld59_3, y_neq, y_gtr, y_eql8, b0, ct, cm, cs, f1, f4, ia, ld, st_iY, stY_2, hb1, hb2, z1, z2, z3, z4, z5, z6, z7, z8, q1, q2, q3, q4, q5, q6, q7, q8, stu, s6u, bu]
            exact finish_cY _ _ _ 4 4 1 (tupT (kgOf us) us) _ _ (by simp only [zfk, ↓reduceIte, Nat.reduceEqDiff]; try rfl) (by simp only [zfk, ↓reduceIte, Nat.reduceEqDiff]; try rfl) (ho _ _ (by simp only [zfk, ↓reduceIte, Nat.reduceEqDiff]; try rfl))
          · rw [if_neg h104]
            have q8 : (tag == 104) = false := beq_eq_false_iff_ne.mpr h104
            rw [hfl]
            simp only [rC] at j0 ct cf ⊢
            simp only [simB, keep5, Nat.reduceBEq, own5, String.reduceAppend, String.reduceBEq, Bool.or_false, Bool.or_true, Bool.or_self, ↓reduceIte, Nat.reduceEqDiff, Nat.reduceAdd, simA, simL, simN, Nat.zero_add, e0, e1, j0, j4, zeroT, opA_nck, nckA_p, fa59_1, fa59_2, fa59_3, ld59_1, ld59_2, ld59_3, y_neq, y_gtr, y_eql8, b0, ct, cf, f1, ia, ld, st_iY, stY_2, hb1, hb2, z1, z2, z3, z4, z5, z6, z7, z8, q1, q2, q3, q4, q5, q6, q7, q8, st0T, s60T, bdY_00]
            exact finish_cY _ _ _ 4 4 1 T0 _ _ (by simp only [zfk, ↓reduceIte, Nat.reduceEqDiff]; try rfl) (by simp only [zfk, ↓reduceIte, Nat.reduceEqDiff]; try rfl) (ho _ _ (by simp only [zfk, ↓reduceIte, Nat.reduceEqDiff]; try rfl))
  · simp only [termR]
    rw [if_pos he]
    obtain ⟨w, hw⟩ : ∃ w, takeR bs s 1 = w := ⟨_, rfl⟩
    rw [hw] at ct he
    rw [hw]
    obtain ⟨o, r⟩ := w
    obtain ⟨ri, rtm, re⟩ := r
    dsimp only at ct he ⊢
    have b0 : (re != 0) = true := by simpa using he
    simp only [rC] at j0 ct ⊢
    simp only [simB, keep5, Nat.reduceBEq, own5, String.reduceAppend, String.reduceBEq, Bool.or_false, Bool.or_true, Bool.or_self, ↓reduceIte, Nat.reduceEqDiff, Nat.reduceAdd, simA, simL, simN, Nat.zero_add, e0, e1, j0, j4, zeroT, opA_nck, nckA_p, fa59_1, fa59_2, fa59_3, ld59_1, ld59_2, ld59_3, y_neq, b0, ct, st_iY, stY_2, bdY_00, st0T, s60T]
    exact finish_cY _ _ _ 4 4 1 T0 _ _ (by simp only [zfk, ↓reduceIte, Nat.reduceEqDiff]; try rfl) (by simp only [zfk, ↓reduceIte, Nat.reduceEqDiff]; try rfl) (ho _ _ (by simp only [zfk, ↓reduceIte, Nat.reduceEqDiff]; try rfl))
theorem termR_0 {bs : List UInt8} {s : RS} (hs : s.e ≠ 0) (deep : Int) : termR bs 1 deep s = termR bs 0 deep s := by
  have h1 : takeR bs s 1 = (none, s) := by
    unfold takeR
    rw [if_pos (.inl hs)]
    unfold RS.fail
    rw [if_neg hs]
  simp only [termR]
  rw [h1]
  dsimp only
  rw [if_pos hs]
set_option maxHeartbeats 4000000 in
theorem term_no (n E : Nat) (bs : List UInt8) (g : Grip) (f : Nat) (deep : Int) (s : RS) (hs : InvR bs s) (he : (takeR bs s 1).2.e ≠ 0) :
    evalFn Try.prog cfg5 n (E+1+3) 31 [.ptr (rC bs g s) 0, .tree (.int .i64 deep)] = some (.tree (encT (termR bs (f+1) deep s).1), [rC bs g (termR bs (f+1) deep s).2, []]) := by
  rw [evalFn_go _ Try.func31 (by unfold Try.f31; rfl) (by unfold Try.f31; decide) (Nat.le_of_ble_eq_true (by unfold Try.f31; rfl)) (by kernel_rfl)]
  have e0 : env0 [.ptr (rC bs g s) 0, .tree (.int .i64 deep)] 0 = .ptr 0 0 0 := rfl
  have e1 : env0 [.ptr (rC bs g s) 0, .tree (.int .i64 deep)] 1 = .int .i64 deep := rfl
  have j0 : st0 [.ptr (rC bs g s) 0, .tree (.int .i64 deep)] 0 = ⟨0, .buf (rC bs g s)⟩ := rfl
  have j4 : (st0 [.ptr (rC bs g s) 0, .tree (.int .i64 deep)] 4).t = 0 := rfl
  have ho : ∀ s' ys, s' 0 = ⟨0, .buf ys⟩ → outsA s' 0 [.ptr (rC bs g s) 0, .tree (.int .i64 deep)] = some [ys, []] := fun s' ys h => outs_ptr s' (rC bs g s) ys h [.int .i64 deep]
  generalize [Arg.ptr (rC bs g s) 0, .tree (.int .i64 deep)] = as1 at e0 e1 j0 j4 ho
  generalize env0 as1 = env at e0 e1
  generalize st0 as1 = st at j0 j4
  have ct := fun D' (st : St) (hp : st 0 = ⟨0, .buf (rC bs g s)⟩) => callA_ptr (call := evalFn Try.prog cfg5 n (E+1+2)) [.int .i64 1] rfl (take_eq n (E+1) bs g s 1 hs.okR (by decide)) D' hp
  have st0T := fun s p k' => st_Tt s p k' T0
  have s60T := fun t k' p st => stT_6 t k' p st (.int .i64 0) (.bool false) (.sl [] 0 .nil) (.str []) (.int .i64 0) (.sl [] 0 .nil) T0
  simp only [termR]
  rw [if_pos he]
  obtain ⟨w, hw⟩ : ∃ w, takeR bs s 1 = w := ⟨_, rfl⟩
  rw [hw] at ct he
  rw [hw]
  obtain ⟨o, r⟩ := w
  obtain ⟨ri, rtm, re⟩ := r
  dsimp only at ct he ⊢
  have b0 : (re != 0) = true := by simpa using he
  simp only [rC] at j0 ct ⊢
  simp only [simB, keep5, Nat.reduceBEq, own5, String.reduceAppend, String.reduceBEq, Bool.or_false, Bool.or_true, Bool.or_self, ↓reduceIte, Nat.reduceEqDiff, Nat.reduceAdd, simA, simL, simN, Nat.zero_add, e0, e1, j0, j4, zeroT, opA_nck, nckA_p, fa59_1, fa59_2, fa59_3, ld59_1, ld59_2, ld59_3, y_neq, b0, ct, st_iY, stY_2, bdY_00, st0T, s60T]
  exact finish_cY _ _ _ 4 4 1 T0 _ _ (by simp only [zfk, ↓reduceIte, Nat.reduceEqDiff]; try rfl) (by simp only [zfk, ↓reduceIte, Nat.reduceEqDiff]; try rfl) (ho _ _ (by simp only [zfk, ↓reduceIte, Nat.reduceEqDiff]; try rfl))
theorem term_eq (n : Nat) (hn : 2200 ≤ n) (bs : List UInt8) (g : Grip) : ∀ (f D : Nat) (deep : Int) (lo : Nat), bs.length < lo + f → 3 * f + 6030 ≤ D → 0 ≤ deep → deep ≤ 100 → (∀ i, lo ≤ i → (bs.drop i).take 1 = [110] → ∀ D, 6000 ≤ D → BigOk n D) → TermW n D bs g deep (termR bs f deep) lo
  | 0, D, deep, lo, hf, hD, h0, h1, hbig => fun s hs hlo => by
    have he : s.e ≠ 0 := fun h => by have := hlo h; have := hs.i; omega
    obtain ⟨E, rfl⟩ : ∃ E, D = E + 1 + 3 := ⟨D - 4, by omega⟩
    rw [← termR_0 he]
    exact term_no n E bs g 0 deep s hs (fun h => he (takeR_e h).1)
  | f + 1, D, deep, lo, hf, hD, h0, h1, hbig => fun s hs hlo => by
    obtain ⟨E, rfl⟩ : ∃ E, D = E + 1 + 3 := ⟨D - 4, by omega⟩
    have IH := fun D' (deep' : Int) (hD' : 3 * f + 6030 ≤ D') (h0' : 0 ≤ deep') (h1' : deep' ≤ 100) => term_eq n hn bs g f D' deep' (lo + 1) (by omega) hD' h0' h1' (fun i hi => hbig i (by omega))
    exact term_step n hn bs g f E (by omega) deep h0 h1 (lo + 1) s hs (fun h => hbig s.i (hlo h)) (fun h _ => by have := hlo h; omega) (fun h _ => by have := hlo h; omega) (fun h => IH (E+1) (deep+1) (by omega) (by omega) (by omega)) (IH (E+2) deep (by omega) h0 h1) (fun h => IH (E+2) (deep+1) (by omega) (by omega) (by omega))
end Go.Ab

/- ext.Get (CFG5). Conditions: places in range; what ext.big answers, where there is a great number. -/
namespace Go.Ab
open Go.Proofs
set_option maxRecDepth 100000
set_option linter.unusedSimpArgs false

def gotoG (t : Nat) (env : Env) (x : Option Out) : Option Out := if gotoOk env t = true then x else none
theorem den_gotoG {P : Program} {cfg : Cfg} {call : FuncId → List Arg → Option Out} {n : Nat} (t : Nat) (K : Kont) (env : Env) (s : St) : den P cfg call n (.goto t) K env s = gotoG t env (K .normal env s) := by
  simp only [den, gotoG]
theorem gotoG_r (a b t : Nat) (ht : t = (a + 1) * 1048576 + b) (ha : a < 1048575) (hb : b < 1048576) (env : Env) (x : Option Out) {p k o q k' o' : Nat} (h1 : env a = .ptr p k o) (h2 : env b = .ptr q k' o') (h : p ≠ q) : gotoG t env x = x := by
  have e1 : ¬ t < 1048576 := by omega
  have e2 : t < 1099511627776 := by omega
  have e3 : t / 1048576 - 1 = a := by omega
  have e4 : t % 1048576 = b := by omega
  simp only [gotoG, gotoOk, if_neg e1, if_pos e2, e3, e4, h1, h2]
  rw [beq_eq_false_iff_ne.mpr h]
  rfl
theorem gotoG_v (t v : Nat) (ht : t = v + 1099511627776) (env : Env) (x : Option Out) (xs : List AV) (h : env v = .agg xs) (hv : v < 1048576 := by decide) : gotoG t env x = x := by
  have e1 : ¬ t < 1048576 := by omega
  have e2 : ¬ t < 1099511627776 := by omega
  have e4 : t < 1152921504606846976 := by omega
  have e3 : t - 1099511627776 = v := by omega
  simp only [gotoG, gotoOk, if_neg e1, if_neg e2, if_pos e4, e3, h]
  rfl
theorem z59 : zeroOf Try.prog 59 = some [.sl [] 0 .nil, .int .i64 0, .int .i64 0, .int .i64 0] := by kernel_rfl
theorem tk59 : tkOf Try.prog 59 = .st := by kernel_rfl
theorem pl59 : placesA Try.prog 59 = some [(0, 1), (1, 1), (2, 1), (3, 1)] := by kernel_rfl
theorem bd59 (bs : List UInt8) (g : Grip) (hg : g = .tight ∨ g = .loose ∨ g = .nil) (a : Int) : buildA Try.prog 59 [(0, .sl (cellsOfBytes bs) bs.length g), (1, .int .i64 a)] = some (.agg [.sl (cellsOfBytes bs) bs.length g, .int .i64 a, .int .i64 0, .int .i64 0]) := by
  rcases hg with rfl | rfl | rfl <;> (simp only [buildA, z59, tk59, pl59, Option.bind_some]; rfl)
theorem boxA_agg (d : Nat) (s : St) (xs : List AV) : boxA d s (.agg xs) = some (.ptr d ((s d).t + 1) 0, upd s d ⟨(s d).t + 1, .buf xs⟩) := by
  simp only [boxA, settle, cellsOf, Option.bind_some, Option.map_some]
def outG (r : T × Int × Int) : AV := .tup [encT r.1, .int .i64 r.2.1, .int .i64 r.2.2]
theorem finish_G (k : Bool) (xs : List Arg) (p e : Nat) (u : T) (a b : Int) (env : Env) (s : St) (os : List (List AV)) (ha : env 4 = .ptr p e 0) (hs : s p = ⟨e, .buf (cellsT u)⟩) (hb : env 5 = .int .i64 a) (hc : env 6 = .int .i64 b) (ho : outsA s 0 xs = some os) :
    finishP Try.prog k xs #[.cell 4 28, .tmp 5, .tmp 6] env s = some (.tree (outG (u, a, b)), os) := by
  have hl : loadA Try.prog 28 s (env 4) = some (.agg (cellsT u)) := by rw [ha, zeo, hs, ldT_u, if_pos rfl]
  simp [finishP, isTmpR, rvA, hl, hb, hc, settleL, settle, ho, encT, outG]
set_option maxHeartbeats 4000000 in
theorem get_of (n D : Nat) (bs : List UInt8) (g : Grip) (hg : g = .tight ∨ g = .loose ∨ g = .nil) (at_ : Int) (H : ∀ a : Nat, at_ = a → a ≤ bs.length → evalFn Try.prog cfg5 n D 31 [.ptr (rC bs g ⟨a, 0, 0⟩) 0, .tree (.int .i64 1)] = some (.tree (encT (termR bs (bs.length + 2) 1 ⟨a, 0, 0⟩).1), [rC bs g (termR bs (bs.length + 2) 1 ⟨a, 0, 0⟩).2, []])) :
    evalFn Try.prog cfg5 n (D+1) 13 [.tree (.sl (cellsOfBytes bs) bs.length g), .tree (.int .i64 at_)] = some (.tree (outG (getR bs at_)), [[], []]) := by
  rw [evalFn_goP _ Try.func13 (by unfold Try.f13; rfl) (by unfold Try.f13; decide) (Nat.le_of_ble_eq_true (by unfold Try.f13; rfl)) (by kernel_rfl)]
  simp only [simP]
  rw [prune_S (i := 6) (c := .seq (.goto (31 * 1048576 + 4)) (.seq (.goto (32 * 1048576 + 4)) (.seq (.goto (33 * 1048576 + 4)) (.seq (.goto (29 + 1099511627776)) .skip)))) (by kernel_rfl) (by kernel_rfl)]
  rw [prune_S (i := 7) (c := .seq (.goto (9 * 1048576 + 4)) (.seq (.goto (36 * 1048576 + 4)) (.seq (.goto (37 * 1048576 + 4)) (.seq (.goto (38 * 1048576 + 4)) (.seq (.goto (34 + 1099511627776)) .skip))))) (by kernel_rfl) (by kernel_rfl)]
  have e0 : env0 [.tree (.sl (cellsOfBytes bs) bs.length g), .tree (.int .i64 at_)] 0 = .sl (cellsOfBytes bs) bs.length g := rfl
  have e1 : env0 [.tree (.sl (cellsOfBytes bs) bs.length g), .tree (.int .i64 at_)] 1 = .int .i64 at_ := rfl
  have j4 : (st0 [.tree (.sl (cellsOfBytes bs) bs.length g), .tree (.int .i64 at_)] 4).t = 0 := rfl
  have j8 : (st0 [.tree (.sl (cellsOfBytes bs) bs.length g), .tree (.int .i64 at_)] 8).t = 0 := rfl
  have j21 : (st0 [.tree (.sl (cellsOfBytes bs) bs.length g), .tree (.int .i64 at_)] 21).t = 0 := rfl
  have ho : ∀ s, outsA s 0 [.tree (.sl (cellsOfBytes bs) bs.length g), .tree (.int .i64 at_)] = some [[], []] := fun s => rfl
  generalize [Arg.tree (.sl (cellsOfBytes bs) bs.length g), .tree (.int .i64 at_)] = as1 at e0 e1 j4 j8 j21 ho
  generalize env0 as1 = env at e0 e1
  generalize st0 as1 = st at j4 j8 j21
  have st0T := fun s p k' => st_Tt s p k' T0
  have s60T := fun t k' p st => stT_6 t k' p st (.int .i64 0) (.bool false) (.sl [] 0 .nil) (.str []) (.int .i64 0) (.sl [] 0 .nil) T0
  unfold getR
  by_cases hr : at_ < 0 ∨ at_ > bs.length
  · rw [if_pos hr]
    by_cases h1 : at_ < 0
    · simp only [simB, keep5, Nat.reduceBEq, own5, String.reduceAppend, String.reduceBEq, Bool.or_false, Bool.or_true, Bool.or_self, ↓reduceIte, Nat.reduceEqDiff, Nat.reduceAdd, simA, simL, simN, Nat.zero_add, e0, e1, j4, zeroT, y_lss, h1, bdY_00, st0T, s60T]
      exact finish_G _ _ 4 1 T0 _ _ _ _ _ (by simp only [zfk, ↓reduceIte, Nat.reduceEqDiff]; try rfl) (by simp only [zfk, ↓reduceIte, Nat.reduceEqDiff]; try rfl) (by simp only [zfk, ↓reduceIte, Nat.reduceEqDiff]; try rfl) (by simp only [zfk, ↓reduceIte, Nat.reduceEqDiff]; try rfl) (ho _)
    · have h2 := hr.resolve_left h1
      simp only [simB, keep5, Nat.reduceBEq, own5, String.reduceAppend, String.reduceBEq, Bool.or_false, Bool.or_true, Bool.or_self, ↓reduceIte, Nat.reduceEqDiff, Nat.reduceAdd, simA, simL, simN, Nat.zero_add, e0, e1, j4, zeroT, y_lss, y_gtr, h1, h2, lenB, bdY_00, st0T, s60T]
      exact finish_G _ _ 4 1 T0 _ _ _ _ _ (by simp only [zfk, ↓reduceIte, Nat.reduceEqDiff]; try rfl) (by simp only [zfk, ↓reduceIte, Nat.reduceEqDiff]; try rfl) (by simp only [zfk, ↓reduceIte, Nat.reduceEqDiff]; try rfl) (by simp only [zfk, ↓reduceIte, Nat.reduceEqDiff]; try rfl) (ho _)
  · rw [if_neg hr]
    have h1 : ¬ at_ < 0 := fun h => hr (.inl h)
    have h2 : ¬ at_ > bs.length := fun h => hr (.inr h)
    obtain ⟨a, rfl⟩ : ∃ a : Nat, at_ = a := ⟨at_.toNat, by omega⟩
    rw [Int.toNat_natCast]
    have ct := fun D' (st : St) (hp : st 21 = ⟨1, .buf (rC bs g ⟨a, 0, 0⟩)⟩) => callA_ptr (call := evalFn Try.prog cfg5 n D) [.int .i64 1] rfl (H a rfl (by omega)) D' hp
    obtain ⟨w, hw⟩ : ∃ w, termR bs (bs.length + 2) 1 ⟨a, 0, 0⟩ = w := ⟨_, rfl⟩
    rw [hw] at ct
    rw [hw]
    obtain ⟨u, i, tm, e⟩ := w
    have bd := bd59 bs g hg (a : Int)
    have stu := fun s p k' => st_Tt s p k' u
    have s6u := fun t k' p st => stT_6 t k' p st (.int .i64 0) (.bool false) (.sl [] 0 .nil) (.str []) (.int .i64 0) (.sl [] 0 .nil) u
    dsimp only at ct ⊢
    simp only [encT] at ct
    have z0 : ((0 : Nat) : Int) = 0 := rfl
    simp only [rC] at ct
    by_cases he : e = 0
    · have b1 : (e != 0) = false := by rw [he]; rfl
      rw [if_neg (fun h => h he)]
      simp only [simB, keep5, Nat.reduceBEq, own5, String.reduceAppend, String.reduceBEq, Bool.or_false, Bool.or_true, Bool.or_self, ↓reduceIte, Nat.reduceEqDiff, Nat.reduceAdd, simA, simL, simN, Nat.zero_add, e0, e1, j4, j8, j21, zeroT, y_lss, y_gtr, y_neq, h1, h2, lenB, bd, boxA_agg, ct, opA_nck, nckA_p, fa59_1, fa59_3, ld59_1, ld59_3, b1, ldT_u, stu, s6u, den_gotoG]
      refine Eq.trans (gotoG_r 8 4 _ rfl (by decide) (by decide) _ _ (p := 8) (k := 1) (o := 0) (q := 4) (k' := 1) (o' := 0) (by simp only [zfk, ↓reduceIte, Nat.reduceEqDiff]; try rfl) (by simp only [zfk, ↓reduceIte, Nat.reduceEqDiff]; try rfl) (by decide)) ?_
      refine Eq.trans (gotoG_r 35 4 _ rfl (by decide) (by decide) _ _ (p := 21) (k := 1) (o := 0) (q := 4) (k' := 1) (o' := 0) (by simp only [zfk, ↓reduceIte, Nat.reduceEqDiff]; try rfl) (by simp only [zfk, ↓reduceIte, Nat.reduceEqDiff]; try rfl) (by decide)) ?_
      refine Eq.trans (gotoG_r 36 4 _ rfl (by decide) (by decide) _ _ (p := 21) (k := 1) (o := 0) (q := 4) (k' := 1) (o' := 0) (by simp only [zfk, ↓reduceIte, Nat.reduceEqDiff]; try rfl) (by simp only [zfk, ↓reduceIte, Nat.reduceEqDiff]; try rfl) (by decide)) ?_
      refine Eq.trans (gotoG_r 37 4 _ rfl (by decide) (by decide) _ _ (p := 21) (k := 1) (o := 1) (q := 4) (k' := 1) (o' := 0) (by simp only [zfk, ↓reduceIte, Nat.reduceEqDiff]; try rfl) (by simp only [zfk, ↓reduceIte, Nat.reduceEqDiff]; try rfl) (by decide)) ?_
      refine Eq.trans (gotoG_v _ 34 rfl _ _ (cellsT u) (by simp only [zfk, ↓reduceIte, Nat.reduceEqDiff]; try rfl)) ?_
      exact finish_G _ _ 4 1 u _ _ _ _ _ (by simp only [zfk, ↓reduceIte, Nat.reduceEqDiff]; try rfl) (by simp only [zfk, ↓reduceIte, Nat.reduceEqDiff]; try rfl) (by simp only [zfk, ↓reduceIte, Nat.reduceEqDiff]; try rfl) (by simp only [zfk, ↓reduceIte, Nat.reduceEqDiff]; try rfl) (ho _)
    · have b1 : (e != 0) = true := by simpa using he
      rw [if_pos he]
      simp only [simB, keep5, Nat.reduceBEq, own5, String.reduceAppend, String.reduceBEq, Bool.or_false, Bool.or_true, Bool.or_self, ↓reduceIte, Nat.reduceEqDiff, Nat.reduceAdd, simA, simL, simN, Nat.zero_add, e0, e1, j4, j8, j21, zeroT, y_lss, y_gtr, y_neq, h1, h2, lenB, bd, boxA_agg, ct, opA_nck, nckA_p, fa59_1, fa59_3, ld59_1, ld59_3, b1, ldT_u, stu, s6u, bdY_00, st0T, s60T, den_gotoG]
      refine Eq.trans (gotoG_r 30 4 _ rfl (by decide) (by decide) _ _ (p := 21) (k := 1) (o := 0) (q := 4) (k' := 1) (o' := 0) (by simp only [zfk, ↓reduceIte, Nat.reduceEqDiff]; try rfl) (by simp only [zfk, ↓reduceIte, Nat.reduceEqDiff]; try rfl) (by decide)) ?_
      refine Eq.trans (gotoG_r 31 4 _ rfl (by decide) (by decide) _ _ (p := 21) (k := 1) (o := 0) (q := 4) (k' := 1) (o' := 0) (by simp only [zfk, ↓reduceIte, Nat.reduceEqDiff]; try rfl) (by simp only [zfk, ↓reduceIte, Nat.reduceEqDiff]; try rfl) (by decide)) ?_
      refine Eq.trans (gotoG_r 32 4 _ rfl (by decide) (by decide) _ _ (p := 21) (k := 1) (o := 3) (q := 4) (k' := 1) (o' := 0) (by simp only [zfk, ↓reduceIte, Nat.reduceEqDiff]; try rfl) (by simp only [zfk, ↓reduceIte, Nat.reduceEqDiff]; try rfl) (by decide)) ?_
      refine Eq.trans (gotoG_v _ 29 rfl _ _ (cellsT T0) (by simp only [zfk, ↓reduceIte, Nat.reduceEqDiff]; try rfl)) ?_
      exact finish_G _ _ 4 1 T0 _ _ _ _ _ (by simp only [zfk, ↓reduceIte, Nat.reduceEqDiff]; try rfl) (by simp only [zfk, ↓reduceIte, Nat.reduceEqDiff]; try rfl) (by simp only [zfk, ↓reduceIte, Nat.reduceEqDiff]; try rfl) (by simp only [zfk, ↓reduceIte, Nat.reduceEqDiff]; try rfl) (ho _)
theorem get_eq (n D : Nat) (hn : 2200 ≤ n) (bs : List UInt8) (g : Grip) (hg : g = .tight ∨ g = .loose ∨ g = .nil) (hl : bs.length ≤ 150000000000000) (hD : 3 * (bs.length + 2) + 6030 ≤ D) (hbig : (110 : UInt8) ∈ bs → ∀ D, 6000 ≤ D → BigOk n D) (at_ : Int) :
    evalFn Try.prog cfg5 n (D+1) 13 [.tree (.sl (cellsOfBytes bs) bs.length g), .tree (.int .i64 at_)] = some (.tree (outG (getR bs at_)), [[], []]) :=
  get_of n D bs g hg at_ fun a _ ha => term_eq n hn bs g (bs.length + 2) D 1 0 (by omega) (by omega) (by decide) (by decide) (fun i _ h => hbig (List.mem_of_mem_drop (List.mem_of_mem_take (by rw [h]; exact List.mem_singleton.2 rfl)))) ⟨a, 0, 0⟩ ⟨ha, hl, by dsimp only; omega, by dsimp only; omega, fun _ => by dsimp only; omega⟩ (fun _ => Nat.zero_le _)
end Go.Ab

/- Readings of long lists and of deep tuples: plain mathematics. Conditions: lengths in range. -/
namespace Go.Ab
open Go.Proofs
set_option maxRecDepth 100000

end Go.Ab

/- Readings of deep tuples: plain mathematics. Conditions: lengths in range. -/
namespace Go.Ab
open Go.Proofs
set_option maxRecDepth 100000

end Go.Ab

/- ext.Get of long lists and of deep tuples (CFG5). Conditions: lengths in range. -/
namespace Go.Ab
open Go.Proofs
set_option maxRecDepth 100000

end Go.Ab

/- The example of the statements on bytes, by the kernel's own reckoning (CFG5). No conditions. -/
namespace Go.Ab
open Go.Proofs
theorem awake5_eq : evalFn Try.prog cfg5 2200 20 9 [] = some (.tree (.bool true), []) := isOkT_eq (by kernel_rfl)
end Go.Ab

/- ExtLong gives true (CFG5). No conditions. -/
namespace Go.Ab
open Go.Proofs
set_option maxRecDepth 100000
set_option linter.unusedSimpArgs false

end Go.Ab
