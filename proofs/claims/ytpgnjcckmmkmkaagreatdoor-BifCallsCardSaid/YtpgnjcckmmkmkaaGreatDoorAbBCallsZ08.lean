/- Several texts put together: AbzW9, AbzA16, AbzW10, AbzLawBAll, AbzV1, AbzV2, AbzV3, AbzV4, AbzV5, AbzV6, AbzX5, AbzV7. Conditions: as each part says. -/
import Derived.Test.YtpgnjcckmmkmkaaGreatDoorAbBCallsZ07
import Derived.Test.YtpgnjcckmmkmkaaGreatDoorAbBCallsZ06
import Derived.Test.YtpgnjcckmmkmkaaGreatDoorAbBCallsZ05
/- What BifAll compares, term by term. Conditions: terms that are few. -/
namespace Go.Ab
open Go.Proofs
set_option maxRecDepth 100000
set_option linter.unusedSimpArgs false

mutual
theorem nod_copy : ∀ t : T, nodT (copyT t) = nodT t
  | .mk k b lg l s n kg ks => by simp only [copyT, nodT, nodK_copy ks]
theorem nodK_copy : ∀ ks : List T, nodK (copyK ks) = nodK ks
  | [] => rfl
  | t :: r => by simp only [copyK, nodK, nod_copy t, nodK_copy r]
end
theorem lim_copy (t : T) : limT (copyT t) = limT t := by obtain ⟨k, b, lg, l, s, m, kg, ks⟩ := t; rfl
theorem str_copy (t : T) : strT (copyT t) = strT t := by obtain ⟨k, b, lg, l, s, m, kg, ks⟩ := t; rfl
theorem kids_copy (t : T) : kidsT (copyT t) = copyK (kidsT t) := by obtain ⟨k, b, lg, l, s, m, kg, ks⟩ := t; rfl
theorem copyK_len (ks : List T) : (copyK ks).length = ks.length := by rw [copyK_map, List.length_map]
mutual
theorem few_copy (m : Nat) : ∀ t : T, fewT m t → fewT m (copyT t)
  | .mk k b lg l s n kg ks, h => by
    simp only [fewT] at h
    simp only [copyT, fewT, copyK_len]
    exact ⟨h.1, h.2.1, fewK_copy m ks h.2.2⟩
theorem fewK_copy (m : Nat) : ∀ ks : List T, fewK m ks → fewK m (copyK ks)
  | [], _ => by simp only [copyK, fewK]
  | t :: r, h => by
    simp only [fewK] at h
    simp only [copyK, fewK]
    exact ⟨few_copy m t h.1, fewK_copy m r h.2⟩
end
def okX (u : T) : Prop := fewT 100000 u ∧ htT u ≤ 2000
theorem okX_leaf (k : Int) (b : Bool) (g : Gk) (l : List Nat) (s : List UInt8) (n : Int) (h : l.length < 100000) : okX (.mk k b g l s n .n []) := by
  refine ⟨?_, ?_⟩
  · simp only [fewT, fewK, List.length_nil]; exact ⟨h, by omega, trivial⟩
  · simp only [htT, htK]; omega
theorem okX_0 : okX T0 := okX_leaf _ _ _ _ _ _ (by simp)
theorem kid_ok : ∀ (ks : List T) (i : Nat), fewK 100000 ks → htK ks ≤ 1999 → okX (ks.getD i T0)
  | [], i, _, _ => okX_0
  | t :: r, 0, h, h2 => by
    simp only [fewK] at h
    simp only [htK] at h2
    exact ⟨h.1, by show htT t ≤ 2000; omega⟩
  | t :: r, i + 1, h, h2 => by
    simp only [fewK] at h
    simp only [htK] at h2
    have := kid_ok r i h.2 (by omega)
    simpa using this
theorem kids_few (t : T) (h : fewT 100000 t) (hn : nodT t ≤ 1999) : fewK 100000 (kidsT t) ∧ htK (kidsT t) ≤ 1999 := by
  obtain ⟨k, b, lg, l, s, m, kg, ks⟩ := t
  simp only [fewT] at h
  simp only [nodT] at hn
  have := htK_nod ks
  exact ⟨h.2.2, by show htK ks ≤ 1999; omega⟩
theorem digs12 (z : Int) (h : z.natAbs < B ^ 12) : (digs z.natAbs).length < 100000 := by
  have := (digs_len_le z.natAbs 12).2 h
  omega
theorem small_ok (v : Int) (h : I64 v) : okX (smallT v) := okX_leaf _ _ _ _ _ _ (digs12 v (Nat.lt_of_lt_of_le (show v.natAbs < 18446744073709551616 by have := h.1; have := h.2; omega) (by decide)))
theorem one_ok (op : Int) (t : T) (hf : fewT 100000 t) (hn : nodT t ≤ 1999) (hs : (strT t).length ≤ 1000000) : okX (oneT smallT op t).1 := by
  have hk := kids_few t hf hn
  have hkl : (kidsT t).length ≤ 1000000 := by
    obtain ⟨k, b, lg, l, s, m, kg, ks⟩ := t
    simp only [fewT] at hf
    show ks.length ≤ 1000000
    omega
  by_cases q1 : (op = 1 ∨ op = 2) ∧ kindT t = 4 ∧ (kidsT t).length = 2
  · rw [one_12 smallT op t _ q1.1 q1.2.1 q1.2.2 rfl]; exact kid_ok _ _ hk.1 hk.2
  by_cases q2 : op = 3 ∧ kindT t = 5
  · obtain ⟨rfl, q2⟩ := q2
    rw [one_3 smallT t q2]; exact small_ok _ ⟨by omega, by omega⟩
  by_cases q3 : op = 4 ∧ kindT t = 6
  · obtain ⟨rfl, q3⟩ := q3
    rw [one_4 smallT t q3]; exact small_ok _ ⟨by omega, by omega⟩
  by_cases q4 : op = 5
  · subst q4
    cases h1 : itemsT t with
    | none => rw [one_no smallT 5 t q1 q2 q3 (.inr h1)]; exact okX_0
    | some u =>
      have := items_len t u h1
      rw [one_5 smallT t u h1]; exact small_ok _ ⟨by omega, by omega⟩
  · rw [one_no smallT op t q1 q2 q3 (.inl q4)]; exact okX_0
theorem two_ok (op : Int) (a b : T) (hf : fewT 100000 b) (hn : nodT b ≤ 1999) : okX (twoT op a b).1 := by
  have hk := kids_few b hf hn
  by_cases h : op = 1 ∧ PlaceP a b
  · rw [two_yes _ _ _ h]; exact kid_ok _ _ hk.1 hk.2
  · rw [two_no _ _ _ h]; exact okX_0
structure PairX (F G : FuncId) (n : Nat) (xs ys : List AV) (x y : T) (o : Bool) : Prop where
  p : evalFn Tryz.prog cfg0 9223372036854775808 6190 F (xs.map .tree) = some (.tree (.tup [encT x, .bool o]), xs.map fun _ => [])
  q : evalFn Tryz.prog cfg0 9223372036854775808 6190 G (ys.map .tree) = some (.tree (.tup [encT y, .bool o]), ys.map fun _ => [])
  ok : okX x
  same : bareT x = bareT y
theorem ratom_eq (n d : Nat) (s : List UInt8) : evalFn Tryz.prog cfg0 n (d+1) 30 [.tree (.str s)] = some (.tree (encT (atomT s)), [[]]) := by
  rw [evalFn_go _ Tryz.func30 (by unfold Tryz.f30; rfl) (by unfold Tryz.f30; decide) (Nat.le_of_ble_eq_true (by unfold Tryz.f30; rfl)) (by kernel_rfl)]
  simp only [simB, zbo, Nat.reduceBEq, own0, ↓reduceIte, Nat.reduceEqDiff, Nat.reduceAdd, simA, simL, simN, Nat.zero_add, zeroT, bdT_at, st_Tt, stT_6]
  exact finish_cT _ _ _ _ _ (atomT s) _ _ _ (by simp only [zfr, ↓reduceIte, Nat.reduceEqDiff]; try rfl) (by simp only [zfr, ↓reduceIte, Nat.reduceEqDiff]; try rfl) rfl
end Go.Ab

/- The statement NumBits, abstractly. Conditions: limbs in range. -/
namespace Go.Ab
open Go.Proofs
set_option maxRecDepth 100000
set_option linter.unusedSimpArgs false

section
variable {P : Program} {cfg : Cfg} {call : FuncId → List Arg → Option Out}
def callVQ (call : FuncId → List Arg → Option Out) (vs : List AV) : AV → Option AV
  | .fn f caps => callQ call f (vs ++ caps)
  | _ => none
@[congr] theorem callVQ_congr {vs vs' : List AV} {v v' : AV} (h : v = v') (h2 : vs = vs') : callVQ call vs v = callVQ call vs' v' := by rw [h, h2]
end
end Go.Ab

/- The statement BifAll (CFG4). Conditions: terms; limbs, texts in range. -/
namespace Go.Ab
open Go.Proofs
set_option maxRecDepth 100000
set_option linter.unusedSimpArgs false

theorem awake4 (n d : Nat) : evalFn Tryz.prog cfg4 n (d+1) 7 [] = some (.tree (.bool true), []) := ev4 rfl rfl (evalFn_mono (by decide) 60 6190 (by decide) _ _ _ awakeB_eq)
theorem few4 (n d : Nat) (us : List T) (g : Grip) (hb : bigK 9223372036854775808 us) (hf : fewK 9223372036854775808 us) : evalFn Tryz.prog cfg4 n (d+1) 6 [.tree (.sl (cellsK us) us.length g)] = some (.tree (.bool (fewR 12 us && decide (us.length ≤ 12))), [[]]) := ev4 rfl rfl (fewB_eq 9223372036854775808 6189 (by decide) (by decide) (by decide) us g hb hf)
theorem same4 (n d : Nat) (x y : T) (h : okX x) (hb : bareT x = bareT y) : evalFn Tryz.prog cfg4 n (d+1) 11 [.tree (encT x), .tree (encT y)] = some (.tree (.bool true), [[], []]) := ev4 rfl rfl (sameX_eq 9223372036854775808 (by decide) 6188 x y (by have := h.2; omega) h.1 hb)
structure FewX (t : T) : Prop where
  few : fewT 100000 t
  nod : nodT t ≤ 100
  lim : Limbs (limT t)
  str : (strT t).length ≤ 1000000
theorem fewX_of (t : T) (hb : bigT 9223372036854775808 t) (h : lgT t 100 ≥ 0) : FewX t := by
  have h2 := lgT_ok t 100 h
  have h3 : nodT t ≤ 100 := by omega
  refine ⟨fewT_le (by decide) t (few_node 100 t h2.1 h3 (by decide)), h3, ?_, ?_⟩
  · obtain ⟨k, b, lg, l, s, m, kg, ks⟩ := t
    simp only [bigT] at hb
    exact hb.1
  · obtain ⟨k, b, lg, l, s, m, kg, ks⟩ := t
    have := h2.1
    simp only [leanT] at this
    show s.length ≤ 1000000
    omega
theorem bigK_mem (R : Nat) : ∀ (ks : List T), bigK R ks → ∀ t ∈ ks, bigT R t
  | [], _, t, h => by cases h
  | a :: r, h, t, ht => by
    simp only [bigK] at h
    rcases List.mem_cons.1 ht with rfl | ht
    · exact h.1
    · exact bigK_mem R r h.2 t ht
theorem tk4W : tkOf Tryz.prog 4 = .bool := by kernel_rfl
end Go.Ab

/- The walk of BifAll (CFG4): it gives true, and leaves memory below as it was. No conditions. -/
namespace Go.Ab
open Go.Proofs Go.RowKit
theorem prim3_ok : FnOk Tryz.prog prim3 := fun f xs r os h => by
  unfold prim3 at h
  split at h
  · cases h
  · exact evalFn_ok mixed prim0_ok 9223372036854775808 6190 f xs r os h
theorem prim4_ok : FnOk Tryz.prog prim4 := fun f xs r os h => by
  unfold prim4 at h
  split at h
  · cases h
  · split at h
    · exact evalFn_ok (cfg := cfg3) mixed prim3_ok 9223372036854775808 6190 f xs r os h
    · exact evalFn_ok mixed prim0_ok 9223372036854775808 6190 f xs r os h
theorem st0_4W (a b c d : AV) : st0 [.tree a, .tree b, .tree c, .tree d] = dead := by
  funext p
  match p with
  | 0 => rfl
  | 1 => rfl
  | 2 => rfl
  | 3 => rfl
  | p + 4 => rfl
end Go.Ab

/- bif.Has, relictref19.Has of any strings. Conditions: lengths in range. -/
namespace Go.Ab
open Go.Proofs
set_option maxRecDepth 100000
set_option linter.unusedSimpArgs false

def erlW : List UInt8 := [101, 114, 108, 97, 110, 103]
def lisW : List UInt8 := [108, 105, 115, 116, 115]
def w_error : List UInt8 := [101, 114, 114, 111, 114]
def w_exit : List UInt8 := [101, 120, 105, 116]
def w_throw : List UInt8 := [116, 104, 114, 111, 119]
def w_hd : List UInt8 := [104, 100]
def w_tl : List UInt8 := [116, 108]
def w_tuple_size : List UInt8 := [116, 117, 112, 108, 101, 95, 115, 105, 122, 101]
def w_byte_size : List UInt8 := [98, 121, 116, 101, 95, 115, 105, 122, 101]
def w_length : List UInt8 := [108, 101, 110, 103, 116, 104]
def w_list_to_tuple : List UInt8 := [108, 105, 115, 116, 95, 116, 111, 95, 116, 117, 112, 108, 101]
def w_tuple_to_list : List UInt8 := [116, 117, 112, 108, 101, 95, 116, 111, 95, 108, 105, 115, 116]
def w_integer_to_list : List UInt8 := [105, 110, 116, 101, 103, 101, 114, 95, 116, 111, 95, 108, 105, 115, 116]
def w_atom_to_list : List UInt8 := [97, 116, 111, 109, 95, 116, 111, 95, 108, 105, 115, 116]
def w_element : List UInt8 := [101, 108, 101, 109, 101, 110, 116]
def w_pp : List UInt8 := [43, 43]
def w_max : List UInt8 := [109, 97, 120]
def w_min : List UInt8 := [109, 105, 110]
def w_setelement : List UInt8 := [115, 101, 116, 101, 108, 101, 109, 101, 110, 116]
def w_reverse : List UInt8 := [114, 101, 118, 101, 114, 115, 101]
def w_member : List UInt8 := [109, 101, 109, 98, 101, 114]
def arE (s : List UInt8) : Int := if s == w_error then 1 else if s == w_exit then 1 else if s == w_throw then 1 else if s == w_hd then 1 else if s == w_tl then 1 else if s == w_tuple_size then 1 else if s == w_byte_size then 1 else if s == w_length then 1 else if s == w_list_to_tuple then 1 else if s == w_tuple_to_list then 1 else if s == w_integer_to_list then 1 else if s == w_atom_to_list then 1 else if s == w_element then 2 else if s == w_pp then 2 else if s == w_max then 2 else if s == w_min then 2 else if s == w_setelement then 3 else -1
def arL (s : List UInt8) : Int := if s == w_reverse then 1 else if s == w_member then 2 else -1
theorem cons_beqW (a : UInt8) (x y : List UInt8) : (a :: x == a :: y) = (x == y) := by simp
theorem cons_bneW (a b : UInt8) (x y : List UInt8) (h : (a == b) = false) : (a :: x == b :: y) = false := by simp [List.cons_beq_cons, h]
theorem erl_pre (s q : List UInt8) : ((erlW ++ [58]) ++ s == 101 :: 114 :: 108 :: 97 :: 110 :: 103 :: 58 :: q) = (s == q) := by
  simp only [erlW, List.cons_append, List.nil_append, cons_beqW]
theorem erl_not (s q : List UInt8) : ((erlW ++ [58]) ++ s == 108 :: q) = false := by
  simp only [erlW, List.cons_append, List.nil_append]
  exact cons_bneW _ _ _ _ (by decide)
theorem lis_pre (s q : List UInt8) : ((lisW ++ [58]) ++ s == 108 :: 105 :: 115 :: 116 :: 115 :: 58 :: q) = (s == q) := by
  simp only [lisW, List.cons_append, List.nil_append, cons_beqW]
theorem lis_not (s q : List UInt8) : ((lisW ++ [58]) ++ s == 101 :: q) = false := by
  simp only [lisW, List.cons_append, List.nil_append]
  exact cons_bneW _ _ _ _ (by decide)
theorem bar_error : evalFn Tryz.prog cfg0 100000 20 40 [.tree (.str erlW), .tree (.str w_error)] = some (.tree (.int .i64 1), [[], []]) := by kernel_rfl
theorem bar_exit : evalFn Tryz.prog cfg0 100000 20 40 [.tree (.str erlW), .tree (.str w_exit)] = some (.tree (.int .i64 1), [[], []]) := by kernel_rfl
theorem bar_throw : evalFn Tryz.prog cfg0 100000 20 40 [.tree (.str erlW), .tree (.str w_throw)] = some (.tree (.int .i64 1), [[], []]) := by kernel_rfl
theorem bar_hd : evalFn Tryz.prog cfg0 100000 20 40 [.tree (.str erlW), .tree (.str w_hd)] = some (.tree (.int .i64 1), [[], []]) := by kernel_rfl
theorem bar_tl : evalFn Tryz.prog cfg0 100000 20 40 [.tree (.str erlW), .tree (.str w_tl)] = some (.tree (.int .i64 1), [[], []]) := by kernel_rfl
theorem bar_tuple_size : evalFn Tryz.prog cfg0 100000 20 40 [.tree (.str erlW), .tree (.str w_tuple_size)] = some (.tree (.int .i64 1), [[], []]) := by kernel_rfl
theorem bar_byte_size : evalFn Tryz.prog cfg0 100000 20 40 [.tree (.str erlW), .tree (.str w_byte_size)] = some (.tree (.int .i64 1), [[], []]) := by kernel_rfl
theorem bar_length : evalFn Tryz.prog cfg0 100000 20 40 [.tree (.str erlW), .tree (.str w_length)] = some (.tree (.int .i64 1), [[], []]) := by kernel_rfl
theorem bar_list_to_tuple : evalFn Tryz.prog cfg0 100000 20 40 [.tree (.str erlW), .tree (.str w_list_to_tuple)] = some (.tree (.int .i64 1), [[], []]) := by kernel_rfl
theorem bar_tuple_to_list : evalFn Tryz.prog cfg0 100000 20 40 [.tree (.str erlW), .tree (.str w_tuple_to_list)] = some (.tree (.int .i64 1), [[], []]) := by kernel_rfl
theorem bar_integer_to_list : evalFn Tryz.prog cfg0 100000 20 40 [.tree (.str erlW), .tree (.str w_integer_to_list)] = some (.tree (.int .i64 1), [[], []]) := by kernel_rfl
theorem bar_atom_to_list : evalFn Tryz.prog cfg0 100000 20 40 [.tree (.str erlW), .tree (.str w_atom_to_list)] = some (.tree (.int .i64 1), [[], []]) := by kernel_rfl
theorem bar_element : evalFn Tryz.prog cfg0 100000 20 40 [.tree (.str erlW), .tree (.str w_element)] = some (.tree (.int .i64 2), [[], []]) := by kernel_rfl
theorem bar_pp : evalFn Tryz.prog cfg0 100000 20 40 [.tree (.str erlW), .tree (.str w_pp)] = some (.tree (.int .i64 2), [[], []]) := by kernel_rfl
theorem bar_max : evalFn Tryz.prog cfg0 100000 20 40 [.tree (.str erlW), .tree (.str w_max)] = some (.tree (.int .i64 2), [[], []]) := by kernel_rfl
theorem bar_min : evalFn Tryz.prog cfg0 100000 20 40 [.tree (.str erlW), .tree (.str w_min)] = some (.tree (.int .i64 2), [[], []]) := by kernel_rfl
theorem bar_setelement : evalFn Tryz.prog cfg0 100000 20 40 [.tree (.str erlW), .tree (.str w_setelement)] = some (.tree (.int .i64 3), [[], []]) := by kernel_rfl
theorem bal_reverse : evalFn Tryz.prog cfg0 100000 20 40 [.tree (.str lisW), .tree (.str w_reverse)] = some (.tree (.int .i64 1), [[], []]) := by kernel_rfl
theorem bal_member : evalFn Tryz.prog cfg0 100000 20 40 [.tree (.str lisW), .tree (.str w_member)] = some (.tree (.int .i64 2), [[], []]) := by kernel_rfl
theorem rar_error : evalFn Tryz.prog cfg0 100000 20 41 [.tree (.str erlW), .tree (.str w_error)] = some (.tree (.int .i64 1), [[], []]) := by kernel_rfl
theorem rar_exit : evalFn Tryz.prog cfg0 100000 20 41 [.tree (.str erlW), .tree (.str w_exit)] = some (.tree (.int .i64 1), [[], []]) := by kernel_rfl
theorem rar_throw : evalFn Tryz.prog cfg0 100000 20 41 [.tree (.str erlW), .tree (.str w_throw)] = some (.tree (.int .i64 1), [[], []]) := by kernel_rfl
theorem rar_hd : evalFn Tryz.prog cfg0 100000 20 41 [.tree (.str erlW), .tree (.str w_hd)] = some (.tree (.int .i64 1), [[], []]) := by kernel_rfl
theorem rar_tl : evalFn Tryz.prog cfg0 100000 20 41 [.tree (.str erlW), .tree (.str w_tl)] = some (.tree (.int .i64 1), [[], []]) := by kernel_rfl
theorem rar_tuple_size : evalFn Tryz.prog cfg0 100000 20 41 [.tree (.str erlW), .tree (.str w_tuple_size)] = some (.tree (.int .i64 1), [[], []]) := by kernel_rfl
theorem rar_byte_size : evalFn Tryz.prog cfg0 100000 20 41 [.tree (.str erlW), .tree (.str w_byte_size)] = some (.tree (.int .i64 1), [[], []]) := by kernel_rfl
theorem rar_length : evalFn Tryz.prog cfg0 100000 20 41 [.tree (.str erlW), .tree (.str w_length)] = some (.tree (.int .i64 1), [[], []]) := by kernel_rfl
theorem rar_list_to_tuple : evalFn Tryz.prog cfg0 100000 20 41 [.tree (.str erlW), .tree (.str w_list_to_tuple)] = some (.tree (.int .i64 1), [[], []]) := by kernel_rfl
theorem rar_tuple_to_list : evalFn Tryz.prog cfg0 100000 20 41 [.tree (.str erlW), .tree (.str w_tuple_to_list)] = some (.tree (.int .i64 1), [[], []]) := by kernel_rfl
theorem rar_integer_to_list : evalFn Tryz.prog cfg0 100000 20 41 [.tree (.str erlW), .tree (.str w_integer_to_list)] = some (.tree (.int .i64 1), [[], []]) := by kernel_rfl
theorem rar_atom_to_list : evalFn Tryz.prog cfg0 100000 20 41 [.tree (.str erlW), .tree (.str w_atom_to_list)] = some (.tree (.int .i64 1), [[], []]) := by kernel_rfl
theorem rar_element : evalFn Tryz.prog cfg0 100000 20 41 [.tree (.str erlW), .tree (.str w_element)] = some (.tree (.int .i64 2), [[], []]) := by kernel_rfl
theorem rar_pp : evalFn Tryz.prog cfg0 100000 20 41 [.tree (.str erlW), .tree (.str w_pp)] = some (.tree (.int .i64 2), [[], []]) := by kernel_rfl
theorem rar_max : evalFn Tryz.prog cfg0 100000 20 41 [.tree (.str erlW), .tree (.str w_max)] = some (.tree (.int .i64 2), [[], []]) := by kernel_rfl
theorem rar_min : evalFn Tryz.prog cfg0 100000 20 41 [.tree (.str erlW), .tree (.str w_min)] = some (.tree (.int .i64 2), [[], []]) := by kernel_rfl
theorem rar_setelement : evalFn Tryz.prog cfg0 100000 20 41 [.tree (.str erlW), .tree (.str w_setelement)] = some (.tree (.int .i64 3), [[], []]) := by kernel_rfl
theorem ral_reverse : evalFn Tryz.prog cfg0 100000 20 41 [.tree (.str lisW), .tree (.str w_reverse)] = some (.tree (.int .i64 1), [[], []]) := by kernel_rfl
theorem ral_member : evalFn Tryz.prog cfg0 100000 20 41 [.tree (.str lisW), .tree (.str w_member)] = some (.tree (.int .i64 2), [[], []]) := by kernel_rfl
set_option maxHeartbeats 16000000 in
theorem bar_none (R d : Nat) (s : List UInt8) (hs : s.length ≤ 9000000000000000000) (h0 : (s == w_error) = false) (h1 : (s == w_exit) = false) (h2 : (s == w_throw) = false) (h3 : (s == w_hd) = false) (h4 : (s == w_tl) = false) (h5 : (s == w_tuple_size) = false) (h6 : (s == w_byte_size) = false) (h7 : (s == w_length) = false) (h8 : (s == w_list_to_tuple) = false) (h9 : (s == w_tuple_to_list) = false) (h10 : (s == w_integer_to_list) = false) (h11 : (s == w_atom_to_list) = false) (h12 : (s == w_element) = false) (h13 : (s == w_pp) = false) (h14 : (s == w_max) = false) (h15 : (s == w_min) = false) (h16 : (s == w_setelement) = false) : evalFn Tryz.prog cfg0 R (d+1) 40 [.tree (.str erlW), .tree (.str s)] = some (.tree (.int .i64 (-1)), [[], []]) := by
  rw [evalFn_go _ Tryz.func40 (by unfold Tryz.f40; rfl) (by unfold Tryz.f40; decide) (Nat.le_of_ble_eq_true (by unfold Tryz.f40; rfl)) (by kernel_rfl)]
  have a1 := s_addS Tryz.prog 9 erlW [58] (by decide)
  have a2 := s_addS Tryz.prog 9 (erlW ++ [58]) s (by simp only [List.length_append, erlW, List.length_cons, List.length_nil]; omega)
  simp only [w_error, w_exit, w_throw, w_hd, w_tl, w_tuple_size, w_byte_size, w_length, w_list_to_tuple, w_tuple_to_list, w_integer_to_list, w_atom_to_list, w_element, w_pp, w_max, w_min, w_setelement] at h0 h1 h2 h3 h4 h5 h6 h7 h8 h9 h10 h11 h12 h13 h14 h15 h16
  simp only [simB, zbo, Nat.reduceBEq, own0, ↓reduceIte, Nat.reduceEqDiff, Nat.reduceAdd, simA, simL, simN, Nat.zero_add, zex, List.toList_toArray, len9, ix9, zey, zez, zfa, zfb, zfc, s_eqlS, a1, a2, erl_pre, erl_not, h0, h1, h2, h3, h4, h5, h6, h7, h8, h9, h10, h11, h12, h13, h14, h15, h16]
  exact finish_i _ _ _ _ _ _ _ (by simp only [zfr, ↓reduceIte, Nat.reduceEqDiff]; try rfl) rfl
set_option maxHeartbeats 16000000 in
theorem rar_none (R d : Nat) (s : List UInt8) (h0 : (s == w_error) = false) (h1 : (s == w_exit) = false) (h2 : (s == w_throw) = false) (h3 : (s == w_hd) = false) (h4 : (s == w_tl) = false) (h5 : (s == w_tuple_size) = false) (h6 : (s == w_byte_size) = false) (h7 : (s == w_length) = false) (h8 : (s == w_list_to_tuple) = false) (h9 : (s == w_tuple_to_list) = false) (h10 : (s == w_integer_to_list) = false) (h11 : (s == w_atom_to_list) = false) (h12 : (s == w_element) = false) (h13 : (s == w_pp) = false) (h14 : (s == w_max) = false) (h15 : (s == w_min) = false) (h16 : (s == w_setelement) = false) : evalFn Tryz.prog cfg0 R (d+1) 41 [.tree (.str erlW), .tree (.str s)] = some (.tree (.int .i64 (-1)), [[], []]) := by
  rw [evalFn_go _ Tryz.func41 (by unfold Tryz.f41; rfl) (by unfold Tryz.f41; decide) (Nat.le_of_ble_eq_true (by unfold Tryz.f41; rfl)) (by kernel_rfl)]
  have w0 : (erlW == ([108, 105, 115, 116, 115] : List UInt8)) = false := by decide
  simp only [w_error, w_exit, w_throw, w_hd, w_tl, w_tuple_size, w_byte_size, w_length, w_list_to_tuple, w_tuple_to_list, w_integer_to_list, w_atom_to_list, w_element, w_pp, w_max, w_min, w_setelement] at h0 h1 h2 h3 h4 h5 h6 h7 h8 h9 h10 h11 h12 h13 h14 h15 h16
  simp only [simB, zbo, Nat.reduceBEq, own0, ↓reduceIte, Nat.reduceEqDiff, Nat.reduceAdd, simA, simL, simN, Nat.zero_add, zex, List.toList_toArray, len9, ix9, zey, zez, zfa, zfb, zfc, s_eqlS, w0, h0, h1, h2, h3, h4, h5, h6, h7, h8, h9, h10, h11, h12, h13, h14, h15, h16]
  exact finish_i _ _ _ _ _ _ _ (by simp only [zfr, ↓reduceIte, Nat.reduceEqDiff]; try rfl) rfl
set_option maxHeartbeats 16000000 in
theorem bal_none (R d : Nat) (s : List UInt8) (hs : s.length ≤ 9000000000000000000) (h0 : (s == w_reverse) = false) (h1 : (s == w_member) = false) : evalFn Tryz.prog cfg0 R (d+1) 40 [.tree (.str lisW), .tree (.str s)] = some (.tree (.int .i64 (-1)), [[], []]) := by
  rw [evalFn_go _ Tryz.func40 (by unfold Tryz.f40; rfl) (by unfold Tryz.f40; decide) (Nat.le_of_ble_eq_true (by unfold Tryz.f40; rfl)) (by kernel_rfl)]
  have a1 := s_addS Tryz.prog 9 lisW [58] (by decide)
  have a2 := s_addS Tryz.prog 9 (lisW ++ [58]) s (by simp only [List.length_append, lisW, List.length_cons, List.length_nil]; omega)
  simp only [w_reverse, w_member] at h0 h1
  simp only [simB, zbo, Nat.reduceBEq, own0, ↓reduceIte, Nat.reduceEqDiff, Nat.reduceAdd, simA, simL, simN, Nat.zero_add, zex, List.toList_toArray, len9, ix9, zey, zez, zfa, zfb, zfc, s_eqlS, a1, a2, lis_pre, lis_not, h0, h1]
  exact finish_i _ _ _ _ _ _ _ (by simp only [zfr, ↓reduceIte, Nat.reduceEqDiff]; try rfl) rfl
set_option maxHeartbeats 16000000 in
theorem ral_none (R d : Nat) (s : List UInt8) (h0 : (s == w_reverse) = false) (h1 : (s == w_member) = false) : evalFn Tryz.prog cfg0 R (d+1) 41 [.tree (.str lisW), .tree (.str s)] = some (.tree (.int .i64 (-1)), [[], []]) := by
  rw [evalFn_go _ Tryz.func41 (by unfold Tryz.f41; rfl) (by unfold Tryz.f41; decide) (Nat.le_of_ble_eq_true (by unfold Tryz.f41; rfl)) (by kernel_rfl)]
  have w0 : (lisW == ([108, 105, 115, 116, 115] : List UInt8)) = true := by decide
  simp only [w_reverse, w_member] at h0 h1
  simp only [simB, zbo, Nat.reduceBEq, own0, ↓reduceIte, Nat.reduceEqDiff, Nat.reduceAdd, simA, simL, simN, Nat.zero_add, zex, List.toList_toArray, len9, ix9, zey, zez, zfa, zfb, zfc, s_eqlS, w0, h0, h1]
  exact finish_i _ _ _ _ _ _ _ (by simp only [zfr, ↓reduceIte, Nat.reduceEqDiff]; try rfl) rfl
theorem bar_eq (R d : Nat) (hR : 100000 ≤ R) (hd : 20 ≤ d) (s : List UInt8) (hs : s.length ≤ 9000000000000000000) : evalFn Tryz.prog cfg0 R d 40 [.tree (.str erlW), .tree (.str s)] = some (.tree (.int .i64 (arE s)), [[], []]) := by
  cases h0 : (s == w_error) with
  | true =>
    have e := beq_iff_eq.1 h0
    subst e
    exact evalFn_mono hR 20 d hd _ _ _ bar_error
  | false =>
  cases h1 : (s == w_exit) with
  | true =>
    have e := beq_iff_eq.1 h1
    subst e
    exact evalFn_mono hR 20 d hd _ _ _ bar_exit
  | false =>
  cases h2 : (s == w_throw) with
  | true =>
    have e := beq_iff_eq.1 h2
    subst e
    exact evalFn_mono hR 20 d hd _ _ _ bar_throw
  | false =>
  cases h3 : (s == w_hd) with
  | true =>
    have e := beq_iff_eq.1 h3
    subst e
    exact evalFn_mono hR 20 d hd _ _ _ bar_hd
  | false =>
  cases h4 : (s == w_tl) with
  | true =>
    have e := beq_iff_eq.1 h4
    subst e
    exact evalFn_mono hR 20 d hd _ _ _ bar_tl
  | false =>
  cases h5 : (s == w_tuple_size) with
  | true =>
    have e := beq_iff_eq.1 h5
    subst e
    exact evalFn_mono hR 20 d hd _ _ _ bar_tuple_size
  | false =>
  cases h6 : (s == w_byte_size) with
  | true =>
    have e := beq_iff_eq.1 h6
    subst e
    exact evalFn_mono hR 20 d hd _ _ _ bar_byte_size
  | false =>
  cases h7 : (s == w_length) with
  | true =>
    have e := beq_iff_eq.1 h7
    subst e
    exact evalFn_mono hR 20 d hd _ _ _ bar_length
  | false =>
  cases h8 : (s == w_list_to_tuple) with
  | true =>
    have e := beq_iff_eq.1 h8
    subst e
    exact evalFn_mono hR 20 d hd _ _ _ bar_list_to_tuple
  | false =>
  cases h9 : (s == w_tuple_to_list) with
  | true =>
    have e := beq_iff_eq.1 h9
    subst e
    exact evalFn_mono hR 20 d hd _ _ _ bar_tuple_to_list
  | false =>
  cases h10 : (s == w_integer_to_list) with
  | true =>
    have e := beq_iff_eq.1 h10
    subst e
    exact evalFn_mono hR 20 d hd _ _ _ bar_integer_to_list
  | false =>
  cases h11 : (s == w_atom_to_list) with
  | true =>
    have e := beq_iff_eq.1 h11
    subst e
    exact evalFn_mono hR 20 d hd _ _ _ bar_atom_to_list
  | false =>
  cases h12 : (s == w_element) with
  | true =>
    have e := beq_iff_eq.1 h12
    subst e
    exact evalFn_mono hR 20 d hd _ _ _ bar_element
  | false =>
  cases h13 : (s == w_pp) with
  | true =>
    have e := beq_iff_eq.1 h13
    subst e
    exact evalFn_mono hR 20 d hd _ _ _ bar_pp
  | false =>
  cases h14 : (s == w_max) with
  | true =>
    have e := beq_iff_eq.1 h14
    subst e
    exact evalFn_mono hR 20 d hd _ _ _ bar_max
  | false =>
  cases h15 : (s == w_min) with
  | true =>
    have e := beq_iff_eq.1 h15
    subst e
    exact evalFn_mono hR 20 d hd _ _ _ bar_min
  | false =>
  cases h16 : (s == w_setelement) with
  | true =>
    have e := beq_iff_eq.1 h16
    subst e
    exact evalFn_mono hR 20 d hd _ _ _ bar_setelement
  | false =>
  obtain ⟨d', rfl⟩ : ∃ d', d = d' + 1 := ⟨d - 1, by omega⟩
  have e : arE s = -1 := by simp only [arE, h0, h1, h2, h3, h4, h5, h6, h7, h8, h9, h10, h11, h12, h13, h14, h15, h16, Bool.false_eq_true, if_false]
  rw [e]
  exact bar_none R d' s hs h0 h1 h2 h3 h4 h5 h6 h7 h8 h9 h10 h11 h12 h13 h14 h15 h16
theorem bal_eq (R d : Nat) (hR : 100000 ≤ R) (hd : 20 ≤ d) (s : List UInt8) (hs : s.length ≤ 9000000000000000000) : evalFn Tryz.prog cfg0 R d 40 [.tree (.str lisW), .tree (.str s)] = some (.tree (.int .i64 (arL s)), [[], []]) := by
  cases h0 : (s == w_reverse) with
  | true =>
    have e := beq_iff_eq.1 h0
    subst e
    exact evalFn_mono hR 20 d hd _ _ _ bal_reverse
  | false =>
  cases h1 : (s == w_member) with
  | true =>
    have e := beq_iff_eq.1 h1
    subst e
    exact evalFn_mono hR 20 d hd _ _ _ bal_member
  | false =>
  obtain ⟨d', rfl⟩ : ∃ d', d = d' + 1 := ⟨d - 1, by omega⟩
  have e : arL s = -1 := by simp only [arL, h0, h1, Bool.false_eq_true, if_false]
  rw [e]
  exact bal_none R d' s hs h0 h1
theorem rar_eq (R d : Nat) (hR : 100000 ≤ R) (hd : 20 ≤ d) (s : List UInt8) : evalFn Tryz.prog cfg0 R d 41 [.tree (.str erlW), .tree (.str s)] = some (.tree (.int .i64 (arE s)), [[], []]) := by
  cases h0 : (s == w_error) with
  | true =>
    have e := beq_iff_eq.1 h0
    subst e
    exact evalFn_mono hR 20 d hd _ _ _ rar_error
  | false =>
  cases h1 : (s == w_exit) with
  | true =>
    have e := beq_iff_eq.1 h1
    subst e
    exact evalFn_mono hR 20 d hd _ _ _ rar_exit
  | false =>
  cases h2 : (s == w_throw) with
  | true =>
    have e := beq_iff_eq.1 h2
    subst e
    exact evalFn_mono hR 20 d hd _ _ _ rar_throw
  | false =>
  cases h3 : (s == w_hd) with
  | true =>
    have e := beq_iff_eq.1 h3
    subst e
    exact evalFn_mono hR 20 d hd _ _ _ rar_hd
  | false =>
  cases h4 : (s == w_tl) with
  | true =>
    have e := beq_iff_eq.1 h4
    subst e
    exact evalFn_mono hR 20 d hd _ _ _ rar_tl
  | false =>
  cases h5 : (s == w_tuple_size) with
  | true =>
    have e := beq_iff_eq.1 h5
    subst e
    exact evalFn_mono hR 20 d hd _ _ _ rar_tuple_size
  | false =>
  cases h6 : (s == w_byte_size) with
  | true =>
    have e := beq_iff_eq.1 h6
    subst e
    exact evalFn_mono hR 20 d hd _ _ _ rar_byte_size
  | false =>
  cases h7 : (s == w_length) with
  | true =>
    have e := beq_iff_eq.1 h7
    subst e
    exact evalFn_mono hR 20 d hd _ _ _ rar_length
  | false =>
  cases h8 : (s == w_list_to_tuple) with
  | true =>
    have e := beq_iff_eq.1 h8
    subst e
    exact evalFn_mono hR 20 d hd _ _ _ rar_list_to_tuple
  | false =>
  cases h9 : (s == w_tuple_to_list) with
  | true =>
    have e := beq_iff_eq.1 h9
    subst e
    exact evalFn_mono hR 20 d hd _ _ _ rar_tuple_to_list
  | false =>
  cases h10 : (s == w_integer_to_list) with
  | true =>
    have e := beq_iff_eq.1 h10
    subst e
    exact evalFn_mono hR 20 d hd _ _ _ rar_integer_to_list
  | false =>
  cases h11 : (s == w_atom_to_list) with
  | true =>
    have e := beq_iff_eq.1 h11
    subst e
    exact evalFn_mono hR 20 d hd _ _ _ rar_atom_to_list
  | false =>
  cases h12 : (s == w_element) with
  | true =>
    have e := beq_iff_eq.1 h12
    subst e
    exact evalFn_mono hR 20 d hd _ _ _ rar_element
  | false =>
  cases h13 : (s == w_pp) with
  | true =>
    have e := beq_iff_eq.1 h13
    subst e
    exact evalFn_mono hR 20 d hd _ _ _ rar_pp
  | false =>
  cases h14 : (s == w_max) with
  | true =>
    have e := beq_iff_eq.1 h14
    subst e
    exact evalFn_mono hR 20 d hd _ _ _ rar_max
  | false =>
  cases h15 : (s == w_min) with
  | true =>
    have e := beq_iff_eq.1 h15
    subst e
    exact evalFn_mono hR 20 d hd _ _ _ rar_min
  | false =>
  cases h16 : (s == w_setelement) with
  | true =>
    have e := beq_iff_eq.1 h16
    subst e
    exact evalFn_mono hR 20 d hd _ _ _ rar_setelement
  | false =>
  obtain ⟨d', rfl⟩ : ∃ d', d = d' + 1 := ⟨d - 1, by omega⟩
  have e : arE s = -1 := by simp only [arE, h0, h1, h2, h3, h4, h5, h6, h7, h8, h9, h10, h11, h12, h13, h14, h15, h16, Bool.false_eq_true, if_false]
  rw [e]
  exact rar_none R d' s h0 h1 h2 h3 h4 h5 h6 h7 h8 h9 h10 h11 h12 h13 h14 h15 h16
theorem ral_eq (R d : Nat) (hR : 100000 ≤ R) (hd : 20 ≤ d) (s : List UInt8) : evalFn Tryz.prog cfg0 R d 41 [.tree (.str lisW), .tree (.str s)] = some (.tree (.int .i64 (arL s)), [[], []]) := by
  cases h0 : (s == w_reverse) with
  | true =>
    have e := beq_iff_eq.1 h0
    subst e
    exact evalFn_mono hR 20 d hd _ _ _ ral_reverse
  | false =>
  cases h1 : (s == w_member) with
  | true =>
    have e := beq_iff_eq.1 h1
    subst e
    exact evalFn_mono hR 20 d hd _ _ _ ral_member
  | false =>
  obtain ⟨d', rfl⟩ : ∃ d', d = d' + 1 := ⟨d - 1, by omega⟩
  have e : arL s = -1 := by simp only [arL, h0, h1, Bool.false_eq_true, if_false]
  rw [e]
  exact ral_none R d' s h0 h1
end Go.Ab

/- bif.Has, relictref19.Has of any strings: the same. Conditions: lengths in range. -/
namespace Go.Ab
open Go.Proofs
set_option maxRecDepth 100000
set_option linter.unusedSimpArgs false

def hasW (m s : List UInt8) (k : Int) : Bool := if m = erlW then decide (0 < k) && (arE s == k) else if m = lisW then decide (0 < k) && (arL s == k) else false
theorem has_e (s : List UInt8) (k : Int) : hasW erlW s k = (decide (0 < k) && (arE s == k)) := if_pos rfl
theorem has_l (s : List UInt8) (k : Int) : hasW lisW s k = (decide (0 < k) && (arL s == k)) := by unfold hasW; rw [if_neg (by decide), if_pos rfl]
theorem has_n (m s : List UInt8) (k : Int) (h1 : m ≠ erlW) (h2 : m ≠ lisW) : hasW m s k = false := by unfold hasW; rw [if_neg h1, if_neg h2]
theorem ite_ne0 (c : Bool) (a b : Int) (ha : (a == 0) = false) (hb : (b == 0) = false) : ((if c = true then a else b) == 0) = false := by
  cases c with
  | true => exact ha
  | false => exact hb
theorem arE_0 (s : List UInt8) : (arE s == 0) = false := by
  unfold arE
  repeat' (first | apply ite_ne0 | rfl)
theorem arL_0 (s : List UInt8) : (arL s == 0) = false := by
  unfold arL
  repeat' (first | apply ite_ne0 | rfl)
set_option maxHeartbeats 8000000 in
theorem bhas_eq (R d : Nat) (hR : 100000 ≤ R) (hd : 20 ≤ d) (m s : List UInt8) (k : Int) (hs : s.length ≤ 9000000000000000000) : evalFn Tryz.prog cfg0 R (d+1) 12 [.tree (.str m), .tree (.str s), .tree (.int .i64 k)] = some (.tree (.bool (hasW m s k)), [[], [], []]) := by
  rw [evalFn_go _ Tryz.func12 (by unfold Tryz.f12; rfl) (by unfold Tryz.f12; decide) (Nat.le_of_ble_eq_true (by unfold Tryz.f12; rfl)) (by kernel_rfl)]
  by_cases h1 : m = erlW
  · subst h1
    rw [has_e]
    have w1 : (erlW == ([101, 114, 108, 97, 110, 103] : List UInt8)) = true := by decide
    have ca := fun D st => callA_trees (cfg := cfg0) (d := D) (s := st) (f := 40) (vs := [.str erlW, .str s]) rfl (bar_eq R d hR hd s hs)
    by_cases h2 : k > 0
    · rw [decide_eq_true (show 0 < k from h2), Bool.true_and]
      simp only [simB, zbo, Nat.reduceBEq, own0, ↓reduceIte, Nat.reduceEqDiff, Nat.reduceAdd, simA, simL, simN, Nat.zero_add, zex, List.toList_toArray, len9, ix9, zey, zez, zfa, zfb, zfc, s_eqlS, w1, h2, ca, i_eqlV]
      exact finish_b _ _ _ _ _ _ _ (by simp only [zfr, ↓reduceIte, Nat.reduceEqDiff]; try rfl) rfl
    · rw [decide_eq_false (show ¬ 0 < k from h2), Bool.false_and]
      simp only [simB, zbo, Nat.reduceBEq, own0, ↓reduceIte, Nat.reduceEqDiff, Nat.reduceAdd, simA, simL, simN, Nat.zero_add, zex, List.toList_toArray, len9, ix9, zey, zez, zfa, zfb, zfc, s_eqlS, w1, h2]
      exact finish_b _ _ _ _ _ _ _ (by simp only [zfr, ↓reduceIte, Nat.reduceEqDiff]; try rfl) rfl
  have w1 : (m == ([101, 114, 108, 97, 110, 103] : List UInt8)) = false := beq_eq_false_iff_ne.mpr h1
  by_cases h3 : m = lisW
  · subst h3
    rw [has_l]
    have w2 : (lisW == ([108, 105, 115, 116, 115] : List UInt8)) = true := by decide
    have ca := fun D st => callA_trees (cfg := cfg0) (d := D) (s := st) (f := 40) (vs := [.str lisW, .str s]) rfl (bal_eq R d hR hd s hs)
    by_cases h2 : k > 0
    · rw [decide_eq_true (show 0 < k from h2), Bool.true_and]
      simp only [simB, zbo, Nat.reduceBEq, own0, ↓reduceIte, Nat.reduceEqDiff, Nat.reduceAdd, simA, simL, simN, Nat.zero_add, zex, List.toList_toArray, len9, ix9, zey, zez, zfa, zfb, zfc, s_eqlS, w1, w2, h2, ca, i_eqlV]
      exact finish_b _ _ _ _ _ _ _ (by simp only [zfr, ↓reduceIte, Nat.reduceEqDiff]; try rfl) rfl
    · rw [decide_eq_false (show ¬ 0 < k from h2), Bool.false_and]
      simp only [simB, zbo, Nat.reduceBEq, own0, ↓reduceIte, Nat.reduceEqDiff, Nat.reduceAdd, simA, simL, simN, Nat.zero_add, zex, List.toList_toArray, len9, ix9, zey, zez, zfa, zfb, zfc, s_eqlS, w1, w2, h2]
      exact finish_b _ _ _ _ _ _ _ (by simp only [zfr, ↓reduceIte, Nat.reduceEqDiff]; try rfl) rfl
  have w2 : (m == ([108, 105, 115, 116, 115] : List UInt8)) = false := beq_eq_false_iff_ne.mpr h3
  rw [has_n m s k h1 h3]
  simp only [simB, zbo, Nat.reduceBEq, own0, ↓reduceIte, Nat.reduceEqDiff, Nat.reduceAdd, simA, simL, simN, Nat.zero_add, zex, List.toList_toArray, len9, ix9, zey, zez, zfa, zfb, zfc, s_eqlS, w1, w2]
  exact finish_b _ _ _ _ _ _ _ (by simp only [zfr, ↓reduceIte, Nat.reduceEqDiff]; try rfl) rfl
set_option maxHeartbeats 8000000 in
theorem rhas_eq (R d : Nat) (hR : 100000 ≤ R) (hd : 20 ≤ d) (m s : List UInt8) (k : Int) : evalFn Tryz.prog cfg0 R (d+1) 13 [.tree (.str m), .tree (.str s), .tree (.int .i64 k)] = some (.tree (.bool (hasW m s k)), [[], [], []]) := by
  rw [evalFn_go _ Tryz.func13 (by unfold Tryz.f13; rfl) (by unfold Tryz.f13; decide) (Nat.le_of_ble_eq_true (by unfold Tryz.f13; rfl)) (by kernel_rfl)]
  have key : ∀ a : Int, (a == 0) = false → k ≥ 0 → (a == k) = (decide (0 < k) && (a == k)) := fun a ha hk => by
    by_cases h : 0 < k
    · rw [decide_eq_true h, Bool.true_and]
    · have : k = 0 := by omega
      subst this
      rw [ha, Bool.and_false]
  by_cases h1 : m = erlW
  · subst h1
    rw [has_e]
    have w1 : (erlW == ([101, 114, 108, 97, 110, 103] : List UInt8)) = true := by decide
    have ca := fun D st => callA_trees (cfg := cfg0) (d := D) (s := st) (f := 41) (vs := [.str erlW, .str s]) rfl (rar_eq R d hR hd s)
    by_cases h2 : k ≥ 0
    · rw [← key _ (arE_0 s) h2]
      simp only [simB, zbo, Nat.reduceBEq, own0, ↓reduceIte, Nat.reduceEqDiff, Nat.reduceAdd, simA, simL, simN, Nat.zero_add, zex, List.toList_toArray, len9, ix9, zey, zez, zfa, zfb, zfc, s_eqlS, w1, h2, ca, i_eqlV]
      exact finish_b _ _ _ _ _ _ _ (by simp only [zfr, ↓reduceIte, Nat.reduceEqDiff]; try rfl) rfl
    · rw [decide_eq_false (show ¬ 0 < k by omega), Bool.false_and]
      simp only [simB, zbo, Nat.reduceBEq, own0, ↓reduceIte, Nat.reduceEqDiff, Nat.reduceAdd, simA, simL, simN, Nat.zero_add, zex, List.toList_toArray, len9, ix9, zey, zez, zfa, zfb, zfc, s_eqlS, w1, h2]
      exact finish_b _ _ _ _ _ _ _ (by simp only [zfr, ↓reduceIte, Nat.reduceEqDiff]; try rfl) rfl
  have w1 : (m == ([101, 114, 108, 97, 110, 103] : List UInt8)) = false := beq_eq_false_iff_ne.mpr h1
  by_cases h3 : m = lisW
  · subst h3
    rw [has_l]
    have w2 : (lisW == ([108, 105, 115, 116, 115] : List UInt8)) = true := by decide
    have ca := fun D st => callA_trees (cfg := cfg0) (d := D) (s := st) (f := 41) (vs := [.str lisW, .str s]) rfl (ral_eq R d hR hd s)
    by_cases h2 : k ≥ 0
    · rw [← key _ (arL_0 s) h2]
      simp only [simB, zbo, Nat.reduceBEq, own0, ↓reduceIte, Nat.reduceEqDiff, Nat.reduceAdd, simA, simL, simN, Nat.zero_add, zex, List.toList_toArray, len9, ix9, zey, zez, zfa, zfb, zfc, s_eqlS, w1, w2, h2, ca, i_eqlV]
      exact finish_b _ _ _ _ _ _ _ (by simp only [zfr, ↓reduceIte, Nat.reduceEqDiff]; try rfl) rfl
    · rw [decide_eq_false (show ¬ 0 < k by omega), Bool.false_and]
      simp only [simB, zbo, Nat.reduceBEq, own0, ↓reduceIte, Nat.reduceEqDiff, Nat.reduceAdd, simA, simL, simN, Nat.zero_add, zex, List.toList_toArray, len9, ix9, zey, zez, zfa, zfb, zfc, s_eqlS, w1, w2, h2]
      exact finish_b _ _ _ _ _ _ _ (by simp only [zfr, ↓reduceIte, Nat.reduceEqDiff]; try rfl) rfl
  have w2 : (m == ([108, 105, 115, 116, 115] : List UInt8)) = false := beq_eq_false_iff_ne.mpr h3
  rw [has_n m s k h1 h3]
  simp only [simB, zbo, Nat.reduceBEq, own0, ↓reduceIte, Nat.reduceEqDiff, Nat.reduceAdd, simA, simL, simN, Nat.zero_add, zex, List.toList_toArray, len9, ix9, zey, zez, zfa, zfb, zfc, s_eqlS, w1, w2]
  exact finish_b _ _ _ _ _ _ _ (by simp only [zfr, ↓reduceIte, Nat.reduceEqDiff]; try rfl) rfl
end Go.Ab

/- bif.Call by what bif.answer answers (CFG4). Conditions: so many nodes at most. -/
namespace Go.Ab
open Go.Proofs
set_option maxRecDepth 100000
set_option linter.unusedSimpArgs false

def gotoV (x : Option Out) : AV → Option Out
  | .rptr _ => x
  | _ => none
theorem den_gotoV {P : Program} {cfg : Cfg} {call : FuncId → List Arg → Option Out} {n : Nat} (t : Nat) (K : Kont) (env : Env) (s : St) : den P cfg call n (.goto t) K env s = gotoV (K .normal env s) (env t) := by
  simp only [den]; cases env t <;> rfl
theorem gotoV_r (x : Option Out) (xs : List AV) : gotoV x (.rptr xs) = x := rfl
def sUndefW : List UInt8 := [117, 110, 100, 101, 102]
theorem okTreeW (us : List T) (g : Grip) (hg : g.isTok = false) : isTree (.sl (cellsK us) us.length g) = true := by cases g <;> first | rfl | cases hg
theorem opA_three64W (call : FuncId → List Arg → Option Out) (q : Bool) (d : Option Tmp) (ty : TypeId) (pos : String) (af : Array Edge) (g : Option (Nat × Bool)) (t : Nat) (env : Env) (s : St) (x1 x2 x3 : Operand) :
    opA Tryz.prog cfg4 call q ⟨d, .buildSlice 59 3 #[(0, x1), (1, x2), (2, x3)], ty, pos, af, g⟩ t env s = (three64 (ev env x1) (ev env x2) (ev env x3)).map (·, s) := by
  rw [opA_bs]
  simp only [tk64, esz9, zero9, Option.bind_some, List.map_cons, List.map_nil]
  rfl
theorem bdE_g (x : List UInt8) (r : T) : buildA Tryz.prog 31 [(0, .str x), (1, .agg (cellsT r))] = some (.agg (.str x :: cellsT r)) := by
  obtain ⟨k, b, lg, l, s, m, kg, ks⟩ := r
  simp only [buildA, zeroE, tkE, plE, Option.bind_some, cellsT]
  cases lg <;> cases kg <;> rfl
def errG (x : List UInt8) (r : T) : List AV := .str x :: cellsT r
theorem errG_len (x : List UInt8) (r : T) : (errG x r).length = 7 := by simp only [errG, List.length_cons, cellsT_len]
theorem bdE_gg (x : List UInt8) (r : T) : buildA Tryz.prog 31 [(0, .str x), (1, .agg (cellsT r))] = some (.agg (errG x r)) := bdE_g x r
theorem st_EG (s : St) (p k : Nat) (x : List UInt8) (r : T) : storeA Tryz.prog 31 s (.ptr p k 0) (.agg (errG x r)) = stT (s p) p k s (errG x r) := st_Eg _ _ _ _ (errG_len x r)
theorem stE_G (t k p : Nat) (s : St) (x : List UInt8) (r : T) : stT ⟨t, .buf zErr⟩ p k s (errG x r) = if t = k then some (upd s p ⟨t, .buf (errG x r)⟩) else none := by
  have h := errG_len x r
  have h3 : splice zErr 0 (errG x r) = errG x r := by
    simp only [splice, List.take_zero, List.nil_append, Nat.zero_add, h]
    rw [List.drop_eq_nil_of_le (by simp [zErr]), List.append_nil]
  have h4 : zErr.length = 7 := rfl
  simp only [stT, h, h4, Nat.le_refl, ↓reduceIte, h3]
section
variable (n d : Nat) (m s : List UInt8) (us : List T) (g : Grip) (hg : g.isTok = false) (hs : s.length ≤ 9000000000000000000)
include hg hs
omit hg in
set_option maxHeartbeats 8000000 in
theorem callU_undef (hh : hasW m s us.length = false) : evalFn Tryz.prog cfg4 n (d+2) 8 [.tree (.str m), .tree (.str s), .tree (.sl (cellsK us) us.length g)] = some (.tree (.tup [encT T0, .agg (errG sErrW (atomT sUndefW)), .bool false]), [[], [], []]) := by
  have h1 := bhas_eq 9223372036854775808 6189 (by decide) (by decide) m s (us.length : Int) hs
  rw [hh] at h1
  have c1 := fun D st => callA_trees (cfg := cfg4) (d := D) (s := st) (f := 12) (vs := [.str m, .str s, .int .i64 (us.length : Int)]) rfl (ev4 (n := n) (d := d) rfl rfl h1)
  have c4 := fun D st => callA_trees (cfg := cfg4) (d := D) (s := st) (f := 29) (vs := [.str sUndefW]) rfl (ev4 (n := n) (d := d) rfl rfl (atom_eq 9223372036854775808 6189 sUndefW))
  rw [evalFn_goP _ Tryz.func8 (by unfold Tryz.f8; rfl) (by unfold Tryz.f8; decide) (Nat.le_of_ble_eq_true (by unfold Tryz.f8; rfl)) (by kernel_rfl)]
  simp only [encT] at c4
  simp only [sUndefW] at c4
  have b2 := bdE_gg sErrW (atomT sUndefW)
  have hst := fun st p k => st_EG st p k sErrW (atomT sUndefW)
  have hst2 := fun t k p st => stE_G t k p st sErrW (atomT sUndefW)
  simp only [sErrW, sUndefW] at b2 hst hst2
  simp only [simP, simB, keep4, Nat.reduceBEq, own4, String.reduceAppend, String.reduceBEq, Bool.or_false, Bool.or_true, Bool.or_self, ↓reduceIte, Nat.reduceEqDiff, Nat.reduceAdd, simA, simL, simN, Nat.zero_add, zex, List.toList_toArray, len9, ix9, zey, zez, zfa, zfb, zfc, zeroT, zeroE, lenTk, c1, c4, unA_not', Bool.not_true, Bool.not_false, zdu, ldT_u, bdT_00, b2, st_Tt, stT_6, hst, hst2]
  exact finish_T3g _ _ _ _ _ T0 _ _ _ _ _ _ _ _ (errG sErrW (atomT sUndefW)) rfl (by simp only [zfr, ↓reduceIte, Nat.reduceEqDiff]; try rfl) (by simp only [zfr, ↓reduceIte, Nat.reduceEqDiff]; try rfl) (by simp only [zfr, ↓reduceIte, Nat.reduceEqDiff]; try rfl) (by simp only [zfr, ↓reduceIte, Nat.reduceEqDiff]; try rfl) (by simp only [zfr, ↓reduceIte, Nat.reduceEqDiff]; try rfl) rfl
omit hg in
set_option maxHeartbeats 8000000 in
theorem callU_thrown (t : T) (r : List T) (hm : m = erlW) (hus : us = t :: r) (hh : hasW m s us.length = true) (hc : evalFn Tryz.prog cfg0 100000 20 33 [.tree (.sl throws 3 .tight), .tree (.str s)] = some (.tree (.bool true), [[], []])) : evalFn Tryz.prog cfg4 n (d+2) 8 [.tree (.str m), .tree (.str s), .tree (.sl (cellsK us) us.length g)] = some (.tree (.tup [encT T0, .agg (errG s t), .bool false]), [[], [], []]) := by
  have h1 := bhas_eq 9223372036854775808 6189 (by decide) (by decide) m s (us.length : Int) hs
  rw [hh] at h1
  have c1 := fun D st => callA_trees (cfg := cfg4) (d := D) (s := st) (f := 12) (vs := [.str m, .str s, .int .i64 (us.length : Int)]) rfl (ev4 (n := n) (d := d) rfl rfl h1)
  have c2 := fun D st => callA_trees (cfg := cfg4) (d := D) (s := st) (f := 33) (vs := [.sl throws 3 .tight, .str s]) rfl (ev4 (n := n) (d := d) rfl rfl (evalFn_mono (by decide) 20 6190 (by decide) _ _ _ hc))
  have ia : ∀ st : St, indexAddrA Tryz.prog 22 st (.sl (cellsK (t :: r)) (t :: r).length g) (.int .i64 0) = some (.rptr (cellsK (t :: r))) := fun st => ia_K st (t :: r) g 0 (Nat.zero_lt_succ _)
  have ld := fun st => ld_KW st t r
  have w5 : (m == ([101, 114, 108, 97, 110, 103] : List UInt8)) = true := by rw [hm]; decide
  rw [evalFn_goP _ Tryz.func8 (by unfold Tryz.f8; rfl) (by unfold Tryz.f8; decide) (Nat.le_of_ble_eq_true (by unfold Tryz.f8; rfl)) (by kernel_rfl)]
  simp only [throws] at c2
  rw [hus] at c1 ⊢
  simp only [simP, simB, keep4, Nat.reduceBEq, own4, String.reduceAppend, String.reduceBEq, Bool.or_false, Bool.or_true, Bool.or_self, ↓reduceIte, Nat.reduceEqDiff, Nat.reduceAdd, simA, simL, simN, Nat.zero_add, zex, List.toList_toArray, len9, ix9, zey, zez, zfa, zfb, zfc, zeroT, zeroE, lenTk, c1, s_eqlS, w5, opA_three64W, three64_str, c2, unA_not', Bool.not_true, Bool.not_false, ia, ld, bdT_00, bdE_gg, st_Tt, stT_6, st_EG, stE_G]
  rw [prune_L (c := .seq (.goto 30) (.seq (.goto 30) .skip)) (by rfl) (by rfl)]
  simp only [simB, keep4, Nat.reduceBEq, own4, String.reduceAppend, String.reduceBEq, Bool.or_false, Bool.or_true, Bool.or_self, ↓reduceIte, Nat.reduceEqDiff, Nat.reduceAdd, simA, simL, simN, Nat.zero_add, zex, List.toList_toArray, len9, ix9, zey, zez, zfa, zfb, zfc, den_gotoV, gotoV_r, zeroT, zeroE, lenTk, ia, ld, bdT_00, bdE_gg, st_Tt, stT_6, st_EG, stE_G]
  exact finish_T3g _ _ _ _ _ T0 _ _ _ _ _ _ _ _ (errG s t) (errG_len s t) (by simp only [zfr, ↓reduceIte, Nat.reduceEqDiff]; try rfl) (by simp only [zfr, ↓reduceIte, Nat.reduceEqDiff]; try rfl) (by simp only [zfr, ↓reduceIte, Nat.reduceEqDiff]; try rfl) (by simp only [zfr, ↓reduceIte, Nat.reduceEqDiff]; try rfl) (by simp only [zfr, ↓reduceIte, Nat.reduceEqDiff]; try rfl) rfl
set_option maxHeartbeats 8000000 in
theorem callU_bad (u : T) (hh : hasW m s us.length = true) (hc : m ≠ erlW ∨ evalFn Tryz.prog cfg0 100000 20 33 [.tree (.sl throws 3 .tight), .tree (.str s)] = some (.tree (.bool false), [[], []]))
    (ha : evalFn Tryz.prog cfg4 n (d+1) 34 [.tree (.str s), .tree (.sl (cellsK us) us.length g)] = some (.tree (.tup [encT u, .bool false]), [[], []])) : evalFn Tryz.prog cfg4 n (d+2) 8 [.tree (.str m), .tree (.str s), .tree (.sl (cellsK us) us.length g)] = some (.tree (.tup [encT T0, .agg (errG sErrW (atomT sBad)), .bool false]), [[], [], []]) := by
  have h1 := bhas_eq 9223372036854775808 6189 (by decide) (by decide) m s (us.length : Int) hs
  rw [hh] at h1
  have hT := okTreeW us g hg
  have c1 := fun D st => callA_trees (cfg := cfg4) (d := D) (s := st) (f := 12) (vs := [.str m, .str s, .int .i64 (us.length : Int)]) rfl (ev4 (n := n) (d := d) rfl rfl h1)
  have c3 := fun D st => callA_trees (cfg := cfg4) (d := D) (s := st) (f := 34) (vs := [.str s, .sl (cellsK us) us.length g]) (by simp only [List.all_cons, hT]; rfl) ha
  have c4 := fun D st => callA_trees (cfg := cfg4) (d := D) (s := st) (f := 29) (vs := [.str sBad]) rfl (ev4 (n := n) (d := d) rfl rfl (atom_eq 9223372036854775808 6189 sBad))
  rw [evalFn_goP _ Tryz.func8 (by unfold Tryz.f8; rfl) (by unfold Tryz.f8; decide) (Nat.le_of_ble_eq_true (by unfold Tryz.f8; rfl)) (by kernel_rfl)]
  simp only [encT] at c3 c4
  simp only [sBad] at c4
  have b2 := bdE_gg sErrW (atomT sBad)
  have hst := fun st p k => st_EG st p k sErrW (atomT sBad)
  have hst2 := fun t k p st => stE_G t k p st sErrW (atomT sBad)
  simp only [sErrW, sBad] at b2 hst hst2
  by_cases hm : m = erlW
  · have hc' := hc.resolve_left (fun h => h hm)
    have c2 := fun D st => callA_trees (cfg := cfg4) (d := D) (s := st) (f := 33) (vs := [.sl throws 3 .tight, .str s]) rfl (ev4 (n := n) (d := d) rfl rfl (evalFn_mono (by decide) 20 6190 (by decide) _ _ _ hc'))
    simp only [throws] at c2
    have w5 : (m == ([101, 114, 108, 97, 110, 103] : List UInt8)) = true := by rw [hm]; decide
    simp only [simP, simB, keep4, Nat.reduceBEq, own4, String.reduceAppend, String.reduceBEq, Bool.or_false, Bool.or_true, Bool.or_self, ↓reduceIte, Nat.reduceEqDiff, Nat.reduceAdd, simA, simL, simN, Nat.zero_add, zex, List.toList_toArray, len9, ix9, zey, zez, zfa, zfb, zfc, zeroT, zeroE, lenTk, c1, s_eqlS, w5, opA_three64W, three64_str, c2, c3, c4, unA_not', Bool.not_true, Bool.not_false, zdu, ldT_u, bdT_00, b2, st_Tt, stT_6, hst, hst2]
    exact finish_T3g _ _ _ _ _ T0 _ _ _ _ _ _ _ _ (errG sErrW (atomT sBad)) rfl (by simp only [zfr, ↓reduceIte, Nat.reduceEqDiff]; try rfl) (by simp only [zfr, ↓reduceIte, Nat.reduceEqDiff]; try rfl) (by simp only [zfr, ↓reduceIte, Nat.reduceEqDiff]; try rfl) (by simp only [zfr, ↓reduceIte, Nat.reduceEqDiff]; try rfl) (by simp only [zfr, ↓reduceIte, Nat.reduceEqDiff]; try rfl) rfl
  · have w5 : (m == ([101, 114, 108, 97, 110, 103] : List UInt8)) = false := beq_eq_false_iff_ne.mpr hm
    simp only [simP, simB, keep4, Nat.reduceBEq, own4, String.reduceAppend, String.reduceBEq, Bool.or_false, Bool.or_true, Bool.or_self, ↓reduceIte, Nat.reduceEqDiff, Nat.reduceAdd, simA, simL, simN, Nat.zero_add, zex, List.toList_toArray, len9, ix9, zey, zez, zfa, zfb, zfc, zeroT, zeroE, lenTk, c1, s_eqlS, w5, opA_three64W, three64_str, c3, c4, unA_not', Bool.not_true, Bool.not_false, zdu, ldT_u, bdT_00, b2, st_Tt, stT_6, hst, hst2]
    exact finish_T3g _ _ _ _ _ T0 _ _ _ _ _ _ _ _ (errG sErrW (atomT sBad)) rfl (by simp only [zfr, ↓reduceIte, Nat.reduceEqDiff]; try rfl) (by simp only [zfr, ↓reduceIte, Nat.reduceEqDiff]; try rfl) (by simp only [zfr, ↓reduceIte, Nat.reduceEqDiff]; try rfl) (by simp only [zfr, ↓reduceIte, Nat.reduceEqDiff]; try rfl) (by simp only [zfr, ↓reduceIte, Nat.reduceEqDiff]; try rfl) rfl
set_option maxHeartbeats 8000000 in
theorem callU_ok (u : T) (hn : nodT u ≤ 2000) (hh : hasW m s us.length = true) (hc : m ≠ erlW ∨ evalFn Tryz.prog cfg0 100000 20 33 [.tree (.sl throws 3 .tight), .tree (.str s)] = some (.tree (.bool false), [[], []]))
    (ha : evalFn Tryz.prog cfg4 n (d+1) 34 [.tree (.str s), .tree (.sl (cellsK us) us.length g)] = some (.tree (.tup [encT u, .bool true]), [[], []])) : evalFn Tryz.prog cfg4 n (d+2) 8 [.tree (.str m), .tree (.str s), .tree (.sl (cellsK us) us.length g)] = some (.tree (.tup [encT u, .agg zErr, .bool true]), [[], [], []]) := by
  have h1 := bhas_eq 9223372036854775808 6189 (by decide) (by decide) m s (us.length : Int) hs
  rw [hh] at h1
  have hT := okTreeW us g hg
  have c1 := fun D st => callA_trees (cfg := cfg4) (d := D) (s := st) (f := 12) (vs := [.str m, .str s, .int .i64 (us.length : Int)]) rfl (ev4 (n := n) (d := d) rfl rfl h1)
  have c3 := fun D st => callA_trees (cfg := cfg4) (d := D) (s := st) (f := 34) (vs := [.str s, .sl (cellsK us) us.length g]) (by simp only [List.all_cons, hT]; rfl) ha
  have c4 := fun D st => callA_trees (cfg := cfg4) (d := D) (s := st) (f := 35) (vs := [encT u]) rfl (ev4 (n := n) (d := d) rfl rfl (evalFn_mono (show 1000000 ≤ 9223372036854775808 by decide) 6190 6190 (Nat.le_refl _) _ _ _ (tNodes_eq 1000000 (Nat.le_refl _) 6190 u (by have := ht_nod u; omega) (by omega))))
  rw [evalFn_goP _ Tryz.func8 (by unfold Tryz.f8; rfl) (by unfold Tryz.f8; decide) (Nat.le_of_ble_eq_true (by unfold Tryz.f8; rfl)) (by kernel_rfl)]
  simp only [encT] at c3 c4
  have q1 : ¬ ((nodT u : Int) > 2000) := by omega
  by_cases hm : m = erlW
  · have hc' := hc.resolve_left (fun h => h hm)
    have c2 := fun D st => callA_trees (cfg := cfg4) (d := D) (s := st) (f := 33) (vs := [.sl throws 3 .tight, .str s]) rfl (ev4 (n := n) (d := d) rfl rfl (evalFn_mono (by decide) 20 6190 (by decide) _ _ _ hc'))
    simp only [throws] at c2
    have w5 : (m == ([101, 114, 108, 97, 110, 103] : List UInt8)) = true := by rw [hm]; decide
    simp only [simP, simB, keep4, Nat.reduceBEq, own4, String.reduceAppend, String.reduceBEq, Bool.or_false, Bool.or_true, Bool.or_self, ↓reduceIte, Nat.reduceEqDiff, Nat.reduceAdd, simA, simL, simN, Nat.zero_add, zex, List.toList_toArray, len9, ix9, zey, zez, zfa, zfb, zfc, zeroT, zeroE, lenTk, c1, s_eqlS, w5, opA_three64W, three64_str, c2, c3, c4, unA_not', Bool.not_true, Bool.not_false, zdu, q1, ldT_u, bdE_, st_Tt, stT_6, st_E, stE_z]
    exact finish_T3 _ _ _ _ _ u _ _ _ _ _ _ _ _ (by simp only [zfr, ↓reduceIte, Nat.reduceEqDiff]; try rfl) (by simp only [zfr, ↓reduceIte, Nat.reduceEqDiff]; try rfl) (by simp only [zfr, ↓reduceIte, Nat.reduceEqDiff]; try rfl) (by simp only [zfr, ↓reduceIte, Nat.reduceEqDiff]; try rfl) (by simp only [zfr, ↓reduceIte, Nat.reduceEqDiff]; try rfl) rfl
  · have w5 : (m == ([101, 114, 108, 97, 110, 103] : List UInt8)) = false := beq_eq_false_iff_ne.mpr hm
    simp only [simP, simB, keep4, Nat.reduceBEq, own4, String.reduceAppend, String.reduceBEq, Bool.or_false, Bool.or_true, Bool.or_self, ↓reduceIte, Nat.reduceEqDiff, Nat.reduceAdd, simA, simL, simN, Nat.zero_add, zex, List.toList_toArray, len9, ix9, zey, zez, zfa, zfb, zfc, zeroT, zeroE, lenTk, c1, s_eqlS, w5, opA_three64W, three64_str, c3, c4, unA_not', Bool.not_true, Bool.not_false, zdu, q1, ldT_u, bdE_, st_Tt, stT_6, st_E, stE_z]
    exact finish_T3 _ _ _ _ _ u _ _ _ _ _ _ _ _ (by simp only [zfr, ↓reduceIte, Nat.reduceEqDiff]; try rfl) (by simp only [zfr, ↓reduceIte, Nat.reduceEqDiff]; try rfl) (by simp only [zfr, ↓reduceIte, Nat.reduceEqDiff]; try rfl) (by simp only [zfr, ↓reduceIte, Nat.reduceEqDiff]; try rfl) (by simp only [zfr, ↓reduceIte, Nat.reduceEqDiff]; try rfl) rfl
end
end Go.Ab

/- bif.one of any term, by its name (printed by genones.py). Conditions: lengths in range. -/
namespace Go.Ab
open Go.Proofs
set_option maxRecDepth 100000
set_option linter.unusedSimpArgs false

theorem bidx_hd : evalFn Tryz.prog cfg0 100000 20 61 [.tree (.sl five 5 .tight), .tree (.str w_hd)] = some (.tree (.int .i64 0), [[], []]) := by kernel_rfl
theorem bidx_tl : evalFn Tryz.prog cfg0 100000 20 61 [.tree (.sl five 5 .tight), .tree (.str w_tl)] = some (.tree (.int .i64 1), [[], []]) := by kernel_rfl
theorem bidx_tuple_size : evalFn Tryz.prog cfg0 100000 20 61 [.tree (.sl five 5 .tight), .tree (.str w_tuple_size)] = some (.tree (.int .i64 2), [[], []]) := by kernel_rfl
theorem bidx_byte_size : evalFn Tryz.prog cfg0 100000 20 61 [.tree (.sl five 5 .tight), .tree (.str w_byte_size)] = some (.tree (.int .i64 3), [[], []]) := by kernel_rfl
theorem bidx_length : evalFn Tryz.prog cfg0 100000 20 61 [.tree (.sl five 5 .tight), .tree (.str w_length)] = some (.tree (.int .i64 4), [[], []]) := by kernel_rfl
theorem bidx_list_to_tuple : evalFn Tryz.prog cfg0 100000 20 61 [.tree (.sl five 5 .tight), .tree (.str w_list_to_tuple)] = some (.tree (.int .i64 (-1)), [[], []]) := by kernel_rfl
theorem bidx_tuple_to_list : evalFn Tryz.prog cfg0 100000 20 61 [.tree (.sl five 5 .tight), .tree (.str w_tuple_to_list)] = some (.tree (.int .i64 (-1)), [[], []]) := by kernel_rfl
theorem bidx_integer_to_list : evalFn Tryz.prog cfg0 100000 20 61 [.tree (.sl five 5 .tight), .tree (.str w_integer_to_list)] = some (.tree (.int .i64 (-1)), [[], []]) := by kernel_rfl
theorem bidx_atom_to_list : evalFn Tryz.prog cfg0 100000 20 61 [.tree (.sl five 5 .tight), .tree (.str w_atom_to_list)] = some (.tree (.int .i64 (-1)), [[], []]) := by kernel_rfl
theorem itemsV_tup (o : Option (List T)) : ∃ x b, itemsV o = .tup [x, .bool b] := by
  cases o with
  | none => exact ⟨_, _, rfl⟩
  | some l => exact ⟨_, _, rfl⟩
set_option maxHeartbeats 4000000 in
theorem bone_idx (R d : Nat) (hR : 100000 ≤ R) (hd : 20 ≤ d) (name : List UInt8) (k : Nat) (hk : k ≤ 4) (hn : isRev [.tree (.str name), .tree (.bool true)] = false) (hx : evalFn Tryz.prog cfg0 100000 20 61 [.tree (.sl five 5 .tight), .tree (.str name)] = some (.tree (.int .i64 (k : Int)), [[], []]))
    (t : T) (h1 : nodT t ≤ 1999) (h2 : (kidsT t).length ≤ 1000000) (h3 : (strT t).length ≤ 1000000) : evalFn Tryz.prog cfg0 R (d+1) 62 [.tree (.str name), .tree (encT t)] = some (.tree (.tup [encT (oneT smallT ((k + 1 : Nat) : Int) t).1, .bool (oneT smallT ((k + 1 : Nat) : Int) t).2]), [[], []]) := by
  have hpr : cfg0.prim 62 [.tree (.str name), .tree (encT t)] = none := by
    have hc : cfg0.prim = prim0 := rfl
    rw [hc]
    unfold prim0
    rw [if_neg (by decide), if_neg (by decide), if_neg (by rw [Bool.and_eq_true]; intro h; have := h.2; simp only [isRev] at this hn; rw [hn] at this; cases this)]
  rw [evalFn_go _ Tryz.func62 (by unfold Tryz.f62; rfl) (by unfold Tryz.f62; decide) (Nat.le_of_ble_eq_true (by unfold Tryz.f62; rfl)) (by kernel_rfl) hpr]
  have ci := fun D st => callA_trees (cfg := cfg0) (d := D) (s := st) (f := 61) (vs := [.sl five 5 .tight, .str name]) rfl (evalFn_mono (show 100000 ≤ R by omega) 20 d (by omega) _ _ _ hx)
  simp only [five] at ci
  obtain ⟨d', rfl⟩ : ∃ d', d = d' + 6 := ⟨d - 6, by omega⟩
  have q1 : ((k : Int) ≥ 0) := by omega
  have f5 := i_add Tryz.prog 3 (k : Int) 1 (by omega) (by omega)
  rw [show (k : Int) + 1 = ((k + 1 : Nat) : Int) by omega] at f5
  have ct := fun D st => callA_trees (cfg := cfg0) (d := D) (s := st) (f := 23) (vs := [.int .i64 ((k + 1 : Nat) : Int), encT t]) rfl (oneA_eq R d' hR _ t h1 h2 h3)
  simp only [encT] at ct
  simp only [simB, zbo, Nat.reduceBEq, own0, ↓reduceIte, Nat.reduceEqDiff, Nat.reduceAdd, simA, simL, simN, Nat.zero_add, zex, List.toList_toArray, len9, ix9, zey, zez, zfa, zfb, zfc, zeroT, encT, opA_five64, five64_str, ci, q1, f5, ldT_u, ct, zdu, st_Tt, stT_6]
  exact finish_T2 _ _ _ _ _ (oneT smallT ((k + 1 : Nat) : Int) t).1 _ _ _ _ _ (by simp only [zfr, ↓reduceIte, Nat.reduceEqDiff]; try rfl) (by simp only [zfr, ↓reduceIte, Nat.reduceEqDiff]; try rfl) (by simp only [zfr, ↓reduceIte, Nat.reduceEqDiff]; try rfl) rfl

def l2tT (mk : List T → T) (t : T) : T × Bool := match itemsT t with
  | some us => if us.length ≤ 40 then (mk us, true) else (T0, false)
  | none => (T0, false)
def t2lT (t : T) : T × Bool := if kindT t = 5 then (listT (kidsT t) nilT', true) else (T0, false)
def itlT (g : List UInt8 → List T) (t : T) : T × Bool := if kindT t = 1 then (listT (g (textZ (zOfT t))) nilT', true) else (T0, false)
def atlT (g : List UInt8 → List T) (t : T) : T × Bool := if kindT t = 2 then (listT (g (strT t)) nilT', true) else (T0, false)
theorem l2t_yes (mk : List T → T) (t : T) (us : List T) (h : itemsT t = some us) (hl : us.length ≤ 40) : l2tT mk t = (mk us, true) := by unfold l2tT; rw [h]; exact if_pos hl
theorem l2t_no (mk : List T → T) (t : T) (us : List T) (h : itemsT t = some us) (hl : ¬ us.length ≤ 40) : l2tT mk t = (T0, false) := by unfold l2tT; rw [h]; exact if_neg hl
theorem l2t_none (mk : List T → T) (t : T) (h : itemsT t = none) : l2tT mk t = (T0, false) := by unfold l2tT; rw [h]
theorem t2l_yes (t : T) (h : kindT t = 5) : t2lT t = (listT (kidsT t) nilT', true) := if_pos h
theorem t2l_no (t : T) (h : kindT t ≠ 5) : t2lT t = (T0, false) := if_neg h
theorem itl_yes (g : List UInt8 → List T) (t : T) (h : kindT t = 1) : itlT g t = (listT (g (textZ (zOfT t))) nilT', true) := if_pos h
theorem itl_no (g : List UInt8 → List T) (t : T) (h : kindT t ≠ 1) : itlT g t = (T0, false) := if_neg h
theorem atl_yes (g : List UInt8 → List T) (t : T) (h : kindT t = 2) : atlT g t = (listT (g (strT t)) nilT', true) := if_pos h
theorem atl_no (g : List UInt8 → List T) (t : T) (h : kindT t ≠ 2) : atlT g t = (T0, false) := if_neg h

set_option maxHeartbeats 8000000 in
theorem bone_list_to_tuple (R d : Nat) (hR : 100000 ≤ R) (hd : 20 ≤ d) (t : T) : evalFn Tryz.prog cfg0 R (d+1) 62 [.tree (.str w_list_to_tuple), .tree (encT t)] = some (.tree (.tup [encT (l2tT tupJ t).1, .bool (l2tT tupJ t).2]), [[], []]) := by
  rw [evalFn_go _ Tryz.func62 (by unfold Tryz.f62; rfl) (by unfold Tryz.f62; decide) (Nat.le_of_ble_eq_true (by unfold Tryz.f62; rfl)) (by kernel_rfl)]
  have w0 : (w_list_to_tuple == ([108, 105, 115, 116, 95, 116, 111, 95, 116, 117, 112, 108, 101] : List UInt8)) = true := by decide
  have w1 : (w_list_to_tuple == ([114, 101, 118, 101, 114, 115, 101] : List UInt8)) = false := by decide
  have w2 : (w_list_to_tuple == ([116, 117, 112, 108, 101, 95, 116, 111, 95, 108, 105, 115, 116] : List UInt8)) = false := by decide
  have w3 : (w_list_to_tuple == ([105, 110, 116, 101, 103, 101, 114, 95, 116, 111, 95, 108, 105, 115, 116] : List UInt8)) = false := by decide
  have w4 : (w_list_to_tuple == ([97, 116, 111, 109, 95, 116, 111, 95, 108, 105, 115, 116] : List UInt8)) = false := by decide
  have ci := fun D st => callA_trees (cfg := cfg0) (d := D) (s := st) (f := 61) (vs := [.sl five 5 .tight, .str w_list_to_tuple]) rfl (evalFn_mono (show 100000 ≤ R by omega) 20 d (by omega) _ _ _ bidx_list_to_tuple)
  simp only [five] at ci
  obtain ⟨d', rfl⟩ : ∃ d', d = d' + 6 := ⟨d - 6, by omega⟩
  have ct := fun D st => callA_trees (cfg := cfg0) (d := D) (s := st) (f := 53) (vs := [encT t]) rfl (items_eq R (by omega) (d'+5) t)
  have q1 : ¬ ((-1 : Int) ≥ 0) := by decide
  cases hI : itemsT t with
  | none =>
    rw [hI] at ct
    simp only [encT, itemsV] at ct
    rw [l2t_none tupJ t hI]
    simp only [simB, zbo, Nat.reduceBEq, own0, ↓reduceIte, Nat.reduceEqDiff, Nat.reduceAdd, simA, simL, simN, Nat.zero_add, zex, List.toList_toArray, len9, ix9, zey, zez, zfa, zfb, zfc, zeroT, encT, opA_five64, five64_str, ci, q1, ct, ldT_u, s_eqlS, w0, w1, w2, w3, w4, lenTk, zdu, bdT_00, st_Tt, stT_6]
    exact finish_T2 _ _ _ _ _ (T0) _ _ _ _ _ (by simp only [zfr, ↓reduceIte, Nat.reduceEqDiff]; try rfl) (by simp only [zfr, ↓reduceIte, Nat.reduceEqDiff]; try rfl) (by simp only [zfr, ↓reduceIte, Nat.reduceEqDiff]; try rfl) rfl
  | some us =>
    rw [hI] at ct
    simp only [encT, itemsV] at ct
    by_cases hl : us.length ≤ 40
    · have q2 : (us.length : Int) ≤ 40 := by omega
      rw [l2t_yes tupJ t us hI hl]
      simp only [simB, zbo, Nat.reduceBEq, own0, ↓reduceIte, Nat.reduceEqDiff, Nat.reduceAdd, simA, simL, simN, Nat.zero_add, zex, List.toList_toArray, len9, ix9, zey, zez, zfa, zfb, zfc, zeroT, encT, opA_five64, five64_str, ci, q1, ct, ldT_u, s_eqlS, w0, w1, w2, w3, w4, lenTk, zdu, bdT_00, st_Tt, stT_6, q2, bdT_tup]
      exact finish_T2 _ _ _ _ _ (tupJ us) _ _ _ _ _ (by simp only [zfr, ↓reduceIte, Nat.reduceEqDiff]; try rfl) (by simp only [zfr, ↓reduceIte, Nat.reduceEqDiff]; try rfl) (by simp only [zfr, ↓reduceIte, Nat.reduceEqDiff]; try rfl) rfl
    · have q2 : ¬ (us.length : Int) ≤ 40 := by omega
      rw [l2t_no tupJ t us hI hl]
      simp only [simB, zbo, Nat.reduceBEq, own0, ↓reduceIte, Nat.reduceEqDiff, Nat.reduceAdd, simA, simL, simN, Nat.zero_add, zex, List.toList_toArray, len9, ix9, zey, zez, zfa, zfb, zfc, zeroT, encT, opA_five64, five64_str, ci, q1, ct, ldT_u, s_eqlS, w0, w1, w2, w3, w4, lenTk, zdu, bdT_00, st_Tt, stT_6, q2]
      exact finish_T2 _ _ _ _ _ (T0) _ _ _ _ _ (by simp only [zfr, ↓reduceIte, Nat.reduceEqDiff]; try rfl) (by simp only [zfr, ↓reduceIte, Nat.reduceEqDiff]; try rfl) (by simp only [zfr, ↓reduceIte, Nat.reduceEqDiff]; try rfl) rfl

set_option maxHeartbeats 8000000 in
theorem bone_tuple_to_list (R d : Nat) (hR : 100000 ≤ R) (hd : 20 ≤ d) (t : T) (hl : (kidsT t).length ≤ 1000000) : evalFn Tryz.prog cfg0 R (d+1) 62 [.tree (.str w_tuple_to_list), .tree (encT t)] = some (.tree (.tup [encT (t2lT t).1, .bool (t2lT t).2]), [[], []]) := by
  rw [evalFn_go _ Tryz.func62 (by unfold Tryz.f62; rfl) (by unfold Tryz.f62; decide) (Nat.le_of_ble_eq_true (by unfold Tryz.f62; rfl)) (by kernel_rfl)]
  have w0 : (w_tuple_to_list == ([108, 105, 115, 116, 95, 116, 111, 95, 116, 117, 112, 108, 101] : List UInt8)) = false := by decide
  have w1 : (w_tuple_to_list == ([114, 101, 118, 101, 114, 115, 101] : List UInt8)) = false := by decide
  have w2 : (w_tuple_to_list == ([116, 117, 112, 108, 101, 95, 116, 111, 95, 108, 105, 115, 116] : List UInt8)) = true := by decide
  have w3 : (w_tuple_to_list == ([105, 110, 116, 101, 103, 101, 114, 95, 116, 111, 95, 108, 105, 115, 116] : List UInt8)) = false := by decide
  have w4 : (w_tuple_to_list == ([97, 116, 111, 109, 95, 116, 111, 95, 108, 105, 115, 116] : List UInt8)) = false := by decide
  have ci := fun D st => callA_trees (cfg := cfg0) (d := D) (s := st) (f := 61) (vs := [.sl five 5 .tight, .str w_tuple_to_list]) rfl (evalFn_mono (show 100000 ≤ R by omega) 20 d (by omega) _ _ _ bidx_tuple_to_list)
  simp only [five] at ci
  obtain ⟨d', rfl⟩ : ∃ d', d = d' + 6 := ⟨d - 6, by omega⟩
  have ct := fun D st => callA_trees (cfg := cfg0) (d := D) (s := st) (f := 53) (vs := [encT t]) rfl (items_eq R (by omega) (d'+5) t)
  have q1 : ¬ ((-1 : Int) ≥ 0) := by decide
  obtain ⟨sl, bb, hV⟩ := itemsV_tup (itemsT t)
  rw [hV] at ct
  obtain ⟨k, n1, lg, l, s1, i1, kg, ks⟩ := t
  simp only [encT, cellsT] at ct
  by_cases hk : k = 5
  · subst hk
    have hT := okTreeW ks (gr kg) (by cases kg <;> rfl)
    have ce := callQ_trees (f := 92) (vs := []) rfl (empty_eq R (d'+5))
    have cl := callQ_trees (f := 91) (vs := [.sl (cellsK ks) ks.length (gr kg), encT nilT']) (by simp only [List.all_cons, hT]; rfl) (tList_eq R (d'+5) ks (gr kg) nilT' (by simp only [kidsT] at hl; omega))
    simp only [encT, cellsT] at cl ce
    rw [t2l_yes _ rfl]
    simp only [simB, zbo, Nat.reduceBEq, own0, ↓reduceIte, Nat.reduceEqDiff, Nat.reduceAdd, simA, simL, simN, Nat.zero_add, zex, List.toList_toArray, len9, ix9, zey, zez, zfa, zfb, zfc, zeroT, encT, opA_five64, five64_str, ci, q1, ct, cellsT, ldT_a, ldT_0, ldT_1, ldT_2, ldT_4, faT_0, faT_1, faT_2, faT_4, Nat.reduceAdd, i_eqlV, Int.reduceBEq, s_eqlS, w0, w1, w2, w3, w4, lenTk, zdu, bdT_00, st_Tt, stT_6, ce, cl]
    exact finish_T2 _ _ _ _ _ (listT ks nilT') _ _ _ _ _ (by simp only [zfr, ↓reduceIte, Nat.reduceEqDiff]; try rfl) (by simp only [zfr, ↓reduceIte, Nat.reduceEqDiff]; try rfl) (by simp only [zfr, ↓reduceIte, Nat.reduceEqDiff]; try rfl) rfl
  · have b5 : (k == 5) = false := beq_eq_false_iff_ne.mpr hk
    rw [t2l_no (.mk k n1 lg l s1 i1 kg ks) hk]
    simp only [simB, zbo, Nat.reduceBEq, own0, ↓reduceIte, Nat.reduceEqDiff, Nat.reduceAdd, simA, simL, simN, Nat.zero_add, zex, List.toList_toArray, len9, ix9, zey, zez, zfa, zfb, zfc, zeroT, encT, opA_five64, five64_str, ci, q1, ct, cellsT, ldT_a, ldT_0, ldT_1, ldT_2, ldT_4, faT_0, faT_1, faT_2, faT_4, Nat.reduceAdd, i_eqlV, Int.reduceBEq, s_eqlS, w0, w1, w2, w3, w4, lenTk, zdu, bdT_00, st_Tt, stT_6, b5]
    exact finish_T2 _ _ _ _ _ (T0) _ _ _ _ _ (by simp only [zfr, ↓reduceIte, Nat.reduceEqDiff]; try rfl) (by simp only [zfr, ↓reduceIte, Nat.reduceEqDiff]; try rfl) (by simp only [zfr, ↓reduceIte, Nat.reduceEqDiff]; try rfl) rfl

set_option maxHeartbeats 8000000 in
theorem bone_integer_to_list (R d : Nat) (hR : 100000 ≤ R) (hd : 20 ≤ d) (t : T) (hl : Limbs (limT t)) (hlt : (textZ (zOfT t)).length ≤ 10000) : evalFn Tryz.prog cfg0 R (d+1) 62 [.tree (.str w_integer_to_list), .tree (encT t)] = some (.tree (.tup [encT (itlT txtT t).1, .bool (itlT txtT t).2]), [[], []]) := by
  rw [evalFn_go _ Tryz.func62 (by unfold Tryz.f62; rfl) (by unfold Tryz.f62; decide) (Nat.le_of_ble_eq_true (by unfold Tryz.f62; rfl)) (by kernel_rfl)]
  have w0 : (w_integer_to_list == ([108, 105, 115, 116, 95, 116, 111, 95, 116, 117, 112, 108, 101] : List UInt8)) = false := by decide
  have w1 : (w_integer_to_list == ([114, 101, 118, 101, 114, 115, 101] : List UInt8)) = false := by decide
  have w2 : (w_integer_to_list == ([116, 117, 112, 108, 101, 95, 116, 111, 95, 108, 105, 115, 116] : List UInt8)) = false := by decide
  have w3 : (w_integer_to_list == ([105, 110, 116, 101, 103, 101, 114, 95, 116, 111, 95, 108, 105, 115, 116] : List UInt8)) = true := by decide
  have w4 : (w_integer_to_list == ([97, 116, 111, 109, 95, 116, 111, 95, 108, 105, 115, 116] : List UInt8)) = false := by decide
  have ci := fun D st => callA_trees (cfg := cfg0) (d := D) (s := st) (f := 61) (vs := [.sl five 5 .tight, .str w_integer_to_list]) rfl (evalFn_mono (show 100000 ≤ R by omega) 20 d (by omega) _ _ _ bidx_integer_to_list)
  simp only [five] at ci
  obtain ⟨d', rfl⟩ : ∃ d', d = d' + 6 := ⟨d - 6, by omega⟩
  have ct := fun D st => callA_trees (cfg := cfg0) (d := D) (s := st) (f := 53) (vs := [encT t]) rfl (items_eq R (by omega) (d'+5) t)
  have q1 : ¬ ((-1 : Int) ≥ 0) := by decide
  obtain ⟨sl, bb, hV⟩ := itemsV_tup (itemsT t)
  rw [hV] at ct
  obtain ⟨k, n1, lg, l, s1, i1, kg, ks⟩ := t
  simp only [encT, cellsT] at ct
  simp only [zOfT, sgnT, limT] at hlt hl
  by_cases hk : k = 1
  · subst hk
    have cx := fun D st => callA_trees (cfg := cfg0) (d := D) (s := st) (f := 94) (vs := [encA n1 lg l]) (by cases lg <;> rfl) (text_eq R d' (by omega) (isN_A n1 lg l hl))
    have cb := fun D st => callA_trees (cfg := cfg0) (d := D) (s := st) (f := 93) (vs := [.str (textZ (numZ n1 l))]) rfl (btext_eq R (d'+1) (by omega) _ hlt)
    simp only [encT, encA] at cx cb
    rw [itl_yes txtT (.mk 1 n1 lg l s1 i1 kg ks) rfl]
    simp only [simB, zbo, Nat.reduceBEq, own0, ↓reduceIte, Nat.reduceEqDiff, Nat.reduceAdd, simA, simL, simN, Nat.zero_add, zex, List.toList_toArray, len9, ix9, zey, zez, zfa, zfb, zfc, zeroT, encT, opA_five64, five64_str, ci, q1, ct, cellsT, ldT_a, ldT_0, ldT_1, ldT_2, ldT_4, faT_0, faT_1, faT_2, faT_4, Nat.reduceAdd, i_eqlV, Int.reduceBEq, s_eqlS, w0, w1, w2, w3, w4, lenTk, zdu, bdT_00, st_Tt, stT_6, cx, cb]
    exact finish_T2 _ _ _ _ _ (listT (txtT (textZ (numZ n1 l))) nilT') _ _ _ _ _ (by simp only [zfr, ↓reduceIte, Nat.reduceEqDiff]; try rfl) (by simp only [zfr, ↓reduceIte, Nat.reduceEqDiff]; try rfl) (by simp only [zfr, ↓reduceIte, Nat.reduceEqDiff]; try rfl) rfl
  · have b5 : (k == 1) = false := beq_eq_false_iff_ne.mpr hk
    rw [itl_no txtT (.mk k n1 lg l s1 i1 kg ks) hk]
    simp only [simB, zbo, Nat.reduceBEq, own0, ↓reduceIte, Nat.reduceEqDiff, Nat.reduceAdd, simA, simL, simN, Nat.zero_add, zex, List.toList_toArray, len9, ix9, zey, zez, zfa, zfb, zfc, zeroT, encT, opA_five64, five64_str, ci, q1, ct, cellsT, ldT_a, ldT_0, ldT_1, ldT_2, ldT_4, faT_0, faT_1, faT_2, faT_4, Nat.reduceAdd, i_eqlV, Int.reduceBEq, s_eqlS, w0, w1, w2, w3, w4, lenTk, zdu, bdT_00, st_Tt, stT_6, b5]
    exact finish_T2 _ _ _ _ _ (T0) _ _ _ _ _ (by simp only [zfr, ↓reduceIte, Nat.reduceEqDiff]; try rfl) (by simp only [zfr, ↓reduceIte, Nat.reduceEqDiff]; try rfl) (by simp only [zfr, ↓reduceIte, Nat.reduceEqDiff]; try rfl) rfl

set_option maxHeartbeats 8000000 in
theorem bone_atom_to_list (R d : Nat) (hR : 100000 ≤ R) (hd : 20 ≤ d) (t : T) (hlt : (strT t).length ≤ 10000) : evalFn Tryz.prog cfg0 R (d+1) 62 [.tree (.str w_atom_to_list), .tree (encT t)] = some (.tree (.tup [encT (atlT txtT t).1, .bool (atlT txtT t).2]), [[], []]) := by
  rw [evalFn_go _ Tryz.func62 (by unfold Tryz.f62; rfl) (by unfold Tryz.f62; decide) (Nat.le_of_ble_eq_true (by unfold Tryz.f62; rfl)) (by kernel_rfl)]
  have w0 : (w_atom_to_list == ([108, 105, 115, 116, 95, 116, 111, 95, 116, 117, 112, 108, 101] : List UInt8)) = false := by decide
  have w1 : (w_atom_to_list == ([114, 101, 118, 101, 114, 115, 101] : List UInt8)) = false := by decide
  have w2 : (w_atom_to_list == ([116, 117, 112, 108, 101, 95, 116, 111, 95, 108, 105, 115, 116] : List UInt8)) = false := by decide
  have w3 : (w_atom_to_list == ([105, 110, 116, 101, 103, 101, 114, 95, 116, 111, 95, 108, 105, 115, 116] : List UInt8)) = false := by decide
  have w4 : (w_atom_to_list == ([97, 116, 111, 109, 95, 116, 111, 95, 108, 105, 115, 116] : List UInt8)) = true := by decide
  have ci := fun D st => callA_trees (cfg := cfg0) (d := D) (s := st) (f := 61) (vs := [.sl five 5 .tight, .str w_atom_to_list]) rfl (evalFn_mono (show 100000 ≤ R by omega) 20 d (by omega) _ _ _ bidx_atom_to_list)
  simp only [five] at ci
  obtain ⟨d', rfl⟩ : ∃ d', d = d' + 6 := ⟨d - 6, by omega⟩
  have ct := fun D st => callA_trees (cfg := cfg0) (d := D) (s := st) (f := 53) (vs := [encT t]) rfl (items_eq R (by omega) (d'+5) t)
  have q1 : ¬ ((-1 : Int) ≥ 0) := by decide
  obtain ⟨sl, bb, hV⟩ := itemsV_tup (itemsT t)
  rw [hV] at ct
  obtain ⟨k, n1, lg, l, s1, i1, kg, ks⟩ := t
  simp only [encT, cellsT] at ct
  simp only [strT] at hlt
  by_cases hk : k = 2
  · subst hk
    have cb := fun D st => callA_trees (cfg := cfg0) (d := D) (s := st) (f := 93) (vs := [.str s1]) rfl (btext_eq R (d'+1) (by omega) _ hlt)
    simp only [encT] at cb
    rw [atl_yes txtT (.mk 2 n1 lg l s1 i1 kg ks) rfl]
    simp only [simB, zbo, Nat.reduceBEq, own0, ↓reduceIte, Nat.reduceEqDiff, Nat.reduceAdd, simA, simL, simN, Nat.zero_add, zex, List.toList_toArray, len9, ix9, zey, zez, zfa, zfb, zfc, zeroT, encT, opA_five64, five64_str, ci, q1, ct, cellsT, ldT_a, ldT_0, ldT_1, ldT_2, ldT_4, faT_0, faT_1, faT_2, faT_4, Nat.reduceAdd, i_eqlV, Int.reduceBEq, s_eqlS, w0, w1, w2, w3, w4, lenTk, zdu, bdT_00, st_Tt, stT_6, cb]
    exact finish_T2 _ _ _ _ _ (listT (txtT s1) nilT') _ _ _ _ _ (by simp only [zfr, ↓reduceIte, Nat.reduceEqDiff]; try rfl) (by simp only [zfr, ↓reduceIte, Nat.reduceEqDiff]; try rfl) (by simp only [zfr, ↓reduceIte, Nat.reduceEqDiff]; try rfl) rfl
  · have b5 : (k == 2) = false := beq_eq_false_iff_ne.mpr hk
    rw [atl_no txtT (.mk k n1 lg l s1 i1 kg ks) hk]
    simp only [simB, zbo, Nat.reduceBEq, own0, ↓reduceIte, Nat.reduceEqDiff, Nat.reduceAdd, simA, simL, simN, Nat.zero_add, zex, List.toList_toArray, len9, ix9, zey, zez, zfa, zfb, zfc, zeroT, encT, opA_five64, five64_str, ci, q1, ct, cellsT, ldT_a, ldT_0, ldT_1, ldT_2, ldT_4, faT_0, faT_1, faT_2, faT_4, Nat.reduceAdd, i_eqlV, Int.reduceBEq, s_eqlS, w0, w1, w2, w3, w4, lenTk, zdu, bdT_00, st_Tt, stT_6, b5]
    exact finish_T2 _ _ _ _ _ (T0) _ _ _ _ _ (by simp only [zfr, ↓reduceIte, Nat.reduceEqDiff]; try rfl) (by simp only [zfr, ↓reduceIte, Nat.reduceEqDiff]; try rfl) (by simp only [zfr, ↓reduceIte, Nat.reduceEqDiff]; try rfl) rfl
end Go.Ab

/- bif.one of reverse where there is no list (CFG1). No conditions. -/
namespace Go.Ab
open Go.Proofs
set_option maxRecDepth 100000
set_option linter.unusedSimpArgs false

set_option maxHeartbeats 8000000 in
theorem oneRev1_none (t : T) (h : itemsT t = none) : evalFn Tryz.prog cfg1 100000 40 62 [.tree (.str sRev), .tree (encT t)] = some (.tree (.tup [encT T0, .bool false]), [[], []]) := by
  rw [evalFn_go _ Tryz.func62 (by unfold Tryz.f62; rfl) (by unfold Tryz.f62; decide) (Nat.le_of_ble_eq_true (by unfold Tryz.f62; rfl)) (by kernel_rfl)]
  have w0 : (sRev == ([108, 105, 115, 116, 95, 116, 111, 95, 116, 117, 112, 108, 101] : List UInt8)) = false := by decide
  have w1 : (sRev == ([114, 101, 118, 101, 114, 115, 101] : List UInt8)) = true := by decide
  have w2 : (sRev == ([116, 117, 112, 108, 101, 95, 116, 111, 95, 108, 105, 115, 116] : List UInt8)) = false := by decide
  have w3 : (sRev == ([105, 110, 116, 101, 103, 101, 114, 95, 116, 111, 95, 108, 105, 115, 116] : List UInt8)) = false := by decide
  have w4 : (sRev == ([97, 116, 111, 109, 95, 116, 111, 95, 108, 105, 115, 116] : List UInt8)) = false := by decide
  have ci := fun D st => callA_trees (cfg := cfg1) (d := D) (s := st) (f := 61) (vs := [.sl five 5 .tight, .str sRev]) rfl (evalFn_mono (show 100000 ≤ 100000 by omega) 20 39 (by omega) _ _ _ idxRev1)
  simp only [five] at ci
  have q1 : ¬ ((-1 : Int) ≥ 0) := by decide
  have hi := items1_eq 100000 (by omega) 38 t
  rw [h] at hi
  have ct := fun D st => callA_trees (cfg := cfg1) (d := D) (s := st) (f := 53) (vs := [encT t]) rfl hi
  simp only [encT] at ct
  simp only [simB, keep1, Nat.reduceBEq, own1, String.reduceAppend, String.reduceBEq, Bool.or_false, Bool.or_true, Bool.or_self, ↓reduceIte, Nat.reduceEqDiff, Nat.reduceAdd, simA, simL, simN, Nat.zero_add, zex, List.toList_toArray, len9, ix9, zey, zez, zfa, zfb, zfc, zeroT, encT, opA_five64c, five64_str, ci, q1, ct, ldT_u, s_eqlS, w0, w1, w2, w3, w4, zdu, bdT_00, st_Tt, stT_6]
  exact finish_T2 _ _ _ _ _ T0 _ _ _ _ _ (by simp only [zfr, ↓reduceIte, Nat.reduceEqDiff]; try rfl) (by simp only [zfr, ↓reduceIte, Nat.reduceEqDiff]; try rfl) (by simp only [zfr, ↓reduceIte, Nat.reduceEqDiff]; try rfl) rfl
end Go.Ab

/- bif.one of reverse; relictref19.text; relictref19.ones of any term. Conditions: lengths in range. -/
namespace Go.Ab
open Go.Proofs
set_option maxRecDepth 100000
set_option linter.unusedSimpArgs false

def revT (t : T) : T × Bool := match itemsT t with
  | some us => (listT us.reverse nilT', true)
  | none => (T0, false)
theorem rev_yes (t : T) (us : List T) (h : itemsT t = some us) : revT t = (listT us.reverse nilT', true) := by unfold revT; rw [h]
theorem rev_no (t : T) (h : itemsT t = none) : revT t = (T0, false) := by unfold revT; rw [h]
theorem bone_reverse (R d : Nat) (t : T) (hn : nodT t ≤ 1999) : evalFn Tryz.prog cfg0 R (d+1) 62 [.tree (.str w_reverse), .tree (encT t)] = some (.tree (.tup [encT (revT t).1, .bool (revT t).2]), [[], []]) := by
  cases hI : itemsT t with
  | some us =>
    rw [rev_yes t us hI]
    exact oneRev_eq R d t us hI (by have := items_len t us hI; omega)
  | none =>
    rw [rev_no t hI]
    have hp : prim0 62 [.tree (.str sRev), .tree (encT t)] = some (.tree (.tup [encT T0, .bool false]), [[], []]) := by
      unfold prim0
      rw [if_neg (by decide), if_neg (by decide), if_pos (by simp only [isRev, sRev]; decide)]
      exact oneRev1_none t hI
    have hc : cfg0.prim = prim0 := rfl
    show evalFn Tryz.prog cfg0 R (d+1) 62 [.tree (.str sRev), .tree (encT t)] = _
    rw [evalFn]
    simp only [hc, hp]
def itxT (s : List UInt8) : List T := s.map fun c => intT (c.toNat : Int)
theorem itx_len (s : List UInt8) : (itxT s).length = s.length := List.length_map _
set_option maxHeartbeats 4000000 in
theorem rtext19_eq (n d : Nat) (hn : 100000 ≤ n) (s : List UInt8) (hs : s.length ≤ 10000) : evalFn Tryz.prog cfg0 n (d+5) 65 [.tree (.str s)] = some (.tree (encT (listT (itxT s) nilT')), [[]]) := by
  rw [evalFn_go _ Tryz.func65 (by unfold Tryz.f65; rfl) (by unfold Tryz.f65; decide) (Nat.le_of_ble_eq_true (by unfold Tryz.f65; rfl)) (by kernel_rfl)]
  simp only [simB, zbo, Nat.reduceBEq, own0, ↓reduceIte, Nat.reduceEqDiff, Nat.reduceAdd, simA, simL, simN, Nat.zero_add, zex, List.toList_toArray, len9, ix9, zey, zez, zfa, zfb, zfc, zeroT, den_loop]
  refine loop_ends (X := Nat) (fun i env st => env 0 = .str s ∧ env 2 = .ptr 2 1 0 ∧ env 4 = .int .i64 (i : Int) ∧ Ap st 18 (env 3) (itxT (s.take i)) ∧ st 2 = ⟨1, .buf [.int .i64 0, .bool false, .sl [] 0 .nil, .str [], .int .i64 0, .sl [] 0 .nil]⟩ ∧ i ≤ s.length) (fun i => s.length - i) (fun _ => (.tree (encT (listT (itxT s) nilT')), [[]])) ?_ n 0 _ _ (by omega) ⟨(by simp only [zfr, ↓reduceIte, Nat.reduceEqDiff, env0, List.getElem?_cons_zero]; try rfl), (by simp only [zfr, ↓reduceIte, Nat.reduceEqDiff]; try rfl), (by simp only [zfr, ↓reduceIte, Nat.reduceEqDiff]; try rfl), .inl ⟨rfl, (by simp only [zfr, ↓reduceIte, Nat.reduceEqDiff]; try rfl)⟩, (by simp only [zfr, ↓reduceIte, Nat.reduceEqDiff]; try rfl), Nat.zero_le _⟩
  intro rr i hr ih env st ⟨e0, e2, e4, ap, j2, hi⟩
  by_cases hlt : i < s.length
  · have q1 : (i : Int) < (s.length : Int) := by omega
    have q2 : (0 : Int) ≤ (i : Int) := by omega
    have c8 := (s.getD i 0).toNat_lt
    have cv := fun st => conv5_3 st (s.getD i 0).toNat (by omega)
    have c1 := fun D st => callA_trees (cfg := cfg0) (d := D) (s := st) (f := 54) (vs := [.int .i64 ((s.getD i 0).toNat : Int)]) rfl (rInt_eq n d hn _ (u8_64 (s.getD i 0)))
    simp only [encT] at c1
    obtain ⟨x', s', a1, a2, a3⟩ := ap.push (by rw [itx_len, List.length_take]; omega) (intT ((s.getD i 0).toNat : Int))
    have f5 := i_add Tryz.prog 3 (i : Int) 1 (by omega) (by omega)
    have hm : itxT (s.take (i + 1)) = (itxT (s.take i)) ++ [intT ((s.getD i 0).toNat : Int)] := by
      rw [List.take_succ_eq_append_getElem hlt, itxT, List.map_append, List.getD_eq_getElem?_getD, List.getElem?_eq_getElem hlt]; rfl
    simp only [simB, zbo, Nat.reduceBEq, own0, ↓reduceIte, Nat.reduceEqDiff, Nat.reduceAdd, simL, simN, Nat.zero_add, zex, List.toList_toArray, len9, ix9, zey, zez, zfa, zfb, zfc, e0, e2, e4, len9, q1, q2, and_self, Int.toNat_natCast, cv, c1, opA_one26, one26_T, a1, f5]
    exact ih (i + 1) _ _ (by omega) rfl ⟨(by simp only [zfr, ↓reduceIte, Nat.reduceEqDiff, e0]; try rfl), (by simp only [zfr, ↓reduceIte, Nat.reduceEqDiff, e2]; try rfl), (by simp only [zfr, ↓reduceIte, Nat.reduceEqDiff]; try rfl), by rw [hm]; exact a2, by rw [a3 2 (by decide)]; exact j2, by omega⟩
  have hie : i = s.length := by omega
  subst hie
  have q1 : ¬ (s.length : Int) < (s.length : Int) := by omega
  rw [List.take_length] at ap
  obtain ⟨hl1, hl2⟩ := ap.lent
  have cl := fun D st => callA_loose (call := evalFn Tryz.prog cfg0 n (d+4)) (d := D) (s := st) (f := 16) (vs := [env 3, encT nilT']) (vs' := [.sl (cellsK (itxT s)) (itxT s).length (gr (kgOf (itxT s))), encT nilT']) (by simp only [List.all_cons, hl1, encT, lent_T, List.all_nil, Bool.and_self]) (by simp only [List.map_cons, hl2]; rfl) (rList_eq n (d+3) (itxT s) _ nilT' (by rw [itx_len]; omega) (by rw [itx_len]; omega))
  simp only [encT] at cl
  simp only [simB, zbo, Nat.reduceBEq, own0, ↓reduceIte, Nat.reduceEqDiff, Nat.reduceAdd, simL, simN, Nat.zero_add, zex, List.toList_toArray, len9, ix9, zey, zez, zfa, zfb, zfc, e0, e2, e4, len9, j2, q1, bdN3, cl, st_Tt, stT_6]
  exact finish_cT _ _ _ _ _ (listT (itxT s) nilT') _ _ _ (by simp only [zfr, ↓reduceIte, Nat.reduceEqDiff, e2]; try rfl) (by simp only [zfr, ↓reduceIte, Nat.reduceEqDiff]; try rfl) rfl
end Go.Ab

/- A number's text, as the reference has it. Conditions: a number that is shown. -/
namespace Go.Ab
open Go.Proofs
set_option maxRecDepth 100000
set_option linter.unusedSimpArgs false

theorem sl9_lh (s : St) (b : List UInt8) (k k' : IntKind) (i j : Int) : sliceA Tryz.prog 9 s (.str b) (some (.int k i)) (some (.int k' j)) none = if 0 ≤ j ∧ j ≤ b.length then (if 0 ≤ i ∧ i ≤ (j.toNat : Int) then some (.str ((b.take j.toNat).drop i.toNat)) else none) else none := by
  simp only [sliceA, tk9, boundA, Option.isSome_none, Bool.false_eq_true, if_false, Option.bind_some]
  split
  · rw [Option.bind_some]
    split <;> rfl
  · rfl
theorem conv31_3 (s : St) (x : Nat) (h : x < 4294967296) : convA Tryz.prog 57 3 s (.int .u32 (x : Int)) = some (.int .i64 (x : Int)) := by
  have t3 : tkOf Tryz.prog 3 = .int .i64 := by kernel_rfl
  simp only [convA, t3, tk31, i64_wrap _ (show -9223372036854775808 ≤ (x : Int) by omega) (show (x : Int) ≤ 9223372036854775807 by omega)]
theorem digs_one (r : Nat) (h : r < 10) (h0 : r ≠ 0) : digs r = [r] := by
  have h1 := val_digs r
  have h2 := digs_len r 1 (by rw [Nat.pow_one]; exact Nat.lt_trans h (by decide))
  have h3 := digs_len0 r
  cases hd : digs r with
  | nil => rw [hd] at h3; exact absurd (h3.mp rfl) h0
  | cons a t =>
    rw [hd] at h2 h1
    have : t = [] := by
      cases t with
      | nil => rfl
      | cons _ _ => simp at h2
    subst this
    have : a + B * 0 = r := h1
    rw [show a = r by omega]
theorem dgs_at : ∀ r : Fin 10, (dgs.take (r.val + 1)).drop r.val = [dg r.val] := by decide
theorem dg_mod (v : Nat) : dg (v % 10) = dg v := by unfold dg; rw [Nat.mod_mod]
theorem rcDiv10 (n d : Nat) (hn : 100000 ≤ n) (D : Nat) (s : St) (g : Gk) (v : Nat) (hv : v < B ^ 12) (h0 : v ≠ 0) : callA cfg0 (evalFn Tryz.prog cfg0 n (d+4)) D s 84 [encL g (digs v), .sl [.int .u32 10] 1 .tight] = some (.tup [encF (v / 10), encF (v % 10)], s) := by
  have h := rdiv_eq n d g .t (digs v) [10] (limbs_digs _) (limbs_one (by decide)) hn (by have := digs_len _ 12 hv; omega) (by decide)
  rw [val_digs, show val [10] = 10 by decide, divR, if_neg (by decide), encQ_pos _ _ (fun hb => h0 ((blen_eq0 _).mp hb))] at h
  exact callA_L2 _ _ _ _ _ _ _ _ _ h
set_option maxHeartbeats 16000000 in
theorem rtext_eq (n d : Nat) (hn : 100000 ≤ n) {w : AV} {z : Int} (hw : IsN w z) : evalFn Tryz.prog cfg0 n (d+5) 66 [.tree w] = some (.tree (.str (textZ z)), [[]]) := by
  obtain ⟨g, c1⟩ := cRis n (d + 2) hw
  have hlt := hw.lt
  obtain ⟨neg, g0, l0, rfl, hl, hz⟩ := hw
  rw [evalFn_go _ Tryz.func66 (by unfold Tryz.f66; rfl) (by unfold Tryz.f66; decide) (Nat.le_of_ble_eq_true (by unfold Tryz.f66; rfl)) (by kernel_rfl)]
  simp only [simB, zbo, Nat.reduceBEq, own0, ↓reduceIte, Nat.reduceEqDiff, Nat.reduceAdd, simA, simL, simN, Nat.zero_add, zex, List.toList_toArray, len9, ix9, zey, zez, zfa, zfb, zfc, st0_1, c1, den_loop]
  have h116 : z.natAbs < 10 ^ 116 := Nat.lt_trans hlt B12_ten
  generalize hv : z.natAbs = v at *
  refine loop_ends (X := Nat × Gk × List UInt8) (fun x env s => env 3 = .ptr 3 1 0 ∧ env 4 = .str x.2.2 ∧ env 5 = encL x.2.1 (digs (v / 10 ^ x.1)) ∧ s 3 = ⟨1, .buf [.bool (decide (z < 0)), encL g (digs v)]⟩ ∧ x.2.2.length ≤ x.1 ∧ x.1 ≤ 116 ∧ decN v = decN (v / 10 ^ x.1) ++ x.2.2) (fun x => 117 - x.1) (fun _ => (.tree (.str (textZ z)), [[]])) ?_ n (0, g, []) _ _ (by simp only; omega) ⟨by first | (simp only [zfr, ↓reduceIte, Nat.reduceEqDiff]; done) | (simp only [zfr, ↓reduceIte, Nat.reduceEqDiff]; rfl), by first | (simp only [zfr, ↓reduceIte, Nat.reduceEqDiff]; done) | (simp only [zfr, ↓reduceIte, Nat.reduceEqDiff]; rfl), by rw [Nat.pow_zero, Nat.div_one]; simp only [zfr, ↓reduceIte, Nat.reduceEqDiff], by first | (simp only [zfr, ↓reduceIte, Nat.reduceEqDiff]; done) | (simp only [zfr, ↓reduceIte, Nat.reduceEqDiff]; rfl), by simp, by simp, by simp⟩
  intro k ⟨j, gg, ss⟩ hxk ih env s ⟨e3, e4, e5, j3, hsl, hj, hdec⟩
  simp only at e4 e5 hsl hj hdec hxk
  by_cases h0 : v / 10 ^ j = 0
  · have q1 : ¬ ((digs (v / 10 ^ j)).length : Int) > 0 := by rw [h0]; simp [digs_0]
    rw [h0, decN_0, List.nil_append] at hdec
    rw [textZ_of, hv, hdec]
    by_cases hd : ss = []
    · have q3 : (ss == []) = true := by rw [hd]; rfl
      rw [if_pos hd]
      simp only [simB, zbo, Nat.reduceBEq, own0, ↓reduceIte, Nat.reduceEqDiff, Nat.reduceAdd, simA, simL, simN, Nat.zero_add, zex, List.toList_toArray, len9, ix9, zey, zez, zfa, zfb, zfc, e3, e4, e5, j3, q1, q3]
      exact finish_s _ _ _ _ _ _ _ (by simp only [zfr, ↓reduceIte, Nat.reduceEqDiff]) rfl
    · have q3 : (ss == []) = false := by rw [beq_eq_false_iff_ne]; exact hd
      rw [if_neg hd]
      have ad := s_addS Tryz.prog 9 [45] ss (by simp only [List.length_cons, List.length_nil]; omega)
      by_cases hz0 : z < 0
      · rw [if_pos hz0]
        simp only [simB, zbo, Nat.reduceBEq, own0, ↓reduceIte, Nat.reduceEqDiff, Nat.reduceAdd, simA, simL, simN, Nat.zero_add, zex, List.toList_toArray, len9, ix9, zey, zez, zfa, zfb, zfc, e3, e4, e5, j3, q1, q3, hz0, ad]
        exact finish_s _ _ _ _ _ _ _ (by simp only [zfr, ↓reduceIte, Nat.reduceEqDiff]) rfl
      · rw [if_neg hz0]
        simp only [simB, zbo, Nat.reduceBEq, own0, ↓reduceIte, Nat.reduceEqDiff, Nat.reduceAdd, simA, simL, simN, Nat.zero_add, zex, List.toList_toArray, len9, ix9, zey, zez, zfa, zfb, zfc, e3, e4, e5, j3, q1, q3, hz0]
        exact finish_s _ _ _ _ _ _ _ (by simp only [zfr, ↓reduceIte, Nat.reduceEqDiff]) rfl
  · have q1 : ((digs (v / 10 ^ j)).length : Int) > 0 := by
      have : (digs (v / 10 ^ j)).length ≠ 0 := fun h => h0 ((digs_len0 _).mp h)
      omega
    have hj2 : j < 116 := by
      apply Classical.byContradiction
      intro hc
      exact h0 (Nat.div_eq_of_lt (Nat.lt_of_lt_of_le h116 (Nat.pow_le_pow_right (by decide) (by omega))))
    have hx : v / 10 ^ j < B ^ 12 := Nat.lt_of_le_of_lt (Nat.div_le_self _ _) hlt
    have c2 := fun D s => rcDiv10 n d hn D s gg _ hx h0
    have hnx : v / 10 ^ j / 10 = v / 10 ^ (j + 1) := by rw [Nat.div_div_eq_div_mul, ← Nat.pow_succ]
    rw [hnx] at c2
    have hr : v / 10 ^ j % 10 < 10 := Nat.mod_lt _ (by decide)
    have hdec2 : decN v = decN (v / 10 ^ (j + 1)) ++ (dg (v / 10 ^ j % 10) :: ss) := by
      rw [hdec, decN_pos _ h0, hnx, dg_mod, List.append_assoc]; rfl
    generalize hrr : v / 10 ^ j % 10 = r at *
    have a1 := i_add Tryz.prog 3 (r : Int) 1 (by omega) (by omega)
    have q4 : (0 : Int) ≤ (r : Int) + 1 ∧ (r : Int) + 1 ≤ ((dgs.length : Nat) : Int) := by
      have : dgs.length = 10 := rfl
      omega
    have q5 : (0 : Int) ≤ (r : Int) ∧ (r : Int) ≤ ((((r : Int) + 1).toNat : Nat) : Int) := by omega
    have q6 : (dgs.take ((r : Int) + 1).toNat).drop ((r : Int)).toNat = [dg r] := by
      rw [show ((r : Int) + 1).toNat = r + 1 by omega, Int.toNat_natCast]
      exact dgs_at ⟨r, hr⟩
    have ad := s_addS Tryz.prog 9 [dg r] ss (by simp only [List.length_cons, List.length_nil]; omega)
    have edg : ([48, 49, 50, 51, 52, 53, 54, 55, 56, 57] : List UInt8) = dgs := rfl
    by_cases hr0 : r = 0
    · have q2 : ¬ ((digs r).length : Int) > 0 := by rw [hr0]; simp [digs_0]
      subst hr0
      have a1 := i_add Tryz.prog 3 0 1 (by omega) (by omega)
      have q4 : (0 : Int) ≤ 0 + 1 ∧ (0 : Int) + 1 ≤ ((dgs.length : Nat) : Int) := by decide
      have q5 : (0 : Int) ≤ 0 ∧ (0 : Int) ≤ ((((0 : Int) + 1).toNat : Nat) : Int) := by decide
      have q6 : (dgs.take ((0 : Int) + 1).toNat).drop (0 : Int).toNat = [dg 0] := by decide
      simp only [simB, zbo, Nat.reduceBEq, own0, ↓reduceIte, Nat.reduceEqDiff, Nat.reduceAdd, simA, simL, simN, Nat.zero_add, zex, List.toList_toArray, len9, ix9, zey, zez, zfa, zfb, zfc, e3, e4, e5, j3, q1, opA_one, one22_int, c2, lenF, q2, a1, edg, sl9_lh, q4, q5, and_self, q6, ad]
      refine ih (j + 1, .l, dg 0 :: ss) _ _ (by simp only; omega) rfl ⟨?_, ?_, ?_, j3, ?_, by simp only; omega, hdec2⟩
      · simp only [zfr, ↓reduceIte, Nat.reduceEqDiff, e3]
      · simp only [zfr, ↓reduceIte, Nat.reduceEqDiff, List.cons_append, List.nil_append]
      · simp only [zfr, ↓reduceIte, Nat.reduceEqDiff]; rfl
      · simp only [List.length_cons]; omega
    · have hd1 := digs_one r hr hr0
      have q2 : (((([r] : List Nat)).length : Nat) : Int) > 0 := by simp
      have q7 : (0 : Int) < (((([r] : List Nat)).length : Nat) : Int) := by simp
      have q8 : (0 : Int) ≤ 0 := Int.le_refl _
      have q9 : 0 < (([r] : List Nat)).length := by simp
      have q10 : ([r] : List Nat).getD 0 0 = r := rfl
      have cv := fun s => conv31_3 s r (by omega)
      have eF : encF r = encL .l [r] := by rw [encF, hd1]
      rw [eF] at c2
      simp only [simB, zbo, Nat.reduceBEq, own0, ↓reduceIte, Nat.reduceEqDiff, Nat.reduceAdd, simA, simL, simN, Nat.zero_add, zex, List.toList_toArray, len9, ix9, zey, zez, zfa, zfb, zfc, e3, e4, e5, j3, q1, opA_one, one22_int, c2, q2, q7, q8, q9, q10, Int.toNat_zero, cv, a1, edg, sl9_lh, q4, q5, and_self, q6, ad]
      refine ih (j + 1, .l, dg r :: ss) _ _ (by simp only; omega) rfl ⟨?_, ?_, ?_, j3, ?_, by simp only; omega, hdec2⟩
      · simp only [zfr, ↓reduceIte, Nat.reduceEqDiff, e3]
      · simp only [zfr, ↓reduceIte, Nat.reduceEqDiff]
      · simp only [zfr, ↓reduceIte, Nat.reduceEqDiff]; rfl
      · simp only [List.length_cons]; omega
end Go.Ab

/- relictref19.ones of any term, by its name (printed by genrones.py). Conditions: lengths in range. -/
namespace Go.Ab
open Go.Proofs
set_option maxRecDepth 100000
set_option linter.unusedSimpArgs false

def nm5 (i : Nat) : List UInt8 := match i with
  | 0 => w_hd
  | 1 => w_tl
  | 2 => w_tuple_size
  | 3 => w_byte_size
  | _ => w_length
def zS5 : List AV := [.str [], .str [], .str [], .str [], .str []]
theorem tkS5 : tkOf Tryz.prog 81 = .arr 5 9 := by kernel_rfl
theorem eszS5 : esz Tryz.prog 81 = some 5 := by kernel_rfl
theorem zeroS5 : zeroOf Tryz.prog 81 = some zS5 := by kernel_rfl
theorem bdS5 : buildA Tryz.prog 81 [(0, .str [104, 100]), (1, .str [116, 108]), (2, .str [116, 117, 112, 108, 101, 95, 115, 105, 122, 101]), (3, .str [98, 121, 116, 101, 95, 115, 105, 122, 101]), (4, .str [108, 101, 110, 103, 116, 104])] = some (.agg five) := by
  simp only [buildA, zeroS5, tkS5, esz9, Option.bind_some]; rfl
def stS5 (e : Ent) (p k : Nat) (st : St) : Option St := match e with | ⟨t, .buf xs⟩ => if t = k then (if 5 ≤ xs.length then some (upd st p ⟨t, .buf (splice xs 0 five)⟩) else none) else none | _ => none
theorem st_S5 (st : St) (p k : Nat) : storeA Tryz.prog 81 st (.ptr p k 0) (.agg five) = stS5 (st p) p k st := by
  simp only [storeA, settle, Option.bind_some, stS5]
  have h5 : five.length = 5 := rfl
  cases h : st p with
  | mk t c => cases c <;> simp [eszS5, h5]
theorem stS5_new (t p k : Nat) (st : St) : stS5 ⟨t, .buf zS5⟩ p k st = if t = k then some (upd st p ⟨t, .buf five⟩) else none := by
  rw [stS5, if_pos (show 5 ≤ zS5.length from Nat.le_refl _)]; rfl
def iaS5 (e : Ent) (p k : Nat) (i : Int) : Option AV := if (cellsE e k).isSome = true ∧ 0 ≤ i ∧ i < 5 then some (.ptr p k i.toNat) else none
theorem ia_S5 (s : St) (p k : Nat) (i : Int) : indexAddrA Tryz.prog 81 s (.ptr p k 0) (.int .i64 i) = iaS5 (s p) p k i := by
  simp only [indexAddrA, tkS5, esz9, Option.bind_some, live, cellsAt_E, iaS5, Nat.zero_add, Nat.mul_one]; rfl
theorem iaS5_buf (t p k : Nat) (i : Nat) (xs : List AV) (h : i < 5) : iaS5 ⟨t, .buf xs⟩ p k (i : Int) = if t = k then some (.ptr p k i) else none := by
  rw [iaS5, cellsE_buf]
  by_cases e : t = k
  · simp [e]; omega
  · simp [e]
theorem partS5 : ∀ i, i < 5 → partA Tryz.prog 9 five i = some (.str (nm5 i))
  | 0, _ => by kernel_rfl
  | 1, _ => by kernel_rfl
  | 2, _ => by kernel_rfl
  | 3, _ => by kernel_rfl
  | 4, _ => by kernel_rfl
theorem bdT_tupR (us : List T) (p t : Nat) : buildA Tryz.prog 29 [(0, .int .i64 5), (4, .sl (cellsK us) us.length (.tok p t))] = some (.agg (cellsT (tupT .l us))) := by
  simp only [buildA, zeroT, tkT, plT, Option.bind_some]; rfl
theorem ldS5 (t k i : Nat) (h : i < 5) : ldE Tryz.prog 9 ⟨t, .buf five⟩ k i = if t = k then some (.str (nm5 i)) else none := by
  rw [ldE_buf, cellsE_buf]
  by_cases e : t = k
  · simp [e, partS5 i h]
  · simp [e]

set_option maxHeartbeats 8000000 in
theorem rones_idx (R d : Nat) (hR : 100000 ≤ R) (name : List UInt8) (k : Nat) (hk : k ≤ 4) (hnm : ∀ i, i < k → (nm5 i == name) = false) (hk1 : (nm5 k == name) = true)
    (t : T) (h1 : nodT t ≤ 1999) (h2 : (kidsT t).length ≤ 1000000) (h3 : (strT t).length ≤ 1000000) : evalFn Tryz.prog cfg0 R (d+7) 36 [.tree (.str name), .tree (encT t)] = some (.tree (.tup [encT (oneT intT ((k + 1 : Nat) : Int) t).1, .bool (oneT intT ((k + 1 : Nat) : Int) t).2]), [[], []]) := by
  rw [evalFn_go _ Tryz.func36 (by unfold Tryz.f36; rfl) (by unfold Tryz.f36; decide) (Nat.le_of_ble_eq_true (by unfold Tryz.f36; rfl)) (by kernel_rfl)]
  simp only [simB, zbo, Nat.reduceBEq, own0, ↓reduceIte, Nat.reduceEqDiff, Nat.reduceAdd, simA, simL, simN, Nat.zero_add, zex, List.toList_toArray, len9, ix9, zey, zez, zfa, zfb, zfc, zeroT, zeroS5, bdS5, st_S5, stS5_new, encT, den_loop]
  refine loop_ends (X := Nat) (fun i env st => env 0 = .str name ∧ env 3 = .ptr 3 1 0 ∧ env 4 = .ptr 4 1 0 ∧ env 6 = .ptr 6 1 0 ∧ env 7 = .int .i64 (i : Int) ∧ st 3 = ⟨1, .buf (cellsT t)⟩ ∧ st 4 = ⟨1, .buf [.int .i64 0, .bool false, .sl [] 0 .nil, .str [], .int .i64 0, .sl [] 0 .nil]⟩ ∧ st 6 = ⟨1, .buf five⟩ ∧ i ≤ k) (fun i => 5 - i) (fun _ => (.tree (.tup [encT (oneT intT ((k + 1 : Nat) : Int) t).1, .bool (oneT intT ((k + 1 : Nat) : Int) t).2]), [[], []])) ?_ R 0 _ _ (by omega) ⟨(by simp only [zfr, ↓reduceIte, Nat.reduceEqDiff, env0, List.getElem?_cons_zero]; try rfl), (by simp only [zfr, ↓reduceIte, Nat.reduceEqDiff]; try rfl), (by simp only [zfr, ↓reduceIte, Nat.reduceEqDiff]; try rfl), (by simp only [zfr, ↓reduceIte, Nat.reduceEqDiff]; try rfl), (by simp only [zfr, ↓reduceIte, Nat.reduceEqDiff]; try rfl), (by simp only [zfr, ↓reduceIte, Nat.reduceEqDiff]; try rfl), (by simp only [zfr, ↓reduceIte, Nat.reduceEqDiff]; try rfl), (by simp only [zfr, ↓reduceIte, Nat.reduceEqDiff]; try rfl), Nat.zero_le _⟩
  intro rr i hr ih env st ⟨e0, e3, e4, e6, e7, j3, j4, j6, hi⟩
  by_cases hlt : i < k
  · have hb := hnm i hlt
    have q1 : (i : Int) < 5 := by omega
    have ia := fun t p k xs => iaS5_buf t p k i xs (by omega)
    have ld := fun t k => ldS5 t k i (by omega)
    have f5 := i_add Tryz.prog 3 (i : Int) 1 (by omega) (by omega)
    simp only [simB, zbo, Nat.reduceBEq, own0, ↓reduceIte, Nat.reduceEqDiff, Nat.reduceAdd, simL, simN, Nat.zero_add, zex, List.toList_toArray, len9, ix9, zey, zez, zfa, zfb, zfc, e0, e3, e4, e6, e7, j3, j4, j6, q1, ia_S5, ia, ld, s_eqlS, hb, f5]
    exact ih (i + 1) _ _ (by omega) rfl ⟨(by simp only [zfr, ↓reduceIte, Nat.reduceEqDiff, e0]; try rfl), (by simp only [zfr, ↓reduceIte, Nat.reduceEqDiff, e3]; try rfl), (by simp only [zfr, ↓reduceIte, Nat.reduceEqDiff, e4]; try rfl), (by simp only [zfr, ↓reduceIte, Nat.reduceEqDiff, e6]; try rfl), (by simp only [zfr, ↓reduceIte, Nat.reduceEqDiff]; try rfl), (by simp only [zfr, ↓reduceIte, Nat.reduceEqDiff, j3]; try rfl), (by simp only [zfr, ↓reduceIte, Nat.reduceEqDiff, j4]; try rfl), (by simp only [zfr, ↓reduceIte, Nat.reduceEqDiff, j6]; try rfl), by omega⟩
  · have hie : i = k := by omega
    subst hie
    have q1 : (i : Int) < 5 := by omega
    have ia := fun t p k xs => iaS5_buf t p k i xs (by omega)
    have ld := fun t k => ldS5 t k i (by omega)
    have f5 := i_add Tryz.prog 3 (i : Int) 1 (by omega) (by omega)
    rw [show (i : Int) + 1 = ((i + 1 : Nat) : Int) by omega] at f5
    have ct := fun D st => callA_trees (cfg := cfg0) (d := D) (s := st) (f := 24) (vs := [.int .i64 ((i + 1 : Nat) : Int), encT t]) rfl (roneA_eq R d hR _ t h1 h2 h3)
    simp only [encT] at ct
    simp only [simB, zbo, Nat.reduceBEq, own0, ↓reduceIte, Nat.reduceEqDiff, Nat.reduceAdd, simA, simL, simN, Nat.zero_add, zex, List.toList_toArray, len9, ix9, zey, zez, zfa, zfb, zfc, e0, e3, e4, e6, e7, j3, j4, j6, q1, ia_S5, ia, ld, s_eqlS, hk1, f5, ldT_u, ct, zdu, st_Tt, stT_6]
    exact finish_T2 _ _ _ _ _ (oneT intT ((i + 1 : Nat) : Int) t).1 _ _ _ _ _ (by simp only [zfr, ↓reduceIte, Nat.reduceEqDiff, e4]; try rfl) (by simp only [zfr, ↓reduceIte, Nat.reduceEqDiff]; try rfl) (by simp only [zfr, ↓reduceIte, Nat.reduceEqDiff]; try rfl) rfl

set_option maxHeartbeats 8000000 in
theorem rones_list_to_tuple (R d : Nat) (hR : 100000 ≤ R) (t : T) (hn : nodT t ≤ 1999) : evalFn Tryz.prog cfg0 R (d+7) 36 [.tree (.str w_list_to_tuple), .tree (encT t)] = some (.tree (.tup [encT (l2tT (tupT .l) t).1, .bool (l2tT (tupT .l) t).2]), [[], []]) := by
  rw [evalFn_go _ Tryz.func36 (by unfold Tryz.f36; rfl) (by unfold Tryz.f36; decide) (Nat.le_of_ble_eq_true (by unfold Tryz.f36; rfl)) (by kernel_rfl)]
  have w0 : (w_list_to_tuple == ([108, 105, 115, 116, 95, 116, 111, 95, 116, 117, 112, 108, 101] : List UInt8)) = true := by decide
  have w1 : (w_list_to_tuple == ([114, 101, 118, 101, 114, 115, 101] : List UInt8)) = false := by decide
  have w2 : (w_list_to_tuple == ([116, 117, 112, 108, 101, 95, 116, 111, 95, 108, 105, 115, 116] : List UInt8)) = false := by decide
  have w3 : (w_list_to_tuple == ([105, 110, 116, 101, 103, 101, 114, 95, 116, 111, 95, 108, 105, 115, 116] : List UInt8)) = false := by decide
  have w4 : (w_list_to_tuple == ([97, 116, 111, 109, 95, 116, 111, 95, 108, 105, 115, 116] : List UInt8)) = false := by decide
  have hnm : ∀ i, i < 5 → (nm5 i == w_list_to_tuple) = false := by decide
  simp only [simB, zbo, Nat.reduceBEq, own0, ↓reduceIte, Nat.reduceEqDiff, Nat.reduceAdd, simA, simL, simN, Nat.zero_add, zex, List.toList_toArray, len9, ix9, zey, zez, zfa, zfb, zfc, zeroT, zeroS5, bdS5, st_S5, stS5_new, encT, den_loop]
  refine loop_ends (X := Nat) (fun i env st => env 0 = .str w_list_to_tuple ∧ env 3 = .ptr 3 1 0 ∧ env 4 = .ptr 4 1 0 ∧ env 6 = .ptr 6 1 0 ∧ env 7 = .int .i64 (i : Int) ∧ st 3 = ⟨1, .buf (cellsT t)⟩ ∧ st 4 = ⟨1, .buf [.int .i64 0, .bool false, .sl [] 0 .nil, .str [], .int .i64 0, .sl [] 0 .nil]⟩ ∧ st 6 = ⟨1, .buf five⟩ ∧ i ≤ 5) (fun i => 5 - i) (fun _ => (.tree (.tup [encT (l2tT (tupT .l) t).1, .bool (l2tT (tupT .l) t).2]), [[], []])) ?_ R 0 _ _ (by omega) ⟨(by simp only [zfr, ↓reduceIte, Nat.reduceEqDiff, env0, List.getElem?_cons_zero]; try rfl), (by simp only [zfr, ↓reduceIte, Nat.reduceEqDiff]; try rfl), (by simp only [zfr, ↓reduceIte, Nat.reduceEqDiff]; try rfl), (by simp only [zfr, ↓reduceIte, Nat.reduceEqDiff]; try rfl), (by simp only [zfr, ↓reduceIte, Nat.reduceEqDiff]; try rfl), (by simp only [zfr, ↓reduceIte, Nat.reduceEqDiff]; try rfl), (by simp only [zfr, ↓reduceIte, Nat.reduceEqDiff]; try rfl), (by simp only [zfr, ↓reduceIte, Nat.reduceEqDiff]; try rfl), Nat.zero_le _⟩
  intro rr i hr ih env st ⟨e0, e3, e4, e6, e7, j3, j4, j6, hi⟩
  by_cases hlt : i < 5
  · have hb := hnm i hlt
    have q1 : (i : Int) < 5 := by omega
    have ia := fun t p k xs => iaS5_buf t p k i xs (by omega)
    have ld := fun t k => ldS5 t k i (by omega)
    have f5 := i_add Tryz.prog 3 (i : Int) 1 (by omega) (by omega)
    simp only [simB, zbo, Nat.reduceBEq, own0, ↓reduceIte, Nat.reduceEqDiff, Nat.reduceAdd, simL, simN, Nat.zero_add, zex, List.toList_toArray, len9, ix9, zey, zez, zfa, zfb, zfc, e0, e3, e4, e6, e7, j3, j4, j6, q1, ia_S5, ia, ld, s_eqlS, hb, f5]
    exact ih (i + 1) _ _ (by omega) rfl ⟨(by simp only [zfr, ↓reduceIte, Nat.reduceEqDiff, e0]; try rfl), (by simp only [zfr, ↓reduceIte, Nat.reduceEqDiff, e3]; try rfl), (by simp only [zfr, ↓reduceIte, Nat.reduceEqDiff, e4]; try rfl), (by simp only [zfr, ↓reduceIte, Nat.reduceEqDiff, e6]; try rfl), (by simp only [zfr, ↓reduceIte, Nat.reduceEqDiff]; try rfl), (by simp only [zfr, ↓reduceIte, Nat.reduceEqDiff, j3]; try rfl), (by simp only [zfr, ↓reduceIte, Nat.reduceEqDiff, j4]; try rfl), (by simp only [zfr, ↓reduceIte, Nat.reduceEqDiff, j6]; try rfl), by omega⟩
  have hie : i = 5 := by omega
  subst hie
  have q1 : ¬ ((5 : Nat) : Int) < 5 := by omega
  have ct := fun D st => callA_trees (cfg := cfg0) (d := D) (s := st) (f := 55) (vs := [encT t]) rfl (rItemsA_eq R (d+5) t hn (by omega))
  clear ih
  cases hI : itemsT t with
  | none =>
    rw [hI] at ct
    simp only [encT, itemsV] at ct
    rw [l2t_none (tupT .l) t hI]
    simp only [simB, zbo, Nat.reduceBEq, own0, ↓reduceIte, Nat.reduceEqDiff, Nat.reduceAdd, simA, simL, simN, Nat.zero_add, zex, List.toList_toArray, len9, ix9, zey, zez, zfa, zfb, zfc, simV, e0, e3, e4, e6, e7, j3, j4, j6, q1, ct, ldT_u, s_eqlS, w0, w1, w2, w3, w4, lenTk, zdu, bdT_00, st_Tt, stT_6]
    exact finish_T2 _ _ _ _ _ (T0) _ _ _ _ _ (by simp only [zfr, ↓reduceIte, Nat.reduceEqDiff, e4]; try rfl) (by simp only [zfr, ↓reduceIte, Nat.reduceEqDiff]; try rfl) (by simp only [zfr, ↓reduceIte, Nat.reduceEqDiff]; try rfl) rfl
  | some us =>
    rw [hI] at ct
    simp only [encT, itemsV] at ct
    by_cases hl : us.length ≤ 40
    · have q2 : (us.length : Int) ≤ 40 := by omega
      have ap := fun d s => appN d s us (gr (kgOf us)) (by omega)
      rw [l2t_yes (tupT .l) t us hI hl]
      simp only [simB, zbo, Nat.reduceBEq, own0, ↓reduceIte, Nat.reduceEqDiff, Nat.reduceAdd, simA, simL, simN, Nat.zero_add, zex, List.toList_toArray, len9, ix9, zey, zez, zfa, zfb, zfc, simV, e0, e3, e4, e6, e7, j3, j4, j6, q1, ct, ldT_u, s_eqlS, w0, w1, w2, w3, w4, lenTk, zdu, bdT_00, st_Tt, stT_6, q2, ap, bdT_tupR]
      exact finish_T2 _ _ _ _ _ (tupT .l us) _ _ _ _ _ (by simp only [zfr, ↓reduceIte, Nat.reduceEqDiff, e4]; try rfl) (by simp only [zfr, ↓reduceIte, Nat.reduceEqDiff]; try rfl) (by simp only [zfr, ↓reduceIte, Nat.reduceEqDiff]; try rfl) rfl
    · have q2 : ¬ (us.length : Int) ≤ 40 := by omega
      rw [l2t_no (tupT .l) t us hI hl]
      simp only [simB, zbo, Nat.reduceBEq, own0, ↓reduceIte, Nat.reduceEqDiff, Nat.reduceAdd, simA, simL, simN, Nat.zero_add, zex, List.toList_toArray, len9, ix9, zey, zez, zfa, zfb, zfc, simV, e0, e3, e4, e6, e7, j3, j4, j6, q1, ct, ldT_u, s_eqlS, w0, w1, w2, w3, w4, lenTk, zdu, bdT_00, st_Tt, stT_6, q2]
      exact finish_T2 _ _ _ _ _ (T0) _ _ _ _ _ (by simp only [zfr, ↓reduceIte, Nat.reduceEqDiff, e4]; try rfl) (by simp only [zfr, ↓reduceIte, Nat.reduceEqDiff]; try rfl) (by simp only [zfr, ↓reduceIte, Nat.reduceEqDiff]; try rfl) rfl

set_option maxHeartbeats 8000000 in
theorem rones_tuple_to_list (R d : Nat) (hR : 100000 ≤ R) (t : T) (hn : nodT t ≤ 1999) (hl : (kidsT t).length ≤ 1000000) (hl2 : (kidsT t).length < R) : evalFn Tryz.prog cfg0 R (d+7) 36 [.tree (.str w_tuple_to_list), .tree (encT t)] = some (.tree (.tup [encT (t2lT t).1, .bool (t2lT t).2]), [[], []]) := by
  rw [evalFn_go _ Tryz.func36 (by unfold Tryz.f36; rfl) (by unfold Tryz.f36; decide) (Nat.le_of_ble_eq_true (by unfold Tryz.f36; rfl)) (by kernel_rfl)]
  have w0 : (w_tuple_to_list == ([108, 105, 115, 116, 95, 116, 111, 95, 116, 117, 112, 108, 101] : List UInt8)) = false := by decide
  have w1 : (w_tuple_to_list == ([114, 101, 118, 101, 114, 115, 101] : List UInt8)) = false := by decide
  have w2 : (w_tuple_to_list == ([116, 117, 112, 108, 101, 95, 116, 111, 95, 108, 105, 115, 116] : List UInt8)) = true := by decide
  have w3 : (w_tuple_to_list == ([105, 110, 116, 101, 103, 101, 114, 95, 116, 111, 95, 108, 105, 115, 116] : List UInt8)) = false := by decide
  have w4 : (w_tuple_to_list == ([97, 116, 111, 109, 95, 116, 111, 95, 108, 105, 115, 116] : List UInt8)) = false := by decide
  have hnm : ∀ i, i < 5 → (nm5 i == w_tuple_to_list) = false := by decide
  simp only [simB, zbo, Nat.reduceBEq, own0, ↓reduceIte, Nat.reduceEqDiff, Nat.reduceAdd, simA, simL, simN, Nat.zero_add, zex, List.toList_toArray, len9, ix9, zey, zez, zfa, zfb, zfc, zeroT, zeroS5, bdS5, st_S5, stS5_new, encT, den_loop]
  refine loop_ends (X := Nat) (fun i env st => env 0 = .str w_tuple_to_list ∧ env 3 = .ptr 3 1 0 ∧ env 4 = .ptr 4 1 0 ∧ env 6 = .ptr 6 1 0 ∧ env 7 = .int .i64 (i : Int) ∧ st 3 = ⟨1, .buf (cellsT t)⟩ ∧ st 4 = ⟨1, .buf [.int .i64 0, .bool false, .sl [] 0 .nil, .str [], .int .i64 0, .sl [] 0 .nil]⟩ ∧ st 6 = ⟨1, .buf five⟩ ∧ i ≤ 5) (fun i => 5 - i) (fun _ => (.tree (.tup [encT (t2lT t).1, .bool (t2lT t).2]), [[], []])) ?_ R 0 _ _ (by omega) ⟨(by simp only [zfr, ↓reduceIte, Nat.reduceEqDiff, env0, List.getElem?_cons_zero]; try rfl), (by simp only [zfr, ↓reduceIte, Nat.reduceEqDiff]; try rfl), (by simp only [zfr, ↓reduceIte, Nat.reduceEqDiff]; try rfl), (by simp only [zfr, ↓reduceIte, Nat.reduceEqDiff]; try rfl), (by simp only [zfr, ↓reduceIte, Nat.reduceEqDiff]; try rfl), (by simp only [zfr, ↓reduceIte, Nat.reduceEqDiff]; try rfl), (by simp only [zfr, ↓reduceIte, Nat.reduceEqDiff]; try rfl), (by simp only [zfr, ↓reduceIte, Nat.reduceEqDiff]; try rfl), Nat.zero_le _⟩
  intro rr i hr ih env st ⟨e0, e3, e4, e6, e7, j3, j4, j6, hi⟩
  by_cases hlt : i < 5
  · have hb := hnm i hlt
    have q1 : (i : Int) < 5 := by omega
    have ia := fun t p k xs => iaS5_buf t p k i xs (by omega)
    have ld := fun t k => ldS5 t k i (by omega)
    have f5 := i_add Tryz.prog 3 (i : Int) 1 (by omega) (by omega)
    simp only [simB, zbo, Nat.reduceBEq, own0, ↓reduceIte, Nat.reduceEqDiff, Nat.reduceAdd, simL, simN, Nat.zero_add, zex, List.toList_toArray, len9, ix9, zey, zez, zfa, zfb, zfc, e0, e3, e4, e6, e7, j3, j4, j6, q1, ia_S5, ia, ld, s_eqlS, hb, f5]
    exact ih (i + 1) _ _ (by omega) rfl ⟨(by simp only [zfr, ↓reduceIte, Nat.reduceEqDiff, e0]; try rfl), (by simp only [zfr, ↓reduceIte, Nat.reduceEqDiff, e3]; try rfl), (by simp only [zfr, ↓reduceIte, Nat.reduceEqDiff, e4]; try rfl), (by simp only [zfr, ↓reduceIte, Nat.reduceEqDiff, e6]; try rfl), (by simp only [zfr, ↓reduceIte, Nat.reduceEqDiff]; try rfl), (by simp only [zfr, ↓reduceIte, Nat.reduceEqDiff, j3]; try rfl), (by simp only [zfr, ↓reduceIte, Nat.reduceEqDiff, j4]; try rfl), (by simp only [zfr, ↓reduceIte, Nat.reduceEqDiff, j6]; try rfl), by omega⟩
  have hie : i = 5 := by omega
  subst hie
  have q1 : ¬ ((5 : Nat) : Int) < 5 := by omega
  have ct := fun D st => callA_trees (cfg := cfg0) (d := D) (s := st) (f := 55) (vs := [encT t]) rfl (rItemsA_eq R (d+5) t hn (by omega))
  clear ih
  obtain ⟨sl, bb, hV⟩ := itemsV_tup (itemsT t)
  rw [hV] at ct
  obtain ⟨k, n1, lg, l, s1, i1, kg, ks⟩ := t
  simp only [cellsT] at j3
  simp only [encT, cellsT] at ct
  by_cases hk : k = 5
  · subst hk
    have hT := okTreeW ks (gr kg) (by cases kg <;> rfl)
    have cl := fun D st => callA_trees (cfg := cfg0) (d := D) (s := st) (f := 16) (vs := [.sl (cellsK ks) ks.length (gr kg), encT nilT']) (by simp only [List.all_cons, hT]; rfl) (rList_eq R (d+5) ks (gr kg) nilT' hl2 hl)
    simp only [encT] at cl
    rw [t2l_yes _ rfl]
    simp only [simB, zbo, Nat.reduceBEq, own0, ↓reduceIte, Nat.reduceEqDiff, Nat.reduceAdd, simA, simL, simN, Nat.zero_add, zex, List.toList_toArray, len9, ix9, zey, zez, zfa, zfb, zfc, e0, e3, e4, e6, e7, j3, j4, j6, q1, ct, cellsT, ldT_a, ldT_0, ldT_1, ldT_2, ldT_4, faT_0, faT_1, faT_2, faT_4, Nat.reduceAdd, i_eqlV, Int.reduceBEq, s_eqlS, w0, w1, w2, w3, w4, lenTk, zdu, bdT_00, st_Tt, stT_6, bdN3, cl]
    exact finish_T2 _ _ _ _ _ (listT ks nilT') _ _ _ _ _ (by simp only [zfr, ↓reduceIte, Nat.reduceEqDiff, e4]; try rfl) (by simp only [zfr, ↓reduceIte, Nat.reduceEqDiff]; try rfl) (by simp only [zfr, ↓reduceIte, Nat.reduceEqDiff]; try rfl) rfl
  · have b5 : (k == 5) = false := beq_eq_false_iff_ne.mpr hk
    rw [t2l_no (.mk k n1 lg l s1 i1 kg ks) hk]
    simp only [simB, zbo, Nat.reduceBEq, own0, ↓reduceIte, Nat.reduceEqDiff, Nat.reduceAdd, simA, simL, simN, Nat.zero_add, zex, List.toList_toArray, len9, ix9, zey, zez, zfa, zfb, zfc, e0, e3, e4, e6, e7, j3, j4, j6, q1, ct, cellsT, ldT_a, ldT_0, ldT_1, ldT_2, ldT_4, faT_0, faT_1, faT_2, faT_4, Nat.reduceAdd, i_eqlV, Int.reduceBEq, s_eqlS, w0, w1, w2, w3, w4, lenTk, zdu, bdT_00, st_Tt, stT_6, b5]
    exact finish_T2 _ _ _ _ _ (T0) _ _ _ _ _ (by simp only [zfr, ↓reduceIte, Nat.reduceEqDiff, e4]; try rfl) (by simp only [zfr, ↓reduceIte, Nat.reduceEqDiff]; try rfl) (by simp only [zfr, ↓reduceIte, Nat.reduceEqDiff]; try rfl) rfl

set_option maxHeartbeats 8000000 in
theorem rones_integer_to_list (R d : Nat) (hR : 100000 ≤ R) (t : T) (hn : nodT t ≤ 1999) (hl : Limbs (limT t)) (hlt2 : (textZ (zOfT t)).length ≤ 10000) : evalFn Tryz.prog cfg0 R (d+7) 36 [.tree (.str w_integer_to_list), .tree (encT t)] = some (.tree (.tup [encT (itlT itxT t).1, .bool (itlT itxT t).2]), [[], []]) := by
  rw [evalFn_go _ Tryz.func36 (by unfold Tryz.f36; rfl) (by unfold Tryz.f36; decide) (Nat.le_of_ble_eq_true (by unfold Tryz.f36; rfl)) (by kernel_rfl)]
  have w0 : (w_integer_to_list == ([108, 105, 115, 116, 95, 116, 111, 95, 116, 117, 112, 108, 101] : List UInt8)) = false := by decide
  have w1 : (w_integer_to_list == ([114, 101, 118, 101, 114, 115, 101] : List UInt8)) = false := by decide
  have w2 : (w_integer_to_list == ([116, 117, 112, 108, 101, 95, 116, 111, 95, 108, 105, 115, 116] : List UInt8)) = false := by decide
  have w3 : (w_integer_to_list == ([105, 110, 116, 101, 103, 101, 114, 95, 116, 111, 95, 108, 105, 115, 116] : List UInt8)) = true := by decide
  have w4 : (w_integer_to_list == ([97, 116, 111, 109, 95, 116, 111, 95, 108, 105, 115, 116] : List UInt8)) = false := by decide
  have hnm : ∀ i, i < 5 → (nm5 i == w_integer_to_list) = false := by decide
  simp only [simB, zbo, Nat.reduceBEq, own0, ↓reduceIte, Nat.reduceEqDiff, Nat.reduceAdd, simA, simL, simN, Nat.zero_add, zex, List.toList_toArray, len9, ix9, zey, zez, zfa, zfb, zfc, zeroT, zeroS5, bdS5, st_S5, stS5_new, encT, den_loop]
  refine loop_ends (X := Nat) (fun i env st => env 0 = .str w_integer_to_list ∧ env 3 = .ptr 3 1 0 ∧ env 4 = .ptr 4 1 0 ∧ env 6 = .ptr 6 1 0 ∧ env 7 = .int .i64 (i : Int) ∧ st 3 = ⟨1, .buf (cellsT t)⟩ ∧ st 4 = ⟨1, .buf [.int .i64 0, .bool false, .sl [] 0 .nil, .str [], .int .i64 0, .sl [] 0 .nil]⟩ ∧ st 6 = ⟨1, .buf five⟩ ∧ i ≤ 5) (fun i => 5 - i) (fun _ => (.tree (.tup [encT (itlT itxT t).1, .bool (itlT itxT t).2]), [[], []])) ?_ R 0 _ _ (by omega) ⟨(by simp only [zfr, ↓reduceIte, Nat.reduceEqDiff, env0, List.getElem?_cons_zero]; try rfl), (by simp only [zfr, ↓reduceIte, Nat.reduceEqDiff]; try rfl), (by simp only [zfr, ↓reduceIte, Nat.reduceEqDiff]; try rfl), (by simp only [zfr, ↓reduceIte, Nat.reduceEqDiff]; try rfl), (by simp only [zfr, ↓reduceIte, Nat.reduceEqDiff]; try rfl), (by simp only [zfr, ↓reduceIte, Nat.reduceEqDiff]; try rfl), (by simp only [zfr, ↓reduceIte, Nat.reduceEqDiff]; try rfl), (by simp only [zfr, ↓reduceIte, Nat.reduceEqDiff]; try rfl), Nat.zero_le _⟩
  intro rr i hr ih env st ⟨e0, e3, e4, e6, e7, j3, j4, j6, hi⟩
  by_cases hlt : i < 5
  · have hb := hnm i hlt
    have q1 : (i : Int) < 5 := by omega
    have ia := fun t p k xs => iaS5_buf t p k i xs (by omega)
    have ld := fun t k => ldS5 t k i (by omega)
    have f5 := i_add Tryz.prog 3 (i : Int) 1 (by omega) (by omega)
    simp only [simB, zbo, Nat.reduceBEq, own0, ↓reduceIte, Nat.reduceEqDiff, Nat.reduceAdd, simL, simN, Nat.zero_add, zex, List.toList_toArray, len9, ix9, zey, zez, zfa, zfb, zfc, e0, e3, e4, e6, e7, j3, j4, j6, q1, ia_S5, ia, ld, s_eqlS, hb, f5]
    exact ih (i + 1) _ _ (by omega) rfl ⟨(by simp only [zfr, ↓reduceIte, Nat.reduceEqDiff, e0]; try rfl), (by simp only [zfr, ↓reduceIte, Nat.reduceEqDiff, e3]; try rfl), (by simp only [zfr, ↓reduceIte, Nat.reduceEqDiff, e4]; try rfl), (by simp only [zfr, ↓reduceIte, Nat.reduceEqDiff, e6]; try rfl), (by simp only [zfr, ↓reduceIte, Nat.reduceEqDiff]; try rfl), (by simp only [zfr, ↓reduceIte, Nat.reduceEqDiff, j3]; try rfl), (by simp only [zfr, ↓reduceIte, Nat.reduceEqDiff, j4]; try rfl), (by simp only [zfr, ↓reduceIte, Nat.reduceEqDiff, j6]; try rfl), by omega⟩
  have hie : i = 5 := by omega
  subst hie
  have q1 : ¬ ((5 : Nat) : Int) < 5 := by omega
  have ct := fun D st => callA_trees (cfg := cfg0) (d := D) (s := st) (f := 55) (vs := [encT t]) rfl (rItemsA_eq R (d+5) t hn (by omega))
  clear ih
  obtain ⟨sl, bb, hV⟩ := itemsV_tup (itemsT t)
  rw [hV] at ct
  obtain ⟨k, n1, lg, l, s1, i1, kg, ks⟩ := t
  simp only [cellsT] at j3
  simp only [encT, cellsT] at ct
  simp only [zOfT, sgnT, limT] at hlt2 hl
  by_cases hk : k = 1
  · subst hk
    have cx := fun D st => callA_trees (cfg := cfg0) (d := D) (s := st) (f := 66) (vs := [encA n1 lg l]) (by cases lg <;> rfl) (rtext_eq R (d+1) (by omega) (isN_A n1 lg l hl))
    have cb := fun D st => callA_trees (cfg := cfg0) (d := D) (s := st) (f := 65) (vs := [.str (textZ (numZ n1 l))]) rfl (rtext19_eq R (d+1) (by omega) _ hlt2)
    simp only [encT, encA] at cx cb
    rw [itl_yes itxT (.mk 1 n1 lg l s1 i1 kg ks) rfl]
    simp only [simB, zbo, Nat.reduceBEq, own0, ↓reduceIte, Nat.reduceEqDiff, Nat.reduceAdd, simA, simL, simN, Nat.zero_add, zex, List.toList_toArray, len9, ix9, zey, zez, zfa, zfb, zfc, e0, e3, e4, e6, e7, j3, j4, j6, q1, ct, cellsT, ldT_a, ldT_0, ldT_1, ldT_2, ldT_4, faT_0, faT_1, faT_2, faT_4, Nat.reduceAdd, i_eqlV, Int.reduceBEq, s_eqlS, w0, w1, w2, w3, w4, lenTk, zdu, bdT_00, st_Tt, stT_6, cx, cb]
    exact finish_T2 _ _ _ _ _ (listT (itxT (textZ (numZ n1 l))) nilT') _ _ _ _ _ (by simp only [zfr, ↓reduceIte, Nat.reduceEqDiff, e4]; try rfl) (by simp only [zfr, ↓reduceIte, Nat.reduceEqDiff]; try rfl) (by simp only [zfr, ↓reduceIte, Nat.reduceEqDiff]; try rfl) rfl
  · have b5 : (k == 1) = false := beq_eq_false_iff_ne.mpr hk
    rw [itl_no itxT (.mk k n1 lg l s1 i1 kg ks) hk]
    simp only [simB, zbo, Nat.reduceBEq, own0, ↓reduceIte, Nat.reduceEqDiff, Nat.reduceAdd, simA, simL, simN, Nat.zero_add, zex, List.toList_toArray, len9, ix9, zey, zez, zfa, zfb, zfc, e0, e3, e4, e6, e7, j3, j4, j6, q1, ct, cellsT, ldT_a, ldT_0, ldT_1, ldT_2, ldT_4, faT_0, faT_1, faT_2, faT_4, Nat.reduceAdd, i_eqlV, Int.reduceBEq, s_eqlS, w0, w1, w2, w3, w4, lenTk, zdu, bdT_00, st_Tt, stT_6, b5]
    exact finish_T2 _ _ _ _ _ (T0) _ _ _ _ _ (by simp only [zfr, ↓reduceIte, Nat.reduceEqDiff, e4]; try rfl) (by simp only [zfr, ↓reduceIte, Nat.reduceEqDiff]; try rfl) (by simp only [zfr, ↓reduceIte, Nat.reduceEqDiff]; try rfl) rfl

set_option maxHeartbeats 8000000 in
theorem rones_atom_to_list (R d : Nat) (hR : 100000 ≤ R) (t : T) (hn : nodT t ≤ 1999) (hlt2 : (strT t).length ≤ 10000) : evalFn Tryz.prog cfg0 R (d+7) 36 [.tree (.str w_atom_to_list), .tree (encT t)] = some (.tree (.tup [encT (atlT itxT t).1, .bool (atlT itxT t).2]), [[], []]) := by
  rw [evalFn_go _ Tryz.func36 (by unfold Tryz.f36; rfl) (by unfold Tryz.f36; decide) (Nat.le_of_ble_eq_true (by unfold Tryz.f36; rfl)) (by kernel_rfl)]
  have w0 : (w_atom_to_list == ([108, 105, 115, 116, 95, 116, 111, 95, 116, 117, 112, 108, 101] : List UInt8)) = false := by decide
  have w1 : (w_atom_to_list == ([114, 101, 118, 101, 114, 115, 101] : List UInt8)) = false := by decide
  have w2 : (w_atom_to_list == ([116, 117, 112, 108, 101, 95, 116, 111, 95, 108, 105, 115, 116] : List UInt8)) = false := by decide
  have w3 : (w_atom_to_list == ([105, 110, 116, 101, 103, 101, 114, 95, 116, 111, 95, 108, 105, 115, 116] : List UInt8)) = false := by decide
  have w4 : (w_atom_to_list == ([97, 116, 111, 109, 95, 116, 111, 95, 108, 105, 115, 116] : List UInt8)) = true := by decide
  have hnm : ∀ i, i < 5 → (nm5 i == w_atom_to_list) = false := by decide
  simp only [simB, zbo, Nat.reduceBEq, own0, ↓reduceIte, Nat.reduceEqDiff, Nat.reduceAdd, simA, simL, simN, Nat.zero_add, zex, List.toList_toArray, len9, ix9, zey, zez, zfa, zfb, zfc, zeroT, zeroS5, bdS5, st_S5, stS5_new, encT, den_loop]
  refine loop_ends (X := Nat) (fun i env st => env 0 = .str w_atom_to_list ∧ env 3 = .ptr 3 1 0 ∧ env 4 = .ptr 4 1 0 ∧ env 6 = .ptr 6 1 0 ∧ env 7 = .int .i64 (i : Int) ∧ st 3 = ⟨1, .buf (cellsT t)⟩ ∧ st 4 = ⟨1, .buf [.int .i64 0, .bool false, .sl [] 0 .nil, .str [], .int .i64 0, .sl [] 0 .nil]⟩ ∧ st 6 = ⟨1, .buf five⟩ ∧ i ≤ 5) (fun i => 5 - i) (fun _ => (.tree (.tup [encT (atlT itxT t).1, .bool (atlT itxT t).2]), [[], []])) ?_ R 0 _ _ (by omega) ⟨(by simp only [zfr, ↓reduceIte, Nat.reduceEqDiff, env0, List.getElem?_cons_zero]; try rfl), (by simp only [zfr, ↓reduceIte, Nat.reduceEqDiff]; try rfl), (by simp only [zfr, ↓reduceIte, Nat.reduceEqDiff]; try rfl), (by simp only [zfr, ↓reduceIte, Nat.reduceEqDiff]; try rfl), (by simp only [zfr, ↓reduceIte, Nat.reduceEqDiff]; try rfl), (by simp only [zfr, ↓reduceIte, Nat.reduceEqDiff]; try rfl), (by simp only [zfr, ↓reduceIte, Nat.reduceEqDiff]; try rfl), (by simp only [zfr, ↓reduceIte, Nat.reduceEqDiff]; try rfl), Nat.zero_le _⟩
  intro rr i hr ih env st ⟨e0, e3, e4, e6, e7, j3, j4, j6, hi⟩
  by_cases hlt : i < 5
  · have hb := hnm i hlt
    have q1 : (i : Int) < 5 := by omega
    have ia := fun t p k xs => iaS5_buf t p k i xs (by omega)
    have ld := fun t k => ldS5 t k i (by omega)
    have f5 := i_add Tryz.prog 3 (i : Int) 1 (by omega) (by omega)
    simp only [simB, zbo, Nat.reduceBEq, own0, ↓reduceIte, Nat.reduceEqDiff, Nat.reduceAdd, simL, simN, Nat.zero_add, zex, List.toList_toArray, len9, ix9, zey, zez, zfa, zfb, zfc, e0, e3, e4, e6, e7, j3, j4, j6, q1, ia_S5, ia, ld, s_eqlS, hb, f5]
    exact ih (i + 1) _ _ (by omega) rfl ⟨(by simp only [zfr, ↓reduceIte, Nat.reduceEqDiff, e0]; try rfl), (by simp only [zfr, ↓reduceIte, Nat.reduceEqDiff, e3]; try rfl), (by simp only [zfr, ↓reduceIte, Nat.reduceEqDiff, e4]; try rfl), (by simp only [zfr, ↓reduceIte, Nat.reduceEqDiff, e6]; try rfl), (by simp only [zfr, ↓reduceIte, Nat.reduceEqDiff]; try rfl), (by simp only [zfr, ↓reduceIte, Nat.reduceEqDiff, j3]; try rfl), (by simp only [zfr, ↓reduceIte, Nat.reduceEqDiff, j4]; try rfl), (by simp only [zfr, ↓reduceIte, Nat.reduceEqDiff, j6]; try rfl), by omega⟩
  have hie : i = 5 := by omega
  subst hie
  have q1 : ¬ ((5 : Nat) : Int) < 5 := by omega
  have ct := fun D st => callA_trees (cfg := cfg0) (d := D) (s := st) (f := 55) (vs := [encT t]) rfl (rItemsA_eq R (d+5) t hn (by omega))
  clear ih
  obtain ⟨sl, bb, hV⟩ := itemsV_tup (itemsT t)
  rw [hV] at ct
  obtain ⟨k, n1, lg, l, s1, i1, kg, ks⟩ := t
  simp only [cellsT] at j3
  simp only [encT, cellsT] at ct
  simp only [strT] at hlt2
  by_cases hk : k = 2
  · subst hk
    have cb := fun D st => callA_trees (cfg := cfg0) (d := D) (s := st) (f := 65) (vs := [.str s1]) rfl (rtext19_eq R (d+1) (by omega) _ hlt2)
    simp only [encT] at cb
    rw [atl_yes itxT (.mk 2 n1 lg l s1 i1 kg ks) rfl]
    simp only [simB, zbo, Nat.reduceBEq, own0, ↓reduceIte, Nat.reduceEqDiff, Nat.reduceAdd, simA, simL, simN, Nat.zero_add, zex, List.toList_toArray, len9, ix9, zey, zez, zfa, zfb, zfc, e0, e3, e4, e6, e7, j3, j4, j6, q1, ct, cellsT, ldT_a, ldT_0, ldT_1, ldT_2, ldT_4, faT_0, faT_1, faT_2, faT_4, Nat.reduceAdd, i_eqlV, Int.reduceBEq, s_eqlS, w0, w1, w2, w3, w4, lenTk, zdu, bdT_00, st_Tt, stT_6, cb]
    exact finish_T2 _ _ _ _ _ (listT (itxT s1) nilT') _ _ _ _ _ (by simp only [zfr, ↓reduceIte, Nat.reduceEqDiff, e4]; try rfl) (by simp only [zfr, ↓reduceIte, Nat.reduceEqDiff]; try rfl) (by simp only [zfr, ↓reduceIte, Nat.reduceEqDiff]; try rfl) rfl
  · have b5 : (k == 2) = false := beq_eq_false_iff_ne.mpr hk
    rw [atl_no itxT (.mk k n1 lg l s1 i1 kg ks) hk]
    simp only [simB, zbo, Nat.reduceBEq, own0, ↓reduceIte, Nat.reduceEqDiff, Nat.reduceAdd, simA, simL, simN, Nat.zero_add, zex, List.toList_toArray, len9, ix9, zey, zez, zfa, zfb, zfc, e0, e3, e4, e6, e7, j3, j4, j6, q1, ct, cellsT, ldT_a, ldT_0, ldT_1, ldT_2, ldT_4, faT_0, faT_1, faT_2, faT_4, Nat.reduceAdd, i_eqlV, Int.reduceBEq, s_eqlS, w0, w1, w2, w3, w4, lenTk, zdu, bdT_00, st_Tt, stT_6, b5]
    exact finish_T2 _ _ _ _ _ (T0) _ _ _ _ _ (by simp only [zfr, ↓reduceIte, Nat.reduceEqDiff, e4]; try rfl) (by simp only [zfr, ↓reduceIte, Nat.reduceEqDiff]; try rfl) (by simp only [zfr, ↓reduceIte, Nat.reduceEqDiff]; try rfl) rfl

set_option maxHeartbeats 8000000 in
theorem rones_reverse (R d : Nat) (hR : 100000 ≤ R) (t : T) (hn : nodT t ≤ 1999) : evalFn Tryz.prog cfg0 R (d+7) 36 [.tree (.str w_reverse), .tree (encT t)] = some (.tree (.tup [encT (revT t).1, .bool (revT t).2]), [[], []]) := by
  rw [evalFn_go _ Tryz.func36 (by unfold Tryz.f36; rfl) (by unfold Tryz.f36; decide) (Nat.le_of_ble_eq_true (by unfold Tryz.f36; rfl)) (by kernel_rfl)]
  have w0 : (w_reverse == ([108, 105, 115, 116, 95, 116, 111, 95, 116, 117, 112, 108, 101] : List UInt8)) = false := by decide
  have w1 : (w_reverse == ([114, 101, 118, 101, 114, 115, 101] : List UInt8)) = true := by decide
  have w2 : (w_reverse == ([116, 117, 112, 108, 101, 95, 116, 111, 95, 108, 105, 115, 116] : List UInt8)) = false := by decide
  have w3 : (w_reverse == ([105, 110, 116, 101, 103, 101, 114, 95, 116, 111, 95, 108, 105, 115, 116] : List UInt8)) = false := by decide
  have w4 : (w_reverse == ([97, 116, 111, 109, 95, 116, 111, 95, 108, 105, 115, 116] : List UInt8)) = false := by decide
  have hnm : ∀ i, i < 5 → (nm5 i == w_reverse) = false := by decide
  simp only [simB, zbo, Nat.reduceBEq, own0, ↓reduceIte, Nat.reduceEqDiff, Nat.reduceAdd, simA, simL, simN, Nat.zero_add, zex, List.toList_toArray, len9, ix9, zey, zez, zfa, zfb, zfc, zeroT, zeroS5, bdS5, st_S5, stS5_new, encT, den_loop]
  refine loop_ends (X := Nat) (fun i env st => env 0 = .str w_reverse ∧ env 3 = .ptr 3 1 0 ∧ env 4 = .ptr 4 1 0 ∧ env 6 = .ptr 6 1 0 ∧ env 7 = .int .i64 (i : Int) ∧ st 3 = ⟨1, .buf (cellsT t)⟩ ∧ st 4 = ⟨1, .buf [.int .i64 0, .bool false, .sl [] 0 .nil, .str [], .int .i64 0, .sl [] 0 .nil]⟩ ∧ st 6 = ⟨1, .buf five⟩ ∧ i ≤ 5) (fun i => 5 - i) (fun _ => (.tree (.tup [encT (revT t).1, .bool (revT t).2]), [[], []])) ?_ R 0 _ _ (by omega) ⟨(by simp only [zfr, ↓reduceIte, Nat.reduceEqDiff, env0, List.getElem?_cons_zero]; try rfl), (by simp only [zfr, ↓reduceIte, Nat.reduceEqDiff]; try rfl), (by simp only [zfr, ↓reduceIte, Nat.reduceEqDiff]; try rfl), (by simp only [zfr, ↓reduceIte, Nat.reduceEqDiff]; try rfl), (by simp only [zfr, ↓reduceIte, Nat.reduceEqDiff]; try rfl), (by simp only [zfr, ↓reduceIte, Nat.reduceEqDiff]; try rfl), (by simp only [zfr, ↓reduceIte, Nat.reduceEqDiff]; try rfl), (by simp only [zfr, ↓reduceIte, Nat.reduceEqDiff]; try rfl), Nat.zero_le _⟩
  intro rr i hr ih env st ⟨e0, e3, e4, e6, e7, j3, j4, j6, hi⟩
  by_cases hlt : i < 5
  · have hb := hnm i hlt
    have q1 : (i : Int) < 5 := by omega
    have ia := fun t p k xs => iaS5_buf t p k i xs (by omega)
    have ld := fun t k => ldS5 t k i (by omega)
    have f5 := i_add Tryz.prog 3 (i : Int) 1 (by omega) (by omega)
    simp only [simB, zbo, Nat.reduceBEq, own0, ↓reduceIte, Nat.reduceEqDiff, Nat.reduceAdd, simL, simN, Nat.zero_add, zex, List.toList_toArray, len9, ix9, zey, zez, zfa, zfb, zfc, e0, e3, e4, e6, e7, j3, j4, j6, q1, ia_S5, ia, ld, s_eqlS, hb, f5]
    exact ih (i + 1) _ _ (by omega) rfl ⟨(by simp only [zfr, ↓reduceIte, Nat.reduceEqDiff, e0]; try rfl), (by simp only [zfr, ↓reduceIte, Nat.reduceEqDiff, e3]; try rfl), (by simp only [zfr, ↓reduceIte, Nat.reduceEqDiff, e4]; try rfl), (by simp only [zfr, ↓reduceIte, Nat.reduceEqDiff, e6]; try rfl), (by simp only [zfr, ↓reduceIte, Nat.reduceEqDiff]; try rfl), (by simp only [zfr, ↓reduceIte, Nat.reduceEqDiff, j3]; try rfl), (by simp only [zfr, ↓reduceIte, Nat.reduceEqDiff, j4]; try rfl), (by simp only [zfr, ↓reduceIte, Nat.reduceEqDiff, j6]; try rfl), by omega⟩
  have hie : i = 5 := by omega
  subst hie
  have q1 : ¬ ((5 : Nat) : Int) < 5 := by omega
  have ct := fun D st => callA_trees (cfg := cfg0) (d := D) (s := st) (f := 55) (vs := [encT t]) rfl (rItemsA_eq R (d+5) t hn (by omega))
  clear ih
  cases hI : itemsT t with
  | none =>
    rw [hI] at ct
    simp only [encT, itemsV] at ct
    rw [rev_no t hI]
    simp only [simB, zbo, Nat.reduceBEq, own0, ↓reduceIte, Nat.reduceEqDiff, Nat.reduceAdd, simA, simL, simN, Nat.zero_add, zex, List.toList_toArray, len9, ix9, zey, zez, zfa, zfb, zfc, simV, e0, e3, e4, e6, e7, j3, j4, j6, q1, ct, ldT_u, s_eqlS, w0, w1, w2, w3, w4, lenTk, zdu, bdT_00, st_Tt, stT_6]
    exact finish_T2 _ _ _ _ _ (T0) _ _ _ _ _ (by simp only [zfr, ↓reduceIte, Nat.reduceEqDiff, e4]; try rfl) (by simp only [zfr, ↓reduceIte, Nat.reduceEqDiff]; try rfl) (by simp only [zfr, ↓reduceIte, Nat.reduceEqDiff]; try rfl) rfl
  | some us =>
    rw [hI] at ct
    simp only [encT, itemsV] at ct
    have hil := items_len t us hI
    rw [rev_yes t us hI]
    have f6 := i_sub Tryz.prog 3 (us.length : Int) 1 (by omega) (by omega)
    simp only [simB, zbo, Nat.reduceBEq, own0, ↓reduceIte, Nat.reduceEqDiff, Nat.reduceAdd, simA, simL, simN, Nat.zero_add, zex, List.toList_toArray, len9, ix9, zey, zez, zfa, zfb, zfc, simV, e0, e3, e4, e6, e7, j3, j4, j6, q1, ct, ldT_u, s_eqlS, w0, w1, w2, w3, w4, lenTk, zdu, bdT_00, st_Tt, stT_6, f6, den_loop]
    refine loop_ends (X := Nat) (fun j env st => env 4 = .ptr 4 1 0 ∧ st 4 = ⟨1, .buf [.int .i64 0, .bool false, .sl [] 0 .nil, .str [], .int .i64 0, .sl [] 0 .nil]⟩ ∧ env 8 = .sl (cellsK us) us.length (gr (kgOf us)) ∧ env 11 = .int .i64 ((us.length : Int) - 1 - j) ∧ Ap st 101 (env 10) (us.reverse.take j) ∧ j ≤ us.length) (fun j => us.length - j) (fun _ => (.tree (.tup [encT (listT us.reverse nilT'), .bool true]), [[], []])) ?_ R 0 _ _ (by omega) ⟨(by simp only [zfr, ↓reduceIte, Nat.reduceEqDiff, e4]; try rfl), (by simp only [zfr, ↓reduceIte, Nat.reduceEqDiff, j4]; try rfl), (by simp only [zfr, ↓reduceIte, Nat.reduceEqDiff]; try rfl), by rw [show (us.length : Int) - 1 - (0 : Nat) = (us.length : Int) - 1 by omega]; exact (by simp only [zfr, ↓reduceIte, Nat.reduceEqDiff]; try rfl), .inl ⟨rfl, (by simp only [zfr, ↓reduceIte, Nat.reduceEqDiff]; try rfl)⟩, Nat.zero_le _⟩
    clear j3 j4 j6 e0 e3 e4 e6 e7
    intro rr j hr ih env st ⟨e4, j4, e8, e11, ap, hj⟩
    by_cases hlt : j < us.length
    · have q1 : ((us.length : Int) - 1 - j) ≥ 0 := by omega
      have hlr : j < us.reverse.length := by rw [List.length_reverse]; exact hlt
      have hlt' : us.length - 1 - j < us.length := by omega
      have ia := fun st => ia_K st us (gr (kgOf us)) (us.length - 1 - j) hlt'
      rw [List.drop_eq_getElem_cons hlt', show ((us.length - 1 - j : Nat) : Int) = (us.length : Int) - 1 - j by omega] at ia
      have ld := fun st => ld_KW st us[us.length - 1 - j] (us.drop (us.length - 1 - j + 1))
      obtain ⟨x', s', a1, a2, a3⟩ := ap.push (by rw [List.length_take, List.length_reverse]; omega) us[us.length - 1 - j]
      have f5 := i_sub Tryz.prog 3 ((us.length : Int) - 1 - j) 1 (by omega) (by omega)
      have hm : us.reverse.take (j + 1) = us.reverse.take j ++ [us[us.length - 1 - j]] := by
        rw [List.take_succ_eq_append_getElem hlr, List.getElem_reverse]
      simp only [simB, zbo, Nat.reduceBEq, own0, ↓reduceIte, Nat.reduceEqDiff, Nat.reduceAdd, simL, simN, Nat.zero_add, e4, e8, e11, q1, ia, ld, opA_one26, one26_T, a1, f5]
      exact ih (j + 1) _ _ (by omega) rfl ⟨(by simp only [zfr, ↓reduceIte, Nat.reduceEqDiff, e4]; try rfl), by rw [a3 4 (by decide)]; exact j4, (by simp only [zfr, ↓reduceIte, Nat.reduceEqDiff, e8]; try rfl), by rw [show (us.length : Int) - 1 - ((j + 1 : Nat) : Int) = (us.length : Int) - 1 - j - 1 by omega]; exact (by simp only [zfr, ↓reduceIte, Nat.reduceEqDiff]; try rfl), by rw [hm]; exact a2, by omega⟩
    · have hje : j = us.length := by omega
      subst hje
      have q1 : ¬ ((us.length : Int) - 1 - (us.length : Int)) ≥ 0 := by omega
      rw [show us.reverse.take us.length = us.reverse from List.take_of_length_le (by rw [List.length_reverse]; omega)] at ap
      obtain ⟨hl1, hl2⟩ := ap.lent
      have cl := fun D st => callA_loose (call := evalFn Tryz.prog cfg0 R (d+6)) (d := D) (s := st) (f := 16) (vs := [env 10, encT nilT']) (vs' := [.sl (cellsK us.reverse) us.reverse.length (gr (kgOf us.reverse)), encT nilT']) (by simp only [List.all_cons, hl1, encT, lent_T, List.all_nil, Bool.and_self]) (by simp only [List.map_cons, hl2]; rfl) (rList_eq R (d+5) us.reverse _ nilT' (by rw [List.length_reverse]; omega) (by rw [List.length_reverse]; omega))
      simp only [encT] at cl
      simp only [simB, zbo, Nat.reduceBEq, own0, ↓reduceIte, Nat.reduceEqDiff, Nat.reduceAdd, simL, simN, Nat.zero_add, e4, j4, e8, e11, q1, bdN3, cl, st_Tt, stT_6]
      exact finish_T2 _ _ _ _ _ (listT us.reverse nilT') _ _ _ _ _ (by simp only [zfr, ↓reduceIte, Nat.reduceEqDiff, e4]; try rfl) (by simp only [zfr, ↓reduceIte, Nat.reduceEqDiff]; try rfl) (by simp only [zfr, ↓reduceIte, Nat.reduceEqDiff]; try rfl) rfl
end Go.Ab
