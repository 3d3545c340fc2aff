/- Several texts put together: AbzV18, AbzV19, AbzLawBCalls. Conditions: as each part says. -/
import Derived.Test.YtpgnjcckmmkmkaaGreatDoorAbBCallsZ09
import Derived.Test.YtpgnjcckmmkmkaaGreatDoorAbBCallsZ07
/- bif.Call and relictref19.Call of terms that are few (CFG4; printed by gen18.py). Conditions: terms that are few; a name that is no longer than a number may tell. -/
namespace Go.Ab
open Go.Proofs
set_option maxRecDepth 100000
set_option linter.unusedSimpArgs false

theorem cont_error : evalFn Tryz.prog cfg0 100000 20 33 [.tree (.sl throws 3 .tight), .tree (.str w_error)] = some (.tree (.bool true), [[], []]) := by kernel_rfl
theorem cont_exit : evalFn Tryz.prog cfg0 100000 20 33 [.tree (.sl throws 3 .tight), .tree (.str w_exit)] = some (.tree (.bool true), [[], []]) := by kernel_rfl
theorem cont_throw : evalFn Tryz.prog cfg0 100000 20 33 [.tree (.sl throws 3 .tight), .tree (.str w_throw)] = some (.tree (.bool true), [[], []]) := by kernel_rfl
theorem cont_hd : evalFn Tryz.prog cfg0 100000 20 33 [.tree (.sl throws 3 .tight), .tree (.str w_hd)] = some (.tree (.bool false), [[], []]) := by kernel_rfl
theorem cont_tl : evalFn Tryz.prog cfg0 100000 20 33 [.tree (.sl throws 3 .tight), .tree (.str w_tl)] = some (.tree (.bool false), [[], []]) := by kernel_rfl
theorem cont_tuple_size : evalFn Tryz.prog cfg0 100000 20 33 [.tree (.sl throws 3 .tight), .tree (.str w_tuple_size)] = some (.tree (.bool false), [[], []]) := by kernel_rfl
theorem cont_byte_size : evalFn Tryz.prog cfg0 100000 20 33 [.tree (.sl throws 3 .tight), .tree (.str w_byte_size)] = some (.tree (.bool false), [[], []]) := by kernel_rfl
theorem cont_length : evalFn Tryz.prog cfg0 100000 20 33 [.tree (.sl throws 3 .tight), .tree (.str w_length)] = some (.tree (.bool false), [[], []]) := by kernel_rfl
theorem cont_list_to_tuple : evalFn Tryz.prog cfg0 100000 20 33 [.tree (.sl throws 3 .tight), .tree (.str w_list_to_tuple)] = some (.tree (.bool false), [[], []]) := by kernel_rfl
theorem cont_tuple_to_list : evalFn Tryz.prog cfg0 100000 20 33 [.tree (.sl throws 3 .tight), .tree (.str w_tuple_to_list)] = some (.tree (.bool false), [[], []]) := by kernel_rfl
theorem cont_integer_to_list : evalFn Tryz.prog cfg0 100000 20 33 [.tree (.sl throws 3 .tight), .tree (.str w_integer_to_list)] = some (.tree (.bool false), [[], []]) := by kernel_rfl
theorem cont_atom_to_list : evalFn Tryz.prog cfg0 100000 20 33 [.tree (.sl throws 3 .tight), .tree (.str w_atom_to_list)] = some (.tree (.bool false), [[], []]) := by kernel_rfl
theorem cont_element : evalFn Tryz.prog cfg0 100000 20 33 [.tree (.sl throws 3 .tight), .tree (.str w_element)] = some (.tree (.bool false), [[], []]) := by kernel_rfl
theorem cont_pp : evalFn Tryz.prog cfg0 100000 20 33 [.tree (.sl throws 3 .tight), .tree (.str w_pp)] = some (.tree (.bool false), [[], []]) := by kernel_rfl
theorem cont_max : evalFn Tryz.prog cfg0 100000 20 33 [.tree (.sl throws 3 .tight), .tree (.str w_max)] = some (.tree (.bool false), [[], []]) := by kernel_rfl
theorem cont_min : evalFn Tryz.prog cfg0 100000 20 33 [.tree (.sl throws 3 .tight), .tree (.str w_min)] = some (.tree (.bool false), [[], []]) := by kernel_rfl
theorem cont_setelement : evalFn Tryz.prog cfg0 100000 20 33 [.tree (.sl throws 3 .tight), .tree (.str w_setelement)] = some (.tree (.bool false), [[], []]) := by kernel_rfl
theorem arE_cases (s : List UInt8) (k : Int) (h : arE s = k) (hk : 0 < k) : (s = w_error ∧ k = 1) ∨ (s = w_exit ∧ k = 1) ∨ (s = w_throw ∧ k = 1) ∨ (s = w_hd ∧ k = 1) ∨ (s = w_tl ∧ k = 1) ∨ (s = w_tuple_size ∧ k = 1) ∨ (s = w_byte_size ∧ k = 1) ∨ (s = w_length ∧ k = 1) ∨ (s = w_list_to_tuple ∧ k = 1) ∨ (s = w_tuple_to_list ∧ k = 1) ∨ (s = w_integer_to_list ∧ k = 1) ∨ (s = w_atom_to_list ∧ k = 1) ∨ (s = w_element ∧ k = 2) ∨ (s = w_pp ∧ k = 2) ∨ (s = w_max ∧ k = 2) ∨ (s = w_min ∧ k = 2) ∨ (s = w_setelement ∧ k = 3) := by
  unfold arE at h
  by_cases e0 : (s == w_error) = true
  · exact Or.inl ⟨eq_of_beq e0, by rw [if_pos e0] at h; exact h.symm⟩
  rw [if_neg e0] at h
  by_cases e1 : (s == w_exit) = true
  · exact Or.inr (Or.inl ⟨eq_of_beq e1, by rw [if_pos e1] at h; exact h.symm⟩)
  rw [if_neg e1] at h
  by_cases e2 : (s == w_throw) = true
  · exact Or.inr (Or.inr (Or.inl ⟨eq_of_beq e2, by rw [if_pos e2] at h; exact h.symm⟩))
  rw [if_neg e2] at h
  by_cases e3 : (s == w_hd) = true
  · exact Or.inr (Or.inr (Or.inr (Or.inl ⟨eq_of_beq e3, by rw [if_pos e3] at h; exact h.symm⟩)))
  rw [if_neg e3] at h
  by_cases e4 : (s == w_tl) = true
  · exact Or.inr (Or.inr (Or.inr (Or.inr (Or.inl ⟨eq_of_beq e4, by rw [if_pos e4] at h; exact h.symm⟩))))
  rw [if_neg e4] at h
  by_cases e5 : (s == w_tuple_size) = true
  · exact Or.inr (Or.inr (Or.inr (Or.inr (Or.inr (Or.inl ⟨eq_of_beq e5, by rw [if_pos e5] at h; exact h.symm⟩)))))
  rw [if_neg e5] at h
  by_cases e6 : (s == w_byte_size) = true
  · exact Or.inr (Or.inr (Or.inr (Or.inr (Or.inr (Or.inr (Or.inl ⟨eq_of_beq e6, by rw [if_pos e6] at h; exact h.symm⟩))))))
  rw [if_neg e6] at h
  by_cases e7 : (s == w_length) = true
  · exact Or.inr (Or.inr (Or.inr (Or.inr (Or.inr (Or.inr (Or.inr (Or.inl ⟨eq_of_beq e7, by rw [if_pos e7] at h; exact h.symm⟩)))))))
  rw [if_neg e7] at h
  by_cases e8 : (s == w_list_to_tuple) = true
  · exact Or.inr (Or.inr (Or.inr (Or.inr (Or.inr (Or.inr (Or.inr (Or.inr (Or.inl ⟨eq_of_beq e8, by rw [if_pos e8] at h; exact h.symm⟩))))))))
  rw [if_neg e8] at h
  by_cases e9 : (s == w_tuple_to_list) = true
  · exact Or.inr (Or.inr (Or.inr (Or.inr (Or.inr (Or.inr (Or.inr (Or.inr (Or.inr (Or.inl ⟨eq_of_beq e9, by rw [if_pos e9] at h; exact h.symm⟩)))))))))
  rw [if_neg e9] at h
  by_cases e10 : (s == w_integer_to_list) = true
  · exact Or.inr (Or.inr (Or.inr (Or.inr (Or.inr (Or.inr (Or.inr (Or.inr (Or.inr (Or.inr (Or.inl ⟨eq_of_beq e10, by rw [if_pos e10] at h; exact h.symm⟩))))))))))
  rw [if_neg e10] at h
  by_cases e11 : (s == w_atom_to_list) = true
  · exact Or.inr (Or.inr (Or.inr (Or.inr (Or.inr (Or.inr (Or.inr (Or.inr (Or.inr (Or.inr (Or.inr (Or.inl ⟨eq_of_beq e11, by rw [if_pos e11] at h; exact h.symm⟩)))))))))))
  rw [if_neg e11] at h
  by_cases e12 : (s == w_element) = true
  · exact Or.inr (Or.inr (Or.inr (Or.inr (Or.inr (Or.inr (Or.inr (Or.inr (Or.inr (Or.inr (Or.inr (Or.inr (Or.inl ⟨eq_of_beq e12, by rw [if_pos e12] at h; exact h.symm⟩))))))))))))
  rw [if_neg e12] at h
  by_cases e13 : (s == w_pp) = true
  · exact Or.inr (Or.inr (Or.inr (Or.inr (Or.inr (Or.inr (Or.inr (Or.inr (Or.inr (Or.inr (Or.inr (Or.inr (Or.inr (Or.inl ⟨eq_of_beq e13, by rw [if_pos e13] at h; exact h.symm⟩)))))))))))))
  rw [if_neg e13] at h
  by_cases e14 : (s == w_max) = true
  · exact Or.inr (Or.inr (Or.inr (Or.inr (Or.inr (Or.inr (Or.inr (Or.inr (Or.inr (Or.inr (Or.inr (Or.inr (Or.inr (Or.inr (Or.inl ⟨eq_of_beq e14, by rw [if_pos e14] at h; exact h.symm⟩))))))))))))))
  rw [if_neg e14] at h
  by_cases e15 : (s == w_min) = true
  · exact Or.inr (Or.inr (Or.inr (Or.inr (Or.inr (Or.inr (Or.inr (Or.inr (Or.inr (Or.inr (Or.inr (Or.inr (Or.inr (Or.inr (Or.inr (Or.inl ⟨eq_of_beq e15, by rw [if_pos e15] at h; exact h.symm⟩)))))))))))))))
  rw [if_neg e15] at h
  by_cases e16 : (s == w_setelement) = true
  · exact Or.inr (Or.inr (Or.inr (Or.inr (Or.inr (Or.inr (Or.inr (Or.inr (Or.inr (Or.inr (Or.inr (Or.inr (Or.inr (Or.inr (Or.inr (Or.inr (⟨eq_of_beq e16, by rw [if_pos e16] at h; exact h.symm⟩))))))))))))))))
  rw [if_neg e16] at h
  omega
theorem arL_cases (s : List UInt8) (k : Int) (h : arL s = k) (hk : 0 < k) : (s = w_reverse ∧ k = 1) ∨ (s = w_member ∧ k = 2) := by
  unfold arL at h
  by_cases e0 : (s == w_reverse) = true
  · exact Or.inl ⟨eq_of_beq e0, by rw [if_pos e0] at h; exact h.symm⟩
  rw [if_neg e0] at h
  by_cases e1 : (s == w_member) = true
  · exact Or.inr ⟨eq_of_beq e1, by rw [if_pos e1] at h; exact h.symm⟩
  rw [if_neg e1] at h
  omega
structure CallP (m s : List UInt8) (us : List T) (x y : T) (c : List UInt8) (r r' : T) (o : Bool) : Prop where
  p : ∀ n d, 2000 < n → evalFn Tryz.prog cfg4 n (d+5) 8 [.tree (.str m), .tree (.str s), .tree (.sl (cellsK (copyK us)) (copyK us).length (gr (kgOf (copyK us))))] = some (.tree (.tup [encT x, .agg (errG c r), .bool o]), [[], [], []])
  q : ∀ n d, 2000 < n → evalFn Tryz.prog cfg4 n (d+5) 10 [.tree (.str m), .tree (.str s), .tree (.sl (cellsK us) us.length .loose)] = some (.tree (.tup [encT y, .agg (errG c r'), .bool o]), [[], [], []])
  ok : okX x
  same : bareT x = bareT y
  okr : okX r
  samer : bareT r = bareT r'
theorem kg_cons (t : T) (r : List T) : gr (kgOf (copyK (t :: r))) = .loose := by
  have h : copyK (t :: r) ≠ [] := by rw [copyK_map]; simp
  rw [kgOf, if_neg h]; rfl
theorem gr_tok (g : Gk) : (gr g).isTok = false := by cases g <;> rfl
theorem okX_at (s : List UInt8) : okX (atomT s) := okX_leaf 2 false .n [] s 0 (by simp)
theorem callP_undef (m s : List UInt8) (us : List T) (hs : s.length ≤ 9000000000000000000) (hh : hasW m s us.length = false) : ∃ x y c r r' o, CallP m s us x y c r r' o := by
  refine ⟨T0, T0, sErrW, atomT sUndefW, atomT sUndefW, false, ⟨fun n d _ => ?_, fun n d _ => ?_, okX_0, rfl, okX_at _, rfl⟩⟩
  · exact callU_undef n (d+3) m s (copyK us) (gr (kgOf (copyK us))) hs (by rw [copyK_len]; exact hh)
  · exact rcallU_undef n (d+1) m s us .loose hh
theorem callP_thrown (m s : List UInt8) (t : T) (ht : FewY t) (hm : m = erlW) (hs : s.length ≤ 9000000000000000000) (hh : hasW m s ([t].length : Nat) = true) (hc : evalFn Tryz.prog cfg0 100000 20 33 [.tree (.sl throws 3 .tight), .tree (.str s)] = some (.tree (.bool true), [[], []])) (hi : isThr s = true) : ∃ x y c r r' o, CallP m s [t] x y c r r' o := by
  have hn := ht.nod
  refine ⟨T0, T0, s, copyT t, t, false, ⟨fun n d _ => ?_, fun n d _ => ?_, okX_0, rfl, okX_nod _ (few_copy _ _ ht.few) (by rw [nod_copy]; omega), bare_copy t⟩⟩
  · exact callU_thrown n (d+3) m s (copyK [t]) (gr (kgOf (copyK [t]))) hs (copyT t) [] hm (by simp only [copyK]) (by rw [copyK_len]; exact hh) hc
  · exact rcallU_thrown n (d+1) m s [t] .loose t [] hm rfl hh hi
theorem callP1 (m s : List UInt8) (t : T) (hs : s.length ≤ 9000000000000000000) (hh : hasW m s ([t].length : Nat) = true) (hc : m ≠ erlW ∨ evalFn Tryz.prog cfg0 100000 20 33 [.tree (.sl throws 3 .tight), .tree (.str s)] = some (.tree (.bool false), [[], []])) (hi : isThr s = false) (A : ∃ x y o, Ans1 s t x y o) : ∃ x y c r r' o, CallP m s [t] x y c r r' o := by
  obtain ⟨x, y, o, a⟩ := A
  have ec : copyK [t] = [copyT t] := by simp only [copyK]
  have hh' : hasW m s ((copyK [t]).length : Nat) = true := by rw [copyK_len]; exact hh
  have ap : ∀ n d, evalFn Tryz.prog cfg4 n (d+2) 34 [.tree (.str s), .tree (.sl (cellsK (copyK [t])) (copyK [t]).length (gr (kgOf (copyK [t]))))] = some (.tree (.tup [encT x, .bool o]), [[], []]) := by
    intro n d
    rw [kg_cons, ec]
    exact banswer1W n d s (copyT t) x o .loose a.p
  have hny := nod_bare2 a.same a.ok.2
  cases o with
  | false =>
    exact ⟨T0, T0, sErrW, atomT sBad, atomT sBad, false, ⟨fun n d _ => callU_bad n (d+3) m s (copyK [t]) _ (gr_tok _) hs x hh' hc (ap n (d+2)), fun n d _ => rcall_one_bad n (d+1) m s [t] .loose rfl y hh (.inr hi) t rfl a.q, okX_0, rfl, okX_at _, rfl⟩⟩
  | true =>
    exact ⟨x, y, [], T0, T0, true, ⟨fun n d _ => callU_ok n (d+3) m s (copyK [t]) _ (gr_tok _) hs x a.ok.2 hh' hc (ap n (d+2)), fun n d _ => rcall_one_ok n (d+1) m s [t] .loose rfl y hny hh (.inr hi) t rfl a.q, a.ok.1, a.same, okX_0, rfl⟩⟩
theorem callPN (m s : List UInt8) (t : T) (us : List T) (hl : us ≠ []) (hs : s.length ≤ 9000000000000000000) (hh : hasW m s ((t :: us).length : Nat) = true) (hc : m ≠ erlW ∨ evalFn Tryz.prog cfg0 100000 20 33 [.tree (.sl throws 3 .tight), .tree (.str s)] = some (.tree (.bool false), [[], []])) (hi : isThr s = false) (A : ∃ x y o, AnsN s (t :: us) x y o) : ∃ x y c r r' o, CallP m s (t :: us) x y c r r' o := by
  obtain ⟨x, y, o, a⟩ := A
  have h1 : (t :: us).length ≠ 1 := by
    have := List.length_pos_iff.mpr hl
    rw [List.length_cons]; omega
  have hh' : hasW m s ((copyK (t :: us)).length : Nat) = true := by rw [copyK_len]; exact hh
  have ap : ∀ n d, evalFn Tryz.prog cfg4 n (d+2) 34 [.tree (.str s), .tree (.sl (cellsK (copyK (t :: us))) (copyK (t :: us)).length (gr (kgOf (copyK (t :: us)))))] = some (.tree (.tup [encT x, .bool o]), [[], []]) := by
    intro n d
    rw [kg_cons]
    exact a.p n d
  cases o with
  | false =>
    exact ⟨T0, T0, sErrW, atomT sBad, atomT sBad, false, ⟨fun n d _ => callU_bad n (d+3) m s (copyK (t :: us)) _ (gr_tok _) hs x hh' hc (ap n (d+2)), fun n d hn => rcall_more_bad n (d+1) m s (t :: us) .loose rfl y hh (.inr hi) h1 (a.q n (d+2) hn), okX_0, rfl, okX_at _, rfl⟩⟩
  | true =>
    have hok := a.ok.resolve_right (by decide)
    have hsm := a.same.resolve_right (by decide)
    exact ⟨x, y, [], T0, T0, true, ⟨fun n d _ => callU_ok n (d+3) m s (copyK (t :: us)) _ (gr_tok _) hs x hok.2 hh' hc (ap n (d+2)), fun n d hn => rcall_more_ok n (d+1) m s (t :: us) .loose rfl y (nod_bare2 hsm hok.2) hh (.inr hi) h1 (a.q n (d+2) hn), hok.1, hsm, okX_0, rfl⟩⟩
theorem of1 (us : List T) (h : (us.length : Int) = 1) : ∃ t, us = [t] := by
  match us, h with
  | [t], _ => exact ⟨t, rfl⟩
  | [], h => simp at h
  | _ :: _ :: _, h => simp only [List.length_cons] at h; omega
theorem of2 (us : List T) (h : (us.length : Int) = 2) : ∃ a b, us = [a, b] := by
  match us, h with
  | [a, b], _ => exact ⟨a, b, rfl⟩
  | [], h => simp at h
  | [_], h => simp at h
  | _ :: _ :: _ :: _, h => simp only [List.length_cons] at h; omega
theorem of3 (us : List T) (h : (us.length : Int) = 3) : ∃ a b c, us = [a, b, c] := by
  match us, h with
  | [a, b, c], _ => exact ⟨a, b, c, rfl⟩
  | [], h => simp at h
  | [_], h => simp at h
  | [_, _], h => simp at h
  | _ :: _ :: _ :: _ :: _, h => simp only [List.length_cons] at h; omega
theorem calls_pair (m s : List UInt8) (us : List T) (hs : s.length ≤ 9000000000000000000) (hy : ∀ t ∈ us, FewY t) : ∃ x y c r r' o, CallP m s us x y c r r' o := by
  cases hh : hasW m s us.length with
  | false => exact callP_undef m s us hs hh
  | true =>
  have hne : erlW ≠ lisW := by decide
  by_cases hm : m = erlW
  · have h1 := hh
    rw [hm, has_e, Bool.and_eq_true, decide_eq_true_eq, beq_iff_eq] at h1
    rcases arE_cases s _ h1.2 h1.1 with ⟨rfl, hk⟩ | ⟨rfl, hk⟩ | ⟨rfl, hk⟩ | ⟨rfl, hk⟩ | ⟨rfl, hk⟩ | ⟨rfl, hk⟩ | ⟨rfl, hk⟩ | ⟨rfl, hk⟩ | ⟨rfl, hk⟩ | ⟨rfl, hk⟩ | ⟨rfl, hk⟩ | ⟨rfl, hk⟩ | ⟨rfl, hk⟩ | ⟨rfl, hk⟩ | ⟨rfl, hk⟩ | ⟨rfl, hk⟩ | ⟨rfl, hk⟩
    · obtain ⟨t, rfl⟩ := of1 us hk
      exact callP_thrown m w_error t (hy t (by simp)) hm hs hh cont_error (by decide)
    · obtain ⟨t, rfl⟩ := of1 us hk
      exact callP_thrown m w_exit t (hy t (by simp)) hm hs hh cont_exit (by decide)
    · obtain ⟨t, rfl⟩ := of1 us hk
      exact callP_thrown m w_throw t (hy t (by simp)) hm hs hh cont_throw (by decide)
    · obtain ⟨t, rfl⟩ := of1 us hk
      exact callP1 m w_hd t hs hh (.inr cont_hd) (by decide) (ans1_hd t (hy t (by simp)))
    · obtain ⟨t, rfl⟩ := of1 us hk
      exact callP1 m w_tl t hs hh (.inr cont_tl) (by decide) (ans1_tl t (hy t (by simp)))
    · obtain ⟨t, rfl⟩ := of1 us hk
      exact callP1 m w_tuple_size t hs hh (.inr cont_tuple_size) (by decide) (ans1_tuple_size t (hy t (by simp)))
    · obtain ⟨t, rfl⟩ := of1 us hk
      exact callP1 m w_byte_size t hs hh (.inr cont_byte_size) (by decide) (ans1_byte_size t (hy t (by simp)))
    · obtain ⟨t, rfl⟩ := of1 us hk
      exact callP1 m w_length t hs hh (.inr cont_length) (by decide) (ans1_length t (hy t (by simp)))
    · obtain ⟨t, rfl⟩ := of1 us hk
      exact callP1 m w_list_to_tuple t hs hh (.inr cont_list_to_tuple) (by decide) (ans1_list_to_tuple t (hy t (by simp)))
    · obtain ⟨t, rfl⟩ := of1 us hk
      exact callP1 m w_tuple_to_list t hs hh (.inr cont_tuple_to_list) (by decide) (ans1_tuple_to_list t (hy t (by simp)))
    · obtain ⟨t, rfl⟩ := of1 us hk
      exact callP1 m w_integer_to_list t hs hh (.inr cont_integer_to_list) (by decide) (ans1_integer_to_list t (hy t (by simp)))
    · obtain ⟨t, rfl⟩ := of1 us hk
      exact callP1 m w_atom_to_list t hs hh (.inr cont_atom_to_list) (by decide) (ans1_atom_to_list t (hy t (by simp)))
    · obtain ⟨a, b, rfl⟩ := of2 us hk
      exact callPN m w_element a [b] (by simp) hs hh (.inr cont_element) (by decide) (ans_element a b (hy a (by simp)) (hy b (by simp)))
    · obtain ⟨a, b, rfl⟩ := of2 us hk
      exact callPN m w_pp a [b] (by simp) hs hh (.inr cont_pp) (by decide) (ans_pp a b (hy a (by simp)) (hy b (by simp)))
    · obtain ⟨a, b, rfl⟩ := of2 us hk
      exact callPN m w_max a [b] (by simp) hs hh (.inr cont_max) (by decide) (ans_max a b (hy a (by simp)) (hy b (by simp)))
    · obtain ⟨a, b, rfl⟩ := of2 us hk
      exact callPN m w_min a [b] (by simp) hs hh (.inr cont_min) (by decide) (ans_min a b (hy a (by simp)) (hy b (by simp)))
    · obtain ⟨a, b, c, rfl⟩ := of3 us hk
      exact callPN m w_setelement a [b, c] (by simp) hs hh (.inr cont_setelement) (by decide) (ans_setelement a b (hy a (by simp)) (hy b (by simp)) c (hy c (by simp)))
  · by_cases hl : m = lisW
    · have h1 := hh
      rw [hl, has_l, Bool.and_eq_true, decide_eq_true_eq, beq_iff_eq] at h1
      rcases arL_cases s _ h1.2 h1.1 with ⟨rfl, hk⟩ | ⟨rfl, hk⟩
      · obtain ⟨t, rfl⟩ := of1 us hk
        exact callP1 m w_reverse t hs hh (.inl hm) (by decide) (ans1_reverse t (hy t (by simp)))
      · obtain ⟨a, b, rfl⟩ := of2 us hk
        exact callPN m w_member a [b] (by simp) hs hh (.inl hm) (by decide) (ans_member a b (hy a (by simp)) (hy b (by simp)))
    · rw [has_n m s _ hm hl] at hh; cases hh
end Go.Ab

/- The statement BifCalls (CFG4). Conditions: terms; limbs, texts in range; a name that is no longer than a number may tell. -/
namespace Go.Ab
open Go.Proofs
set_option maxRecDepth 100000
set_option linter.unusedSimpArgs false

theorem fdEV0 : fieldOf Tryz.prog 31 0 = some (9, 0) := by kernel_rfl
theorem fdEV1 : fieldOf Tryz.prog 31 1 = some (29, 1) := by kernel_rfl
theorem faEV_0 (s : St) (p k : Nat) : fieldAddrA Tryz.prog 31 s (.ptr p k 0) 0 = faE (s p) p k 0 := by
  simp only [fieldAddrA, fdEV0, esz9, live, cellsAt_E, faE, Nat.zero_add]
theorem faEV_1 (s : St) (p k : Nat) : fieldAddrA Tryz.prog 31 s (.ptr p k 0) 1 = faE (s p) p k 1 := by
  simp only [fieldAddrA, fdEV1, eszT, live, cellsAt_E, faE, Nat.zero_add]
theorem fdQ0 : fieldOf Tryz.prog 35 0 = some (9, 0) := by kernel_rfl
theorem fdQ1 : fieldOf Tryz.prog 35 1 = some (29, 1) := by kernel_rfl
theorem faQ_0 (s : St) (p k : Nat) : fieldAddrA Tryz.prog 35 s (.ptr p k 0) 0 = faE (s p) p k 0 := by
  simp only [fieldAddrA, fdQ0, esz9, live, cellsAt_E, faE, Nat.zero_add]
theorem faQ_1 (s : St) (p k : Nat) : fieldAddrA Tryz.prog 35 s (.ptr p k 0) 1 = faE (s p) p k 1 := by
  simp only [fieldAddrA, fdQ1, eszT, live, cellsAt_E, faE, Nat.zero_add]
theorem ldG_0 (t k : Nat) (x : List UInt8) (r : T) : ldE Tryz.prog 9 ⟨t, .buf (errG x r)⟩ k 0 = if t = k then some (.str x) else none := by
  rw [ldE_buf, cellsE_buf]
  by_cases h : t = k
  · simp only [h, if_true, Option.bind_some, partA, shTs, errG]; rfl
  · simp [h]
theorem ldG_1 (t k : Nat) (x : List UInt8) (r : T) : ldE Tryz.prog 29 ⟨t, .buf (errG x r)⟩ k 1 = if t = k then some (.agg (cellsT r)) else none := by
  rw [ldE_buf, cellsE_buf]
  obtain ⟨k1, b, lg, l, s, m, kg, ks⟩ := r
  by_cases h : t = k
  · simp only [h, if_true, Option.bind_some, partA, shT, errG]; rfl
  · simp [h]
set_option maxHeartbeats 64000000 in
theorem calls_B (n : Nat) (hn : 3000 ≤ n) (m s : List UInt8) (l : List T) (k : Int) (hs : s.length ≤ 9000000000000000000) (hl : bigK 9223372036854775808 l) (fl : fewK 9223372036854775808 l) :
    evalFn Tryz.prog cfg4 n 10 3 [.tree (.str m), .tree (.str s), .tree (.sl (cellsK l) l.length .loose), .tree (.int .i64 k)] = some (.tree (.bool true), [[], [], [], []]) := by
  rw [evalFn_go _ Tryz.func3 (by unfold Tryz.f3; rfl) (by unfold Tryz.f3; decide) (Nat.le_of_ble_eq_true (by unfold Tryz.f3; rfl)) (by kernel_rfl)]
  have wa := fun D st => callA_trees (cfg := cfg4) (d := D) (s := st) (f := 7) (vs := []) rfl (awake4 n 8)
  have k3 := fun D st => callA_trees (cfg := cfg4) (d := D) (s := st) (f := 6) (vs := [.sl (cellsK l) l.length .loose]) rfl (few4 n 8 l .loose hl fl)
  cases g3 : (fewR 12 l && decide (l.length ≤ 12)) with
  | false =>
    rw [g3] at k3
    simp only [simB, keep4, Nat.reduceBEq, own4, String.reduceAppend, String.reduceBEq, Bool.or_false, Bool.or_true, Bool.or_self, ↓reduceIte, Nat.reduceEqDiff, Nat.reduceAdd, simA, simL, simN, Nat.zero_add, k3, unA_not', Bool.not_true, Bool.not_false, wa]
    exact finish_b _ _ _ _ _ _ _ (by simp only [zfp, ↓reduceIte, Nat.reduceEqDiff]; try rfl) rfl
  | true =>
  rw [g3] at k3
  rw [Bool.and_eq_true, decide_eq_true_eq] at g3
  have la := fewR_all 12 l g3.1 g3.2
  have xl : ∀ t ∈ l, FewY t := fun t ht => fewY_of t (bigK_mem _ l hl t ht) (la t ht)
  have cl := fun D st => callA_trees (cfg := cfg4) (d := D) (s := st) (f := 9) (vs := [.sl (cellsK l) l.length .loose]) rfl (terms4_eq n 7 l .loose (by omega) (by omega) (fun t ht => ⟨by have := ht_nod t; have := (xl t ht).nod; omega, (xl t ht).few⟩))
  obtain ⟨x, y, c, r, r', o, P⟩ := calls_pair m s l hs xl
  have hgt : isTree (.sl (cellsK (copyK l)) (copyK l).length (gr (kgOf (copyK l)))) = true := okTreeW _ _ (gr_tok _)
  have c1 := fun D st => callA_trees (cfg := cfg4) (d := D) (s := st) (f := 8) (vs := [.str m, .str s, .sl (cellsK (copyK l)) (copyK l).length (gr (kgOf (copyK l)))]) (by simp only [List.all_cons, hgt]; rfl) (P.p n 4 (by omega))
  have c2 := fun D st => callA_trees (cfg := cfg4) (d := D) (s := st) (f := 10) (vs := [.str m, .str s, .sl (cellsK l) l.length .loose]) rfl (P.q n 4 (by omega))
  have s1 := fun D st => callA_trees (cfg := cfg4) (d := D) (s := st) (f := 11) (vs := [encT x, encT y]) rfl (same4 n 8 x y P.ok P.same)
  have s2 := fun D st => callA_trees (cfg := cfg4) (d := D) (s := st) (f := 11) (vs := [encT r, encT r']) rfl (same4 n 8 r r' P.okr P.samer)
  have h1 := fun D st => callA_trees (cfg := cfg4) (d := D) (s := st) (f := 12) (vs := [.str m, .str s, .int .i64 k]) rfl (ev4 (n := n) (d := 8) rfl rfl (bhas_eq 9223372036854775808 6189 (by decide) (by decide) m s k hs))
  have h2 := fun D st => callA_trees (cfg := cfg4) (d := D) (s := st) (f := 13) (vs := [.str m, .str s, .int .i64 k]) rfl (ev4 (n := n) (d := 8) rfl rfl (rhas_eq 9223372036854775808 6189 (by decide) (by decide) m s k))
  have eb := bool_eql 4 tk4W
  have b1 : (o == o) = true := beq_self_eq_true _
  have b2 : (c == c) = true := beq_self_eq_true _
  have b3 : (hasW m s k == hasW m s k) = true := beq_self_eq_true _
  simp only [encT] at c1 c2 s1 s2
  simp only [simB, keep4, Nat.reduceBEq, own4, String.reduceAppend, String.reduceBEq, Bool.or_false, Bool.or_true, Bool.or_self, ↓reduceIte, Nat.reduceEqDiff, Nat.reduceAdd, simA, simL, simN, Nat.zero_add, zev, List.toList_toArray, len9, ix9, zew, zex, zey, zez, zfa, zeroT, zeroE, zeroQ, k3, unA_not', Bool.not_true, cl, c1, c2, s1, s2, h1, h2, zds, st_Tt, stT_6, st_EG, st_QG, stE_G, ldT_u, eb, b1, b2, b3, s_eqlS, faEV_0, faEV_1, faQ_0, faQ_1, ldG_0, ldG_1, wa]
  exact finish_b _ _ _ _ _ _ _ (by simp only [zfp, ↓reduceIte, Nat.reduceEqDiff]; try rfl) rfl
end Go.Ab

/- The walk of BifCalls (CFG4): it gives true, and leaves memory below as it was. Conditions: a name of the form's own reach. -/
namespace Go.Ab
open Go.Proofs Go.RowKit
theorem walkBCalls (m s : ByteArray) (a2 : Option Addr) (len2 cap2 : Nat) (k : Int) (w : World) (_hm : m.data.toList.length < 2 ^ 47) (hs : s.data.toList.length < 2 ^ 47) (h2 : IsTerms w a2 len2 cap2) (_hk : (Lit.int .i64 k).wf = true) :
    Calls Tryz.prog 3 #[.string m, .string s, .slice a2 len2 cap2, .int .i64 k] w fun e w' => e = .returned (.bool true) ∧ Below w.heap.size w w' := by
  obtain ⟨ks, rfl, hb, hf, hv⟩ := h2
  refine lawCallsP (cfg := cfg4) mixed prim4_ok (vs := [.string m, .string s, .slice a2 ks.length cap2, .int .i64 k]) (calls_B 3000 (Nat.le_refl _) m.data.toList s.data.toList ks k (by omega) hb hf) rfl (st0_4W _ _ _ _) (fun j v hj => ?_) true rfl
  match j, hj with
  | 0, hj => cases hj; exact ⟨by simp [env0, V0], rfl⟩
  | 1, hj => cases hj; exact ⟨by simp [env0, V0], rfl⟩
  | 2, hj => cases hj; exact ⟨hv, rfl⟩
  | 3, hj => cases hj; exact ⟨by simp [env0, V0], rfl⟩
end Go.Ab
