/- Shifts of numbers. Conditions: numbers that are shown. -/
import Derived.Test.YtdibanolokkniaaDoorAbnAB
import Derived.Test.YtdibanolokkniaaDoorAbMM
namespace Go.Ab
open Go.Proofs
set_option maxRecDepth 100000
set_option linter.unusedSimpArgs false

theorem intZ_no {z : Int} (h : isI64 z = false) : intZ z = .tup [.int .i64 0, .bool false] := by rw [intZ, if_neg (by rw [h]; decide)]
theorem intZ_is {z : Int} (h : isI64 z = true) : intZ z = .tup [.int .i64 z, .bool true] := by rw [intZ, if_pos h]
theorem isI64_iff (z : Int) : isI64 z = true ↔ -9223372036854775808 ≤ z ∧ z < 9223372036854775808 := by
  unfold isI64; simp
theorem un_negi (x : Int) (h : -9223372036854775807 ≤ x) (h' : x ≤ 9223372036854775807) : unA .neg (.int .i64 x) = some (.int .i64 (-x)) := by
  have := i64_wrap (0 - x) (by omega) (by omega)
  simp only [unA, this]
  congr 2; omega
theorem max_abs (x : Int) : foldA max2A (.int .i64 x) [.int .i64 (-x)] = some (.int .i64 (x.natAbs : Int)) := by
  simp only [foldA, max2A, Option.bind_some]
  congr 2
  split <;> omega
theorem cAddOne (n d : Nat) (hn : 100000 ≤ n) (D : Nat) (s : St) (v : Nat) (h : v < B ^ 12) : callA cfg0 (evalFn Tryd.prog cfg0 n (d+2)) D s 59 [encR v, .sl [.int .u32 1] 1 .tight] = some (encR (v + 1), s) :=
  cAdd n d hn D s (num_R v 12 (by decide) h) (num_one 1 (by decide))
theorem cSubOne (n d : Nat) (hn : 100000 ≤ n) (D : Nat) (s : St) (g : Gk) (z : Int) (h : z.natAbs < B ^ 12) : callA cfg0 (evalFn Tryd.prog cfg0 n (d+4)) D s 63 [encL g (digs z.natAbs), .sl [.int .u32 1] 1 .tight] = some (encR (z.natAbs - 1), s) :=
  cSub n d hn D s (num_can g z h) (num_one 1 (by decide))
theorem lessK (z' : Int) (back : Bool) : (if back = true then -z' else z') = if (!(decide (z' < 0) == back)) = true then -(z'.natAbs : Int) else (z'.natAbs : Int) := by
  cases back <;> by_cases h : z' < 0 <;> simp [h] <;> omega
theorem far_down (z k : Int) (h : z.natAbs < B ^ 12) (hk : k < -10000) : madeV (shZ z k) = .tup [encZ (if z < 0 then -1 else 0), .bool true] := by
  obtain ⟨N, rfl⟩ : ∃ N : Nat, k = -(N : Int) := ⟨k.natAbs, by omega⟩
  rw [far_down0 z N h (by omega)]
  refine madeV_fit ?_
  have : 1 < B ^ 12 := Nat.one_lt_pow (by decide) (by decide)
  split
  · exact this
  · exact Nat.lt_of_succ_lt this
theorem far_up (z k : Int) (h0 : z ≠ 0) (_h : z.natAbs < B ^ 12) (hk : 384 < k) : madeV (shZ z k) = .tup [encZ 0, .bool false] := by
  obtain ⟨N, rfl⟩ : ∃ N : Nat, k = (N : Int) := ⟨k.toNat, by omega⟩
  rw [madeV, mkZ_not (far_up0 z N h0 (by omega))]
theorem tag4 (b c : Bool) (h : (!(b == c)) = true) : (b == c) = false := by simpa using h
/-- Behind an operation: of the temporaries and the store only what is told. -/
theorem forgetS {P : Program} {cfg : Cfg} {call : FuncId → List Arg → Option Out} {q : Bool} {all : Array Oper} {d : Option Tmp} {r : List Oper} {K : Kont} {env : Env} {s : St} {out : Option Out} (f : St → Option (AV × St)) (I : Env → St → Prop) (hI : I env s) (h : ∀ env s, I env s → opK P cfg call q all d r K env (f s) = out) :
    opK P cfg call q all d r K env (f s) = out := h env s hI
set_option maxHeartbeats 8000000 in
theorem shift_near (n d : Nat) (hn : 100000 ≤ n) (g g' : Gk) (z z' : Int) (hlt : z.natAbs < B ^ 12) (hlt' : z'.natAbs < B ^ 12) (back : Bool) (h0 : z ≠ 0) (hN : z'.natAbs ≤ 10000) : evalFn Tryd.prog cfg0 n (d+5) 42 [.tree (canA g z), .tree (canA g' z'), .tree (.bool back)] = some (.tree (madeV (shZ z (if back = true then -z' else z'))), [[], [], []]) := by
  rw [evalFn_go _ Tryd.func42 (by unfold Tryd.f42; rfl) (by unfold Tryd.f42; decide) (Nat.le_of_ble_eq_true (by unfold Tryd.f42; rfl)) (by kernel_rfl)]
  rw [lessK]
  have c1 := fun D s => cInt n (d + 1) hn (isN_can g' z' hlt') D s
  rw [intZ_is ((isI64_iff z').mpr ⟨by omega, by omega⟩)] at c1
  have en := bool_neq 4 tk4
  generalize hlb : (!(decide (z' < 0) == back)) = lb
  have p0 : (((digs z.natAbs).length : Int) == 0) = false := by
    rw [beq_eq_false_iff_ne]
    intro h
    have := (digs_len0 z.natAbs).mp (by omega)
    omega
  have hbig : ¬ z' > 10000 := by omega
  have hsm : ¬ z' < -10000 := by omega
  have u := un_negi z' (by omega) (by omega)
  have m1 := max_abs z'
  cases lb with
  | true =>
    simp only [if_true]
    simp only [zaa, zab, zac, zad, zae, zaf, zag, zah, zai, zaj, zak, zal, zam, zan, zao, zap, zaq, zar, zas, zat, zau, zav, zaw, zax, zay, zaz, zba, zbb, zbc, zbd, zbe, zbf, zbg, zbh, zbi, zbj, Nat.reduceBEq, Bool.or_self, Bool.or_false, Bool.or_true, Bool.and_true, Bool.and_false, Bool.true_and, Bool.false_and, Option.isNone_none, Option.isNone_some, Option.isSome_some, Option.isSome_none, zbk, zbl, zbm, zbn, zbo, zbp, zbq, zbr, zbs, zbt, zbu, zbv, zbw, zbx, zby, zbz, zca, zcb, zcc, zcd, zce, zcf, zcg, zch, zci, zcj, zck, zcl, zcm, zcn, zco, zcp, zcq, zcr, zcs, zct, zcu, zcv, zcw, zcx, zcy, zcz, zda, zdb, zdc, zdd, zde, zdf, Option.getD_some, Option.getD_none, zet, zeu, zev, zew, zex, zey, zez, zfa, Option.map_some, Option.map_none, Option.bind_some, List.map_cons, List.map_nil, List.cons_append, List.nil_append, ↓reduceIte, Nat.reduceEqDiff, Nat.reduceAdd, decide_true, decide_false, Bool.true_eq_false, Bool.false_eq_true, env0, List.getElem?_cons_zero, List.getElem?_cons_succ, zdg, zdh, zdi, zdj, zdk, zdl, zdm, zdn, ia22, ld31, zdo, zdp, zdq, zdr, zds, zdt, zdu, zdv, zdw, zdx, zdy, zdz, zea, zeb, zec, fa_0, fa_1, zed, bd_0, bd_2, zee, fd_1, zef, Nat.zero_add, st0_3', c1, en, hlb, ext_0, ext_1, p0, unA_not', Bool.not_true, Bool.not_false, hbig, hsm]
    refine forgetS (fun s => (unA .neg (.int .i64 z')).map (·, s)) (fun env s => env 3 = .ptr 3 1 0 ∧ env 6 = .ptr 6 1 0 ∧ env 8 = .int .i64 z' ∧ env 10 = .bool true ∧ env 56 = .int .i64 z' ∧ s 3 = ⟨1, .buf [.bool (decide (z < 0)), encL g (digs z.natAbs)]⟩ ∧ ∃ x y, s 6 = ⟨1, .buf [x, y]⟩) ⟨by simp only [zfa, ↓reduceIte, Nat.reduceEqDiff], by simp only [zfa, ↓reduceIte, Nat.reduceEqDiff], by simp only [zfa, ↓reduceIte, Nat.reduceEqDiff], by simp only [zfa, ↓reduceIte, Nat.reduceEqDiff], by simp only [zfa, ↓reduceIte, Nat.reduceEqDiff], by simp only [zfa, ↓reduceIte, Nat.reduceEqDiff], .bool false, .sl [] 0 .nil, by simp only [zfa, ↓reduceIte, Nat.reduceEqDiff]⟩ ?_
    intro env s ⟨e3, e6, e8, e10, e56, s3, x, y, s6⟩
    have c3 := fun D s => cShr n (d + 2) hn D s (num_can g z hlt) (z'.natAbs : Int) (by omega)
    rw [Int.toNat_natCast] at c3
    by_cases ha : z < 0
    · have c4 := fun D s => cSubOne n d hn D s g z hlt
      have c5 := fun D s => cShr n (d + 2) hn D s (num_R (z.natAbs - 1) 12 (by decide) (by omega)) (z'.natAbs : Int) (by omega)
      rw [Int.toNat_natCast] at c5
      have hq : (z.natAbs - 1) / 2 ^ z'.natAbs < B ^ 12 := Nat.lt_of_le_of_lt (Nat.div_le_self _ _) (by omega)
      have c6 := fun D s => cAddOne n (d + 2) hn D s ((z.natAbs - 1) / 2 ^ z'.natAbs) hq
      have c7 := fun D s => cMade n (d + 2) hn D s (num_R ((z.natAbs - 1) / 2 ^ z'.natAbs + 1) 13 (by decide) (lt13 hq (Nat.one_lt_pow (by decide) (by decide)))) true
      rw [down_neg z z'.natAbs ha] at c7
      simp only [zaa, zab, zac, zad, zae, zaf, zag, zah, zai, zaj, zak, zal, zam, zan, zao, zap, zaq, zar, zas, zat, zau, zav, zaw, zax, zay, zaz, zba, zbb, zbc, zbd, zbe, zbf, zbg, zbh, zbi, zbj, Nat.reduceBEq, Bool.or_self, Bool.or_false, Bool.or_true, Bool.and_true, Bool.and_false, Bool.true_and, Bool.false_and, Option.isNone_none, Option.isNone_some, Option.isSome_some, Option.isSome_none, zbk, zbl, zbm, zbn, zbo, zbp, zbq, zbr, zbs, zbt, zbu, zbv, zbw, zbx, zby, zbz, zca, zcb, zcc, zcd, zce, zcf, zcg, zch, zci, zcj, zck, zcl, zcm, zcn, zco, zcp, zcq, zcr, zcs, zct, zcu, zcv, zcw, zcx, zcy, zcz, zda, zdb, zdc, zdd, zde, zdf, Option.getD_some, Option.getD_none, zet, zeu, zev, zew, zex, zey, zez, zfa, Option.map_some, Option.map_none, Option.bind_some, List.map_cons, List.map_nil, List.cons_append, List.nil_append, ↓reduceIte, Nat.reduceEqDiff, Nat.reduceAdd, decide_true, decide_false, Bool.true_eq_false, Bool.false_eq_true, env0, List.getElem?_cons_zero, List.getElem?_cons_succ, zdg, zdh, zdi, zdj, zdk, zdl, zdm, zdn, ia22, ld31, zdo, zdp, zdq, zdr, zds, zdt, zdu, zdv, zdw, zdx, zdy, zdz, zea, zeb, zec, fa_0, fa_1, zed, bd_0, bd_2, zee, fd_1, zef, Nat.zero_add, e3, e6, e8, e10, e56, s3, s6, ext_0, ext_1, unA_not', Bool.not_true, Bool.not_false, u, m1, ha, opA_one, one22_int, c4, c5, c6, c7, madeV_eq, st_Z]
      exact finish_ct _ _ 6 6 1 _ _ _ _ _ _ _ (by simp only [zfa, ↓reduceIte, Nat.reduceEqDiff, e6]) (by simp only [zfa, ↓reduceIte, Nat.reduceEqDiff]) (by simp only [zfa, ↓reduceIte, Nat.reduceEqDiff]) rfl
    · have c7 := fun D s => cMade n (d + 2) hn D s (num_R (z.natAbs / 2 ^ z'.natAbs) 12 (by decide) (Nat.lt_of_le_of_lt (Nat.div_le_self _ _) hlt)) false
      rw [down_pos z z'.natAbs ha] at c7
      simp only [zaa, zab, zac, zad, zae, zaf, zag, zah, zai, zaj, zak, zal, zam, zan, zao, zap, zaq, zar, zas, zat, zau, zav, zaw, zax, zay, zaz, zba, zbb, zbc, zbd, zbe, zbf, zbg, zbh, zbi, zbj, Nat.reduceBEq, Bool.or_self, Bool.or_false, Bool.or_true, Bool.and_true, Bool.and_false, Bool.true_and, Bool.false_and, Option.isNone_none, Option.isNone_some, Option.isSome_some, Option.isSome_none, zbk, zbl, zbm, zbn, zbo, zbp, zbq, zbr, zbs, zbt, zbu, zbv, zbw, zbx, zby, zbz, zca, zcb, zcc, zcd, zce, zcf, zcg, zch, zci, zcj, zck, zcl, zcm, zcn, zco, zcp, zcq, zcr, zcs, zct, zcu, zcv, zcw, zcx, zcy, zcz, zda, zdb, zdc, zdd, zde, zdf, Option.getD_some, Option.getD_none, zet, zeu, zev, zew, zex, zey, zez, zfa, Option.map_some, Option.map_none, Option.bind_some, List.map_cons, List.map_nil, List.cons_append, List.nil_append, ↓reduceIte, Nat.reduceEqDiff, Nat.reduceAdd, decide_true, decide_false, Bool.true_eq_false, Bool.false_eq_true, env0, List.getElem?_cons_zero, List.getElem?_cons_succ, zdg, zdh, zdi, zdj, zdk, zdl, zdm, zdn, ia22, ld31, zdo, zdp, zdq, zdr, zds, zdt, zdu, zdv, zdw, zdx, zdy, zdz, zea, zeb, zec, fa_0, fa_1, zed, bd_0, bd_2, zee, fd_1, zef, Nat.zero_add, e3, e6, e8, e10, e56, s3, s6, ext_0, ext_1, unA_not', Bool.not_true, Bool.not_false, u, m1, ha, c3, c7, madeV_eq, st_Z]
      exact finish_ct _ _ 6 6 1 _ _ _ _ _ _ _ (by simp only [zfa, ↓reduceIte, Nat.reduceEqDiff, e6]) (by simp only [zfa, ↓reduceIte, Nat.reduceEqDiff]) (by simp only [zfa, ↓reduceIte, Nat.reduceEqDiff]) rfl
  | false =>
    simp only [Bool.false_eq_true, if_false]
    simp only [zaa, zab, zac, zad, zae, zaf, zag, zah, zai, zaj, zak, zal, zam, zan, zao, zap, zaq, zar, zas, zat, zau, zav, zaw, zax, zay, zaz, zba, zbb, zbc, zbd, zbe, zbf, zbg, zbh, zbi, zbj, Nat.reduceBEq, Bool.or_self, Bool.or_false, Bool.or_true, Bool.and_true, Bool.and_false, Bool.true_and, Bool.false_and, Option.isNone_none, Option.isNone_some, Option.isSome_some, Option.isSome_none, zbk, zbl, zbm, zbn, zbo, zbp, zbq, zbr, zbs, zbt, zbu, zbv, zbw, zbx, zby, zbz, zca, zcb, zcc, zcd, zce, zcf, zcg, zch, zci, zcj, zck, zcl, zcm, zcn, zco, zcp, zcq, zcr, zcs, zct, zcu, zcv, zcw, zcx, zcy, zcz, zda, zdb, zdc, zdd, zde, zdf, Option.getD_some, Option.getD_none, zet, zeu, zev, zew, zex, zey, zez, zfa, Option.map_some, Option.map_none, Option.bind_some, List.map_cons, List.map_nil, List.cons_append, List.nil_append, ↓reduceIte, Nat.reduceEqDiff, Nat.reduceAdd, decide_true, decide_false, Bool.true_eq_false, Bool.false_eq_true, env0, List.getElem?_cons_zero, List.getElem?_cons_succ, zdg, zdh, zdi, zdj, zdk, zdl, zdm, zdn, ia22, ld31, zdo, zdp, zdq, zdr, zds, zdt, zdu, zdv, zdw, zdx, zdy, zdz, zea, zeb, zec, fa_0, fa_1, zed, bd_0, bd_2, zee, fd_1, zef, Nat.zero_add, st0_3', c1, en, hlb, ext_0, ext_1, p0, unA_not', Bool.not_true, Bool.not_false, hbig, hsm]
    refine forgetS (fun s => (unA .neg (.int .i64 z')).map (·, s)) (fun env s => env 3 = .ptr 3 1 0 ∧ env 6 = .ptr 6 1 0 ∧ env 8 = .int .i64 z' ∧ env 10 = .bool false ∧ env 56 = .int .i64 z' ∧ s 3 = ⟨1, .buf [.bool (decide (z < 0)), encL g (digs z.natAbs)]⟩ ∧ ∃ x y, s 6 = ⟨1, .buf [x, y]⟩) ⟨by simp only [zfa, ↓reduceIte, Nat.reduceEqDiff], by simp only [zfa, ↓reduceIte, Nat.reduceEqDiff], by simp only [zfa, ↓reduceIte, Nat.reduceEqDiff], by simp only [zfa, ↓reduceIte, Nat.reduceEqDiff], by simp only [zfa, ↓reduceIte, Nat.reduceEqDiff], by simp only [zfa, ↓reduceIte, Nat.reduceEqDiff], .bool false, .sl [] 0 .nil, by simp only [zfa, ↓reduceIte, Nat.reduceEqDiff]⟩ ?_
    intro env s ⟨e3, e6, e8, e10, e56, s3, x, y, s6⟩
    by_cases hf : (z'.natAbs : Int) > 384
    · rw [far_up z (z'.natAbs : Int) h0 hlt (by omega), encZ_0]
      simp only [zaa, zab, zac, zad, zae, zaf, zag, zah, zai, zaj, zak, zal, zam, zan, zao, zap, zaq, zar, zas, zat, zau, zav, zaw, zax, zay, zaz, zba, zbb, zbc, zbd, zbe, zbf, zbg, zbh, zbi, zbj, Nat.reduceBEq, Bool.or_self, Bool.or_false, Bool.or_true, Bool.and_true, Bool.and_false, Bool.true_and, Bool.false_and, Option.isNone_none, Option.isNone_some, Option.isSome_some, Option.isSome_none, zbk, zbl, zbm, zbn, zbo, zbp, zbq, zbr, zbs, zbt, zbu, zbv, zbw, zbx, zby, zbz, zca, zcb, zcc, zcd, zce, zcf, zcg, zch, zci, zcj, zck, zcl, zcm, zcn, zco, zcp, zcq, zcr, zcs, zct, zcu, zcv, zcw, zcx, zcy, zcz, zda, zdb, zdc, zdd, zde, zdf, Option.getD_some, Option.getD_none, zet, zeu, zev, zew, zex, zey, zez, zfa, Option.map_some, Option.map_none, Option.bind_some, List.map_cons, List.map_nil, List.cons_append, List.nil_append, ↓reduceIte, Nat.reduceEqDiff, Nat.reduceAdd, decide_true, decide_false, Bool.true_eq_false, Bool.false_eq_true, env0, List.getElem?_cons_zero, List.getElem?_cons_succ, zdg, zdh, zdi, zdj, zdk, zdl, zdm, zdn, ia22, ld31, zdo, zdp, zdq, zdr, zds, zdt, zdu, zdv, zdw, zdx, zdy, zdz, zea, zeb, zec, fa_0, fa_1, zed, bd_0, bd_2, zee, fd_1, zef, Nat.zero_add, e3, e6, e8, e10, e56, s3, s6, ext_0, ext_1, unA_not', Bool.not_true, Bool.not_false, u, m1, hf]
      exact finish_ct _ _ 6 6 1 _ _ _ _ _ _ _ (by simp only [zfa, ↓reduceIte, Nat.reduceEqDiff, e6]) (by simp only [zfa, ↓reduceIte, Nat.reduceEqDiff]) (by simp only [zfa, ↓reduceIte, Nat.reduceEqDiff]) rfl
    · have c3 := qShl n (d + 2) hn (num_can g z hlt) (tree_L _ _) (z'.natAbs : Int)
      have hs : shn (z'.natAbs : Int) = z'.natAbs := by
        unfold shn
        rw [if_neg (by omega)]
        exact Int.toNat_natCast _
      rw [hs] at c3
      have hp : z.natAbs * 2 ^ z'.natAbs < B ^ 25 := by
        have h2 : 2 ^ z'.natAbs ≤ B ^ 13 := le_B 13 _ (by omega)
        rw [show (25 : Nat) = 12 + 13 from rfl, Nat.pow_add]
        exact Nat.mul_lt_mul_of_lt_of_le hlt h2 (Nat.pow_pos (by decide))
      have c4 := qMade n (d + 2) hn (num_R (z.natAbs * 2 ^ z'.natAbs) 25 (by decide) hp) (tree_R _) (decide (z < 0))
      rw [up_sgn z z'.natAbs] at c4
      simp only [zaa, zab, zac, zad, zae, zaf, zag, zah, zai, zaj, zak, zal, zam, zan, zao, zap, zaq, zar, zas, zat, zau, zav, zaw, zax, zay, zaz, zba, zbb, zbc, zbd, zbe, zbf, zbg, zbh, zbi, zbj, Nat.reduceBEq, Bool.or_self, Bool.or_false, Bool.or_true, Bool.and_true, Bool.and_false, Bool.true_and, Bool.false_and, Option.isNone_none, Option.isNone_some, Option.isSome_some, Option.isSome_none, zbk, zbl, zbm, zbn, zbo, zbp, zbq, zbr, zbs, zbt, zbu, zbv, zbw, zbx, zby, zbz, zca, zcb, zcc, zcd, zce, zcf, zcg, zch, zci, zcj, zck, zcl, zcm, zcn, zco, zcp, zcq, zcr, zcs, zct, zcu, zcv, zcw, zcx, zcy, zcz, zda, zdb, zdc, zdd, zde, zdf, Option.getD_some, Option.getD_none, zet, zeu, zev, zew, zex, zey, zez, zfa, Option.map_some, Option.map_none, Option.bind_some, List.map_cons, List.map_nil, List.cons_append, List.nil_append, ↓reduceIte, Nat.reduceEqDiff, Nat.reduceAdd, decide_true, decide_false, Bool.true_eq_false, Bool.false_eq_true, env0, List.getElem?_cons_zero, List.getElem?_cons_succ, zdg, zdh, zdi, zdj, zdk, zdl, zdm, zdn, ia22, ld31, zdo, zdp, zdq, zdr, zds, zdt, zdu, zdv, zdw, zdx, zdy, zdz, zea, zeb, zec, fa_0, fa_1, zed, bd_0, bd_2, zee, fd_1, zef, Nat.zero_add, e3, e6, e8, e10, e56, s3, s6, ext_0, ext_1, unA_not', Bool.not_true, Bool.not_false, u, m1, hf, c3, c4, madeV_eq, st_Z]
      exact finish_ct _ _ 6 6 1 _ _ _ _ _ _ _ (by simp only [zfa, ↓reduceIte, Nat.reduceEqDiff, e6]) (by simp only [zfa, ↓reduceIte, Nat.reduceEqDiff]) (by simp only [zfa, ↓reduceIte, Nat.reduceEqDiff]) rfl
end Go.Ab
