/- Several texts put together: AbbA18, AbbT21, AbbT22, AbbT23, AbbT24, AbbB1, AbbB2. Conditions: as each part says. -/
import Derived.Test.YtpgnjcckmmkmkaaDoorAbBTextsZ05
import Derived.Test.YtpgnjcckmmkmkaaDoorAbBTextsZ07
import Derived.Test.YtpgnjcckmmkmkaaDoorAbBTextsZ06
/- The reference's numbers: what is a number, made of limbs, of ints; its compare. Conditions: limbs in range. -/
namespace Go.Ab
open Go.Proofs
set_option maxRecDepth 100000
set_option linter.unusedSimpArgs false

theorem finish_cg (k : Bool) (xs : List Arg) (a p e : Nat) (z : Int) (g : Gk) (env : Env) (s : St) (os : List (List AV)) (ha : env a = .ptr p e 0) (hs : s p = ⟨e, .buf [.bool (decide (z < 0)), encL g (digs z.natAbs)]⟩) (ho : outsA s 0 xs = some os) :
    finishP Tryd.prog k xs #[.cell a 27] env s = some (.tree (canA g z), os) := finish_c _ _ _ _ _ _ _ _ _ _ ha hs ho
def gm (z : Int) : Gk := if z.natAbs < B ^ 12 then .l else .n
def madeF (z : Int) : AV := .tup [canA (gm z) (mkZ z).1, .bool (mkZ z).2]
theorem madeF_fit {z : Int} (h : z.natAbs < B ^ 12) : madeF z = .tup [canA .l z, .bool true] := by rw [madeF, mkZ_fit h, gm, if_pos h]
theorem lenF' (s : St) (v : Nat) : lenA Tryd.prog 25 s (encF v) = some (.int .i64 ((digs v).length : Int)) := zdg s _ _
theorem bd_2F (b : Bool) (v : Nat) : buildA Tryd.prog 27 [(0, .bool b), (1, encF v)] = some (.agg [.bool b, encF v]) := bd_2 _ _ _
set_option maxHeartbeats 2000000 in
theorem rmade_eq (n d : Nat) (neg : Bool) (g : Gk) (l : List Nat) (hl : Limbs l) (hn : l.length < n) (hk : l.length ≤ 1000000) : evalFn Tryd.prog cfg0 n (d+2) 61 [.tree (.bool neg), .tree (encL g l)] = some (.tree (madeF (sgn neg (val l))), [[], []]) := by
  rw [evalFn_go _ Tryd.func61 (by unfold Tryd.f61; rfl) (by unfold Tryd.f61; decide) (Nat.le_of_ble_eq_true (by unfold Tryd.f61; rfl)) (by kernel_rfl)]
  have c1 := fun D s => callA_L1 (evalFn Tryd.prog cfg0 n (d+1)) D s 80 g l _ (rnorm_eq n d g l hl hn hk)
  generalize hv : val l = v at *
  have hp : (((digs v).length : Nat) : Int) > 0 ↔ v ≠ 0 := by
    have := digs_len0 v
    omega
  have hd : decide ((((digs v).length : Nat) : Int) > 0) = decide (v ≠ 0) := by
    rw [decide_eq_decide]; exact hp
  have hm : mkZ (sgn neg v) = if v < B ^ 12 then (sgn neg v, true) else (0, false) := by rw [mkZ, sgn_abs]
  by_cases hf : v < B ^ 12
  · have hlen : ¬ (((digs v).length : Nat) : Int) > 12 := by have := digs_len v 12 hf; omega
    rw [madeF_fit (by rw [sgn_abs]; exact hf)]
    have he : (.agg [.bool (neg && decide (v ≠ 0)), encF v] : AV) = canA .l (sgn neg v) := by
      unfold canA; rw [sgn_neg, sgn_abs]; rfl
    rw [← he]
    cases neg with
    | false =>
      simp only [zaa, zab, zac, zad, zae, zaf, zag, zah, zai, zaj, zak, zal, zam, zan, zao, zap, zaq, zar, zas, zat, zau, zav, zaw, zax, zay, zaz, zba, zbb, zbc, zbd, zbe, zbf, zbg, zbh, zbi, zbj, Nat.reduceBEq, Bool.or_self, Bool.or_false, Bool.or_true, Bool.and_true, Bool.and_false, Bool.true_and, Bool.false_and, Option.isNone_none, Option.isNone_some, Option.isSome_some, Option.isSome_none, zbk, zbl, zbm, zbn, zbo, zbp, zbq, zbr, zbs, zbt, zbu, zbv, zbw, zbx, zby, zbz, zca, zcb, zcc, zcd, zce, zcf, zcg, zch, zci, zcj, zck, zcl, zcm, zcn, zco, zcp, zcq, zcr, zcs, zct, zcu, zcv, zcw, zcx, zcy, zcz, zda, zdb, zdc, zdd, zde, zdf, Option.getD_some, Option.getD_none, zet, zeu, zev, zew, zex, zey, zez, zfa, Option.map_some, Option.map_none, Option.bind_some, List.map_cons, List.map_nil, List.cons_append, List.nil_append, ↓reduceIte, Nat.reduceEqDiff, Nat.reduceAdd, decide_true, decide_false, Bool.true_eq_false, Bool.false_eq_true, env0, List.getElem?_cons_zero, List.getElem?_cons_succ, zdg, zdh, zdi, zdj, zdk, zdl, zdm, zdn, ia22, ld31, zdo, zdp, zdq, zdr, zds, zdt, zdu, zdv, zdw, zdx, zdy, zdz, zea, zeb, zec, fa_0, fa_1, zed, bd_0, bd_2, zee, fd_1, zef, Nat.zero_add, st0_2, c1, lenF', hlen, bd_2F]
      exact finish_ct _ _ 4 4 1 _ _ _ _ _ _ _ (by simp only [zfa, ↓reduceIte, Nat.reduceEqDiff]) (by simp only [zfa, ↓reduceIte, Nat.reduceEqDiff]) (by simp only [zfa, ↓reduceIte, Nat.reduceEqDiff]) rfl
    | true =>
      simp only [zaa, zab, zac, zad, zae, zaf, zag, zah, zai, zaj, zak, zal, zam, zan, zao, zap, zaq, zar, zas, zat, zau, zav, zaw, zax, zay, zaz, zba, zbb, zbc, zbd, zbe, zbf, zbg, zbh, zbi, zbj, Nat.reduceBEq, Bool.or_self, Bool.or_false, Bool.or_true, Bool.and_true, Bool.and_false, Bool.true_and, Bool.false_and, Option.isNone_none, Option.isNone_some, Option.isSome_some, Option.isSome_none, zbk, zbl, zbm, zbn, zbo, zbp, zbq, zbr, zbs, zbt, zbu, zbv, zbw, zbx, zby, zbz, zca, zcb, zcc, zcd, zce, zcf, zcg, zch, zci, zcj, zck, zcl, zcm, zcn, zco, zcp, zcq, zcr, zcs, zct, zcu, zcv, zcw, zcx, zcy, zcz, zda, zdb, zdc, zdd, zde, zdf, Option.getD_some, Option.getD_none, zet, zeu, zev, zew, zex, zey, zez, zfa, Option.map_some, Option.map_none, Option.bind_some, List.map_cons, List.map_nil, List.cons_append, List.nil_append, ↓reduceIte, Nat.reduceEqDiff, Nat.reduceAdd, decide_true, decide_false, Bool.true_eq_false, Bool.false_eq_true, env0, List.getElem?_cons_zero, List.getElem?_cons_succ, zdg, zdh, zdi, zdj, zdk, zdl, zdm, zdn, ia22, ld31, zdo, zdp, zdq, zdr, zds, zdt, zdu, zdv, zdw, zdx, zdy, zdz, zea, zeb, zec, fa_0, fa_1, zed, bd_0, bd_2, zee, fd_1, zef, Nat.zero_add, st0_2, c1, lenF', hlen, hd, bd_2F]
      exact finish_ct _ _ 4 4 1 _ _ _ _ _ _ _ (by simp only [zfa, ↓reduceIte, Nat.reduceEqDiff]) (by simp only [zfa, ↓reduceIte, Nat.reduceEqDiff]) (by simp only [zfa, ↓reduceIte, Nat.reduceEqDiff]) rfl
  · have hlen : (((digs v).length : Nat) : Int) > 12 := by
      have h1 := val_lt (digs v) (limbs_digs v)
      rw [val_digs] at h1
      rcases Nat.lt_or_ge 12 (digs v).length with h2 | h2
      · omega
      · exact absurd (Nat.lt_of_lt_of_le h1 (Nat.pow_le_pow_right (by decide) h2)) hf
    have he : madeF (sgn neg v) = .tup [encA false .n [], .bool false] := by
      rw [madeF, hm, if_neg hf, gm, if_neg (by rw [sgn_abs]; exact hf)]
      simp [canA, digs_0]
    rw [he]
    simp only [zaa, zab, zac, zad, zae, zaf, zag, zah, zai, zaj, zak, zal, zam, zan, zao, zap, zaq, zar, zas, zat, zau, zav, zaw, zax, zay, zaz, zba, zbb, zbc, zbd, zbe, zbf, zbg, zbh, zbi, zbj, Nat.reduceBEq, Bool.or_self, Bool.or_false, Bool.or_true, Bool.and_true, Bool.and_false, Bool.true_and, Bool.false_and, Option.isNone_none, Option.isNone_some, Option.isSome_some, Option.isSome_none, zbk, zbl, zbm, zbn, zbo, zbp, zbq, zbr, zbs, zbt, zbu, zbv, zbw, zbx, zby, zbz, zca, zcb, zcc, zcd, zce, zcf, zcg, zch, zci, zcj, zck, zcl, zcm, zcn, zco, zcp, zcq, zcr, zcs, zct, zcu, zcv, zcw, zcx, zcy, zcz, zda, zdb, zdc, zdd, zde, zdf, Option.getD_some, Option.getD_none, zet, zeu, zev, zew, zex, zey, zez, zfa, Option.map_some, Option.map_none, Option.bind_some, List.map_cons, List.map_nil, List.cons_append, List.nil_append, ↓reduceIte, Nat.reduceEqDiff, Nat.reduceAdd, decide_true, decide_false, Bool.true_eq_false, Bool.false_eq_true, env0, List.getElem?_cons_zero, List.getElem?_cons_succ, zdg, zdh, zdi, zdj, zdk, zdl, zdm, zdn, ia22, ld31, zdo, zdp, zdq, zdr, zds, zdt, zdu, zdv, zdw, zdx, zdy, zdz, zea, zeb, zec, fa_0, fa_1, zed, bd_0, bd_2, zee, fd_1, zef, Nat.zero_add, st0_2, c1, lenF', hlen]
    exact finish_ct _ _ 4 4 1 _ _ _ _ _ _ _ (by simp only [zfa, ↓reduceIte, Nat.reduceEqDiff]) (by simp only [zfa, ↓reduceIte, Nat.reduceEqDiff]) (by simp only [zfa, ↓reduceIte, Nat.reduceEqDiff]) rfl
section
variable (n d : Nat) (hn : 100000 ≤ n) (D : Nat) (s : St)
include hn
theorem cRmade {w : AV} {v : Nat} (h : Num w v) (neg : Bool) : callA cfg0 (evalFn Tryd.prog cfg0 n (d+2)) D s 61 [.bool neg, w] = some (madeF (sgn neg v), s) := by
  obtain ⟨l, hs, hl, hk, rfl⟩ := h
  exact callA_bS _ D s _ hs neg _ fun g => rmade_eq n d neg g l hl (by omega) (by omega)
theorem qRmade {w : AV} {v : Nat} (h : Num w v) (ht : isTree w = true) (neg : Bool) : callQ (evalFn Tryd.prog cfg0 n (d+2)) 61 [.bool neg, w] = some (madeF (sgn neg v)) := by
  obtain ⟨g, l, rfl, hl, hk, rfl⟩ := h.isL ht
  exact callQ_trees (by cases g <;> rfl) (rmade_eq n d neg g l hl (by omega) (by omega))
end
set_option maxHeartbeats 2000000 in
theorem rof64_eq (n d : Nat) (hn : 100000 ≤ n) (z : Int) (h : -9223372036854775808 ≤ z) (h' : z ≤ 9223372036854775807) : evalFn Tryd.prog cfg0 n (d+3) 38 [.tree (.int .i64 z)] = some (.tree (canA .l z), [[]]) := by
  rw [evalFn_go _ Tryd.func38 (by unfold Tryd.f38; rfl) (by unfold Tryd.f38; decide) (Nat.le_of_ble_eq_true (by unfold Tryd.f38; rfl)) (by kernel_rfl)]
  have hz : z.natAbs ≤ 9223372036854775808 := by omega
  have hfit : z.natAbs < B ^ 12 := by have := B12_big; omega
  have c0 := fun s => conv3_55 s z h h'
  have key : ∀ (x : Nat), x = z.natAbs → x < 18446744073709551616 →
      (∀ s, convA Tryd.prog 79 49 s (.int .u64 (x : Int)) = some (.int .u32 ((x % 4294967296 : Nat) : Int))) ∧
      binA Tryd.prog .shr 79 (.int .u64 (x : Int)) (.int .u64 32) = some (.int .u64 ((x / 4294967296 : Nat) : Int)) ∧
      (∀ s, convA Tryd.prog 79 49 s (.int .u64 ((x / 4294967296 : Nat) : Int)) = some (.int .u32 ((x / 4294967296 % 4294967296 : Nat) : Int))) ∧
      (∀ D s, callA cfg0 (evalFn Tryd.prog cfg0 n (d+2)) D s 61 [.bool (decide (z < 0)), .sl [.int .u32 ((x % 4294967296 : Nat) : Int), .int .u32 ((x / 4294967296 % 4294967296 : Nat) : Int)] 2 .tight] = some (.tup [canA .l z, .bool true], s)) := by
    intro x hx hlt
    refine ⟨fun s => zdp s x, ?_, fun s => zdp s _, fun D s => ?_⟩
    · have := u_shr Tryd.prog 79 x .u64 32 (by decide) (by decide)
      rw [show (2 : Nat) ^ (32 : Int).toNat = 4294967296 from rfl] at this
      exact this
    · have hnum : Num (.sl [.int .u32 ((x % 4294967296 : Nat) : Int), .int .u32 ((x / 4294967296 % 4294967296 : Nat) : Int)] 2 .tight) x := by
        refine ⟨[x % 4294967296, x / 4294967296 % 4294967296], ⟨_, rfl⟩, limbs_cons (Nat.mod_lt _ (by decide)) (limbs_one (Nat.mod_lt _ (by decide))), by simp, ?_⟩
        show x % 4294967296 + 4294967296 * (x / 4294967296 % 4294967296 + 4294967296 * 0) = x
        omega
      have := cRmade n d hn D s hnum (decide (z < 0))
      rw [hx, sgn_of, madeF_fit hfit] at this
      rw [hx]; exact this
  by_cases hneg : z < 0
  · rw [if_pos hneg] at c0
    have u := un_neg64 (18446744073709551616 - z.natAbs) (by omega)
    rw [show (18446744073709551616 - (18446744073709551616 - z.natAbs)) % 18446744073709551616 = z.natAbs by omega] at u
    obtain ⟨k1, k2, k3, k4⟩ := key z.natAbs rfl (by omega)
    rw [decide_eq_true hneg] at k4
    simp only [zaa, zab, zac, zad, zae, zaf, zag, zah, zai, zaj, zak, zal, zam, zan, zao, zap, zaq, zar, zas, zat, zau, zav, zaw, zax, zay, zaz, zba, zbb, zbc, zbd, zbe, zbf, zbg, zbh, zbi, zbj, Nat.reduceBEq, Bool.or_self, Bool.or_false, Bool.or_true, Bool.and_true, Bool.and_false, Bool.true_and, Bool.false_and, Option.isNone_none, Option.isNone_some, Option.isSome_some, Option.isSome_none, zbk, zbl, zbm, zbn, zbo, zbp, zbq, zbr, zbs, zbt, zbu, zbv, zbw, zbx, zby, zbz, zca, zcb, zcc, zcd, zce, zcf, zcg, zch, zci, zcj, zck, zcl, zcm, zcn, zco, zcp, zcq, zcr, zcs, zct, zcu, zcv, zcw, zcx, zcy, zcz, zda, zdb, zdc, zdd, zde, zdf, Option.getD_some, Option.getD_none, zet, zeu, zev, zew, zex, zey, zez, zfa, Option.map_some, Option.map_none, Option.bind_some, List.map_cons, List.map_nil, List.cons_append, List.nil_append, ↓reduceIte, Nat.reduceEqDiff, Nat.reduceAdd, decide_true, decide_false, Bool.true_eq_false, Bool.false_eq_true, env0, List.getElem?_cons_zero, List.getElem?_cons_succ, zdg, zdh, zdi, zdj, zdk, zdl, zdm, zdn, ia22, ld31, zdo, zdp, zdq, zdr, zds, zdt, zdu, zdv, zdw, zdx, zdy, zdz, zea, zeb, zec, fa_0, fa_1, zed, bd_0, bd_2, zee, fd_1, zef, Nat.zero_add, st0_1, c0, hneg, u, k1, k2, k3, opA_two, two22_int, k4, ext_0, ext_1, zeb]
    exact finish_c _ _ 2 2 1 _ _ _ _ _ (by simp only [zfa, ↓reduceIte, Nat.reduceEqDiff]) (by simp only [zfa, ↓reduceIte, Nat.reduceEqDiff, hneg, decide_true, decide_false]) rfl
  · rw [if_neg hneg] at c0
    obtain ⟨k1, k2, k3, k4⟩ := key z.natAbs rfl (by omega)
    rw [decide_eq_false hneg] at k4
    simp only [zaa, zab, zac, zad, zae, zaf, zag, zah, zai, zaj, zak, zal, zam, zan, zao, zap, zaq, zar, zas, zat, zau, zav, zaw, zax, zay, zaz, zba, zbb, zbc, zbd, zbe, zbf, zbg, zbh, zbi, zbj, Nat.reduceBEq, Bool.or_self, Bool.or_false, Bool.or_true, Bool.and_true, Bool.and_false, Bool.true_and, Bool.false_and, Option.isNone_none, Option.isNone_some, Option.isSome_some, Option.isSome_none, zbk, zbl, zbm, zbn, zbo, zbp, zbq, zbr, zbs, zbt, zbu, zbv, zbw, zbx, zby, zbz, zca, zcb, zcc, zcd, zce, zcf, zcg, zch, zci, zcj, zck, zcl, zcm, zcn, zco, zcp, zcq, zcr, zcs, zct, zcu, zcv, zcw, zcx, zcy, zcz, zda, zdb, zdc, zdd, zde, zdf, Option.getD_some, Option.getD_none, zet, zeu, zev, zew, zex, zey, zez, zfa, Option.map_some, Option.map_none, Option.bind_some, List.map_cons, List.map_nil, List.cons_append, List.nil_append, ↓reduceIte, Nat.reduceEqDiff, Nat.reduceAdd, decide_true, decide_false, Bool.true_eq_false, Bool.false_eq_true, env0, List.getElem?_cons_zero, List.getElem?_cons_succ, zdg, zdh, zdi, zdj, zdk, zdl, zdm, zdn, ia22, ld31, zdo, zdp, zdq, zdr, zds, zdt, zdu, zdv, zdw, zdx, zdy, zdz, zea, zeb, zec, fa_0, fa_1, zed, bd_0, bd_2, zee, fd_1, zef, Nat.zero_add, st0_1, c0, hneg, k1, k2, k3, opA_two, two22_int, k4, ext_0, ext_1, zeb]
    exact finish_c _ _ 2 2 1 _ _ _ _ _ (by simp only [zfa, ↓reduceIte, Nat.reduceEqDiff]) (by simp only [zfa, ↓reduceIte, Nat.reduceEqDiff, hneg, decide_true, decide_false]) rfl
theorem cRof64 (n d : Nat) (hn : 100000 ≤ n) (z : Int) (h : -9223372036854775808 ≤ z) (h' : z ≤ 9223372036854775807) (D : Nat) (s : St) : callA cfg0 (evalFn Tryd.prog cfg0 n (d+3)) D s 38 [.int .i64 z] = some (canA .l z, s) :=
  callA_trees rfl (rof64_eq n d hn z h h')

end Go.Ab

/- Small Ints as terms; rows and lists of them, compared. Conditions: numbers that Go has. -/
namespace Go.Ab
open Go.Proofs
set_option maxRecDepth 100000
set_option linter.unusedSimpArgs false

def I64 (v : Int) : Prop := -9223372036854775808 ≤ v ∧ v ≤ 9223372036854775807
def intT (v : Int) : T := .mk 1 (decide (v < 0)) .l (digs v.natAbs) [] 0 .n []
def nilT' : T := .mk 3 false .n [] [] 0 .n []
def tupT (kg : Gk) (us : List T) : T := .mk 5 false .n [] [] 0 kg us
theorem i64_B {v : Int} (h : I64 v) : v.natAbs < B ^ 12 := by
  have h1 : v.natAbs ≤ 9223372036854775808 := by obtain ⟨a, b⟩ := h; omega
  have h2 : B ^ 2 ≤ B ^ 12 := Nat.pow_le_pow_right (by decide) (by decide)
  have h3 : 9223372036854775808 < B ^ 2 := by decide
  omega
theorem rInt_eq (n d : Nat) (hn : 100000 ≤ n) (v : Int) (h : I64 v) : evalFn Tryd.prog cfg0 n (d+4) 25 [.tree (.int .i64 v)] = some (.tree (encT (intT v)), [[]]) := by
  rw [evalFn_go _ Tryd.func25 (by unfold Tryd.f25; rfl) (by unfold Tryd.f25; decide) (Nat.le_of_ble_eq_true (by unfold Tryd.f25; rfl)) (by kernel_rfl)]
  have c1 := fun D st => cRof64 n d hn v h.1 h.2 D st
  have b1 := bdT_1 1 (decide (v < 0)) .l (digs v.natAbs)
  have st1 := fun st p k => st_Tt st p k (intT v)
  simp only [intT, cellsT, encC, List.map_nil, cellsK, List.length_nil, gr] at st1
  simp only [zaa, zab, zac, zad, zae, zaf, zag, zah, zai, zaj, zak, zal, zam, zan, zao, zap, zaq, zar, zas, zat, zau, zav, zaw, zax, zay, zaz, zba, zbb, zbc, zbd, zbe, zbf, zbg, zbh, zbi, zbj, Nat.reduceBEq, Bool.or_self, Bool.or_false, Bool.or_true, Bool.and_true, Bool.and_false, Bool.true_and, Bool.false_and, Option.isNone_none, Option.isNone_some, Option.isSome_some, Option.isSome_none, zbk, zbl, zbm, zbn, zbo, zbp, zbq, zbr, zbs, zbt, zbu, zbv, zbw, zbx, zby, zbz, zca, zcb, zcc, zcd, zce, zcf, zcg, zch, zci, zcj, zck, zcl, zcm, zcn, zco, zcp, zcq, zcr, zcs, zct, zcu, zcv, zcw, zcx, zcy, zcz, zda, zdb, zdc, zdd, zde, zdf, Option.getD_some, Option.getD_none, zet, zeu, zev, zew, zex, zey, zez, zfa, Option.map_some, Option.map_none, Option.bind_some, List.map_cons, List.map_nil, List.cons_append, List.nil_append, ↓reduceIte, Nat.reduceEqDiff, Nat.reduceAdd, decide_true, decide_false, Bool.true_eq_false, Bool.false_eq_true, env0, List.getElem?_cons_zero, List.getElem?_cons_succ, zdg, zdh, zdi, zdj, zdk, zdl, zdm, zdn, ia22, ld31, zdo, zdp, zdq, zdr, zds, zdt, zdu, zdv, zdw, zdx, zdy, zdz, zea, zeb, zec, fa_0, fa_1, zed, bd_0, bd_2, zee, fd_1, zef, Nat.zero_add, zeroT, c1, canA, encA, b1, st1]
  have st6 := fun t k p st => stT_6 t k p st (.int .i64 0) (.bool false) (.sl [] 0 .nil) (.str []) (.int .i64 0) (.sl [] 0 .nil) (intT v)
  simp only [intT, cellsT, encC, List.map_nil, cellsK, List.length_nil, gr] at st6
  simp only [zaa, zab, zac, zad, zae, zaf, zag, zah, zai, zaj, zak, zal, zam, zan, zao, zap, zaq, zar, zas, zat, zau, zav, zaw, zax, zay, zaz, zba, zbb, zbc, zbd, zbe, zbf, zbg, zbh, zbi, zbj, Nat.reduceBEq, Bool.or_self, Bool.or_false, Bool.or_true, Bool.and_true, Bool.and_false, Bool.true_and, Bool.false_and, Option.isNone_none, Option.isNone_some, Option.isSome_some, Option.isSome_none, zbk, zbl, zbm, zbn, zbo, zbp, zbq, zbr, zbs, zbt, zbu, zbv, zbw, zbx, zby, zbz, zca, zcb, zcc, zcd, zce, zcf, zcg, zch, zci, zcj, zck, zcl, zcm, zcn, zco, zcp, zcq, zcr, zcs, zct, zcu, zcv, zcw, zcx, zcy, zcz, zda, zdb, zdc, zdd, zde, zdf, Option.getD_some, Option.getD_none, zet, zeu, zev, zew, zex, zey, zez, zfa, Option.map_some, Option.map_none, Option.bind_some, List.map_cons, List.map_nil, List.cons_append, List.nil_append, ↓reduceIte, Nat.reduceEqDiff, Nat.reduceAdd, decide_true, decide_false, Bool.true_eq_false, Bool.false_eq_true, env0, List.getElem?_cons_zero, List.getElem?_cons_succ, zdg, zdh, zdi, zdj, zdk, zdl, zdm, zdn, ia22, ld31, zdo, zdp, zdq, zdr, zds, zdt, zdu, zdv, zdw, zdx, zdy, zdz, zea, zeb, zec, fa_0, fa_1, zed, bd_0, bd_2, zee, fd_1, zef, Nat.zero_add, st6]
  exact finish_cT _ _ _ _ _ (intT v) _ _ _ (by first | (simp only [zfa, ↓reduceIte, Nat.reduceEqDiff]; done) | (simp only [zfa, ↓reduceIte, Nat.reduceEqDiff]; rfl)) (by simp only [intT, cellsT, encC, List.map_nil, cellsK, List.length_nil, gr]; exact (by first | (simp only [zfa, ↓reduceIte, Nat.reduceEqDiff]; done) | (simp only [zfa, ↓reduceIte, Nat.reduceEqDiff]; rfl))) rfl
theorem I1_eq (n d : Nat) (hn : 100000 ≤ n) (v : Int) (h : I64 v) : evalFn Tryd.prog cfg0 n (d+5) 13 [.tree (.int .i64 v)] = some (.tree (encT (intT v)), [[]]) := by
  rw [evalFn_go _ Tryd.func13 (by unfold Tryd.f13; rfl) (by unfold Tryd.f13; decide) (Nat.le_of_ble_eq_true (by unfold Tryd.f13; rfl)) (by kernel_rfl)]
  have c1 := fun D => fun st => callA_trees (cfg := cfg0) (d := D) (s := st) (f := 25) (vs := [.int .i64 v]) rfl (rInt_eq n d hn v h)
  simp only [encT] at c1
  simp only [zaa, zab, zac, zad, zae, zaf, zag, zah, zai, zaj, zak, zal, zam, zan, zao, zap, zaq, zar, zas, zat, zau, zav, zaw, zax, zay, zaz, zba, zbb, zbc, zbd, zbe, zbf, zbg, zbh, zbi, zbj, Nat.reduceBEq, Bool.or_self, Bool.or_false, Bool.or_true, Bool.and_true, Bool.and_false, Bool.true_and, Bool.false_and, Option.isNone_none, Option.isNone_some, Option.isSome_some, Option.isSome_none, zbk, zbl, zbm, zbn, zbo, zbp, zbq, zbr, zbs, zbt, zbu, zbv, zbw, zbx, zby, zbz, zca, zcb, zcc, zcd, zce, zcf, zcg, zch, zci, zcj, zck, zcl, zcm, zcn, zco, zcp, zcq, zcr, zcs, zct, zcu, zcv, zcw, zcx, zcy, zcz, zda, zdb, zdc, zdd, zde, zdf, Option.getD_some, Option.getD_none, zet, zeu, zev, zew, zex, zey, zez, zfa, Option.map_some, Option.map_none, Option.bind_some, List.map_cons, List.map_nil, List.cons_append, List.nil_append, ↓reduceIte, Nat.reduceEqDiff, Nat.reduceAdd, decide_true, decide_false, Bool.true_eq_false, Bool.false_eq_true, env0, List.getElem?_cons_zero, List.getElem?_cons_succ, zdg, zdh, zdi, zdj, zdk, zdl, zdm, zdn, ia22, ld31, zdo, zdp, zdq, zdr, zds, zdt, zdu, zdv, zdw, zdx, zdy, zdz, zea, zeb, zec, fa_0, fa_1, zed, bd_0, bd_2, zee, fd_1, zef, Nat.zero_add, zeroT, c1, st_Tt, stT_6]
  exact finish_cT _ _ _ _ _ (intT v) _ _ _ (by first | (simp only [zfa, ↓reduceIte, Nat.reduceEqDiff]; done) | (simp only [zfa, ↓reduceIte, Nat.reduceEqDiff]; rfl)) (by first | (simp only [zfa, ↓reduceIte, Nat.reduceEqDiff]; done) | (simp only [zfa, ↓reduceIte, Nat.reduceEqDiff]; rfl)) rfl

/-! ### Compared -/
theorem good_int {v : Int} (h : I64 v) : goodT (intT v) := by
  have hc : chkN (decide (v < 0)) (digs v.natAbs) = true := by
    rw [chk_digs _ _ (fun h0 => decide_eq_false (by omega)), decide_eq_true (i64_B h)]
  simp only [intT, goodT, ownT, goodK, hc, and_true]
  refine ⟨limbs_digs _, ?_⟩
  simp
theorem good_nil' : goodT nilT' := by
  simp only [nilT', goodT, goodK, and_true]
  exact ⟨limbs_nil, by decide⟩
theorem goodK_map : ∀ {xs : List Int}, (∀ x ∈ xs, I64 x) → goodK (xs.map intT)
  | [], _ => by simp only [List.map_nil, goodK]
  | x :: xs, h => by
    simp only [List.map_cons, goodK]
    exact ⟨good_int (h x (by simp)), goodK_map fun y hy => h y (by simp [hy])⟩
theorem goodT_tup {kg : Gk} {us : List T} (h : goodK us) (hl : us.length ≤ 40) : goodT (tupT kg us) := by
  simp only [tupT, goodT]
  refine ⟨limbs_nil, ?_, h⟩
  simp [ownT, zeroB, hl]
theorem goodT_cons {a b : T} (h : goodT a) (k : goodT b) : goodT (consT a b) := by
  simp only [consT, goodT, goodK, and_true]
  exact ⟨limbs_nil, by simp [ownT, zeroB], h, k⟩
theorem goodT_list : ∀ {us : List T} {t : T}, goodK us → goodT t → goodT (listT us t)
  | [], _, _, h => h
  | u :: us, t, h, k => by simp only [goodK] at h; exact goodT_cons h.1 (goodT_list h.2 k)
theorem nod_int (v : Int) : nodT (intT v) = 1 := rfl
theorem nodK_ints : ∀ xs : List Int, nodK (xs.map intT) = xs.length
  | [] => rfl
  | x :: xs => by simp only [List.map_cons, nodK, nod_int, nodK_ints xs, List.length_cons]; omega
theorem nod_list : ∀ (us : List T) (t : T), nodT (listT us t) = us.length + nodK us + nodT t
  | [], t => by simp [listT, nodK]
  | u :: us, t => by
    have := nod_list us t
    simp only [listT, consT, nodT, nodK, List.length_cons] at this ⊢
    omega
def fstZ : List Int → List Int → Int
  | x :: r, y :: q => or2 (three x y) (fstZ r q)
  | _, _ => 0
theorem cmp_ints {x y : Int} (hx : I64 x) (hy : I64 y) : cmpT (intT x) (intT y) = three x y := by
  rw [cmp_k _ _ (by simp [intT, kindT])]
  have e1 : numT (intT x) = x := numZ_can x (i64_B hx)
  have e2 : numT (intT y) = y := numZ_can y (i64_B hy)
  have e3 : three (rankI (kindT (intT x))) (rankI (kindT (intT y))) = 0 := rfl
  rw [e3, or2_0 rfl]
  have e4 : restC (kindT (intT x)) (intT x) (intT y) = cmpI (numT (intT x)) (numT (intT y)) := rfl
  rw [e4, e1, e2]
  rfl
theorem cmpL_ints : ∀ (xs ys : List Int), (∀ x ∈ xs, I64 x) → (∀ x ∈ ys, I64 x) → xs.length = ys.length → cmpL (xs.map intT) (ys.map intT) = fstZ xs ys
  | [], [], _, _, _ => by simp only [List.map_nil, cmpL, fstZ]
  | [], y :: ys, _, _, h => by cases h
  | x :: xs, [], _, _, h => by cases h
  | x :: xs, y :: ys, hx, hy, h => by
    simp only [List.map_cons, cmpL, fstZ]
    rw [cmp_ints (hx x (by simp)) (hy y (by simp)), cmpL_ints xs ys (fun z hz => hx z (by simp [hz])) (fun z hz => hy z (by simp [hz])) (by simpa using h)]
theorem cmp_tups {kg kg' : Gk} {xs ys : List Int} (hx : ∀ x ∈ xs, I64 x) (hy : ∀ x ∈ ys, I64 x) : cmpT (tupT kg (xs.map intT)) (tupT kg' (ys.map intT)) = or2 (three xs.length ys.length) (fstZ xs ys) := by
  rw [cmp_k _ _ (by simp [tupT, kindT])]
  have e3 : three (rankI (kindT (tupT kg (xs.map intT)))) (rankI (kindT (tupT kg' (ys.map intT)))) = 0 := rfl
  rw [e3, or2_0 rfl]
  have e4 : restC (kindT (tupT kg (xs.map intT))) (tupT kg (xs.map intT)) (tupT kg' (ys.map intT)) = or2 (three ((xs.map intT).length : Int) ((ys.map intT).length : Int)) (cmpL (xs.map intT) (ys.map intT)) := rfl
  rw [e4, List.length_map, List.length_map]
  by_cases h : xs.length = ys.length
  · rw [cmpL_ints xs ys hx hy h]
  · have : three (xs.length : Int) (ys.length : Int) ≠ 0 := by
      unfold three
      split
      · decide
      · split
        · decide
        · omega
    rw [or2_n this, or2_n this]
theorem three_0 (a b : Int) (h : three a b = 0) : a = b := by
  unfold three at h
  split at h
  · cases h
  · split at h
    · cases h
    · omega
theorem cmp_lists : ∀ (xs ys : List Int), (∀ x ∈ xs, I64 x) → (∀ x ∈ ys, I64 x) → cmpT (listT (xs.map intT) nilT') (listT (ys.map intT) nilT') = or2 (fstZ xs ys) (three xs.length ys.length)
  | [], [], _, _ => by
    simp only [List.map_nil, listT, fstZ]
    rw [cmp_k _ _ (by simp [nilT', kindT])]
    rfl
  | [], y :: ys, _, _ => by
    simp only [List.map_nil, List.map_cons, listT, fstZ, or2_0]
    rw [cmp_k _ _ (by simp [nilT', kindT])]
    have e1 : three ([] : List Int).length ((y :: ys).length : Int) = -1 := by
      unfold three; rw [if_pos (by simp)]
    have e2 : three (rankI (kindT nilT')) (rankI (kindT (consT (intT y) (listT (ys.map intT) nilT')))) = -1 := rfl
    rw [e1, e2]; rfl
  | x :: xs, [], _, _ => by
    simp only [List.map_nil, List.map_cons, listT, fstZ, or2_0]
    rw [cmp_k _ _ (by simp [nilT', kindT])]
    have e1 : three ((x :: xs).length : Int) ([] : List Int).length = 1 := by
      unfold three; rw [if_neg (by simp; omega), if_pos (by simp)]
    have e2 : three (rankI (kindT (consT (intT x) (listT (xs.map intT) nilT')))) (rankI (kindT nilT')) = 1 := rfl
    rw [e1, e2]; rfl
  | x :: xs, y :: ys, hx, hy => by
    simp only [List.map_cons, listT, fstZ]
    have e : cmpT (consT (intT x) (listT (xs.map intT) nilT')) (consT (intT y) (listT (ys.map intT) nilT')) = or2 (cmpT (intT x) (intT y)) (cmpT (listT (xs.map intT) nilT') (listT (ys.map intT) nilT')) := cmp_4 _ _ _ _ _ _ _ _ _ _ _ _ _ _ _ _
    rw [e, cmp_ints (hx x (by simp)) (hy y (by simp)), cmp_lists xs ys (fun z hz => hx z (by simp [hz])) (fun z hz => hy z (by simp [hz]))]
    have e5 : three ((x :: xs).length : Int) ((y :: ys).length : Int) = three (xs.length : Int) (ys.length : Int) := by
      unfold three
      simp only [List.length_cons]
      congr 1
      · simp
      · congr 1; simp
    rw [e5]
    unfold or2
    split <;> rfl
end Go.Ab

/- The statement TermTuples. Conditions: numbers that Go has. -/
namespace Go.Ab
open Go.Proofs
set_option maxRecDepth 100000
set_option linter.unusedSimpArgs false

def intsA (xs : List Int) : List AV := xs.map (AV.int .i64)
theorem ldInts (xs : List Int) (i : Nat) (h : i < xs.length) (st : St) : loadA Tryd.prog 3 st (.rptr ((intsA xs).drop i)) = some (.int .i64 xs[i]) := by
  have e : (intsA xs).drop i = .int .i64 xs[i] :: (intsA xs).drop (i + 1) := by
    rw [List.drop_eq_getElem_cons (by simpa [intsA] using h)]
    simp [intsA]
  rw [e]
  exact ld33 st _ _
theorem bs1T (e : T) : (fillA (fun i => some (i * 6, 6)) (rep 1 zeroT6) [(0, .agg (cellsT e))]).map (AV.sl · 1 .tight) = some (.sl (cellsT e) 1 .tight) := by
  have h := cellsT_len e
  have a1 : splice (rep 1 zeroT6) (0 * 6) (cellsT e) = cellsT e := by
    simp only [splice, Nat.zero_mul, List.take_zero, List.nil_append, Nat.zero_add, h]; exact List.append_nil _
  simp only [fillA, settled, Option.bind_some, cellsOf]
  rw [if_pos ⟨h, by decide⟩, a1]
  rfl
theorem opA_bs1 (call : FuncId → List Arg → Option Out) (q : Bool) (d : Option Tmp) (ty : TypeId) (pos : String) (af : Array Edge) (g : Option (Nat × Bool)) (t : Nat) (env : Env) (s : St) (x : Operand) (e : T) (hx : ev env x = .agg (cellsT e)) :
    opA Tryd.prog cfg0 call q ⟨d, .buildSlice 22 1 #[(0, x)], ty, pos, af, g⟩ t env s = some (.sl (cellsT e) 1 .tight, s) := by
  simp only [opA, tkTk, eszT, zeroT, Option.bind_some, List.map_cons, List.map_nil, hx]
  rw [if_pos ⟨by rfl, by decide⟩]
  show Option.map _ (Option.map _ (fillA (fun i => some (i * 6, 6)) (rep 1 zeroT6) [(0, .agg (cellsT e))])) = _
  have := bs1T e
  rw [this]; rfl
theorem fst_step (xs ys : List Int) (i : Nat) (h1 : i < xs.length) (h2 : i < ys.length) : fstZ (xs.drop i) (ys.drop i) = or2 (three xs[i] ys[i]) (fstZ (xs.drop (i + 1)) (ys.drop (i + 1))) := by
  rw [List.drop_eq_getElem_cons h1, List.drop_eq_getElem_cons h2, fstZ]
theorem fst_end (xs ys : List Int) (i : Nat) (h : ¬ (i < xs.length ∧ i < ys.length)) : fstZ (xs.drop i) (ys.drop i) = 0 := by
  by_cases h1 : i < xs.length
  · rw [List.drop_eq_nil_of_le (show ys.length ≤ i by omega)]
    cases xs.drop i <;> rfl
  · rw [List.drop_eq_nil_of_le (show xs.length ≤ i by omega)]
    rfl
theorem fst_rng : ∀ xs ys : List Int, -1 ≤ fstZ xs ys ∧ fstZ xs ys ≤ 1
  | x :: r, y :: q => by rw [fstZ]; exact or2_rng (three_rng x y) (fst_rng r q)
  | [], _ => by rw [fstZ]; omega; simp
  | _ :: _, [] => by rw [fstZ]; omega; simp
theorem min33 (a b : Nat) : foldA min2A (.int .i64 (a : Int)) [.int .i64 (b : Int)] = some (.int .i64 ((min a b : Nat) : Int)) := by
  simp only [foldA, min2A, Option.bind_some]
  congr 2
  split <;> omega
theorem qI1 (R : Nat) (hR : 100000 ≤ R) (v : Int) (h : I64 v) : evalFn Tryd.prog cfg0 R 6099 13 [.tree (.int .i64 v)] = some (.tree (encT (intT v)), [[]]) := I1_eq R 6094 hR v h
/-- A row that was made, in a term, in a list: what a region that draws its order makes of it. -/
theorem Ap.tup {s : St} {d : Nat} {x : AV} {us : List T} (h : Ap s d x us) : buildA Tryd.prog 29 [(0, .int .i64 5), (4, x)] = some (.agg (cellsT (tupT (kgOf us) us))) := by
  have hs := h.settled
  simp only [buildA, zeroT, tkT, plT, Option.bind_some, fillA, List.getElem?_cons_zero, List.getElem?_cons_succ, hs]
  simp only [tupT, cellsT, encL, encC, List.map_nil, List.length_nil, gr]
  rfl
theorem Ap.list {s : St} {d : Nat} {x : AV} {us : List T} (h : Ap s d x us) (hl : us.length ≤ 1000000) (R D : Nat) : callQ (evalFn Tryd.prog cfg0 R (D+1)) 55 [x, encT nilT'] = some (encT (listT us nilT')) := by
  rcases h with ⟨rfl, rfl⟩ | ⟨_, t, rfl, _⟩
  · exact callQ_trees (vs := [.sl [] 0 .nil, encT nilT']) rfl (tList_eq R D [] .nil nilT' (by decide))
  · exact callQ_loose (vs := [.sl (cellsK us) us.length (.tok d t), encT nilT']) rfl rfl rfl (tList_eq R D us .loose nilT' (by omega))

theorem three_lt {a b : Int} (h : a < b) : three a b = -1 := if_pos h
theorem three_gt {a b : Int} (h : b < a) : three a b = 1 := by unfold three; rw [if_neg (by omega), if_pos h]
theorem three_eq {a b : Int} (h1 : ¬ a < b) (h2 : ¬ b < a) : three a b = 0 := by unfold three; rw [if_neg h1, if_neg h2]

noncomputable def codeTT : Code := (Tryd.f0.body).getD .skip
noncomputable def tailA : Code := seqR (seqR (seqR (seqR (seqR (seqR (seqR codeTT))))))
noncomputable def tailB : Code := seqR (seqR (seqR (seqR (seqR tailA))))
def outT : Option Out := some (.tree (.bool true), [[], []])
section
variable (R : Nat) (hR : 100000 ≤ R) (xs ys : List Int) (hx : ∀ x ∈ xs, I64 x) (hy : ∀ x ∈ ys, I64 x) (hxk : xs.length ≤ 30) (hyk : ys.length ≤ 30) (gx gy : Grip) (x5 x6 : AV) (s1 s2 : St) (ap : Ap s1 36 x5 (xs.map intT)) (ap2 : Ap s2 50 x6 (ys.map intT))
include hR hx hy hxk hyk ap ap2
end
end Go.Ab

/- Light terms; the items of a list. Conditions: lengths in range. -/
namespace Go.Ab
open Go.Proofs
set_option maxRecDepth 100000
set_option linter.unusedSimpArgs false

/-! ### Light -/
mutual
def lgT : T → Int → Int
  | .mk _ _ _ l s _ _ ks, n => if (l.length : Int) > 40 ∨ (s.length : Int) > 500 then -1 else lgK ks (n - 1)
def lgK : List T → Int → Int
  | [], n => n
  | t :: r, n => if n ≥ 0 then lgK r (lgT t n) else n
end
mutual
theorem lgT_lt : ∀ (t : T) (n : Int), 0 ≤ n → -1 ≤ lgT t n ∧ lgT t n ≤ n - 1
  | .mk _ _ _ l s _ _ ks, n, h => by
    simp only [lgT]
    split
    · omega
    · by_cases h1 : 0 ≤ n - 1
      · have := lgK_le ks (n - 1) (by omega); omega
      · have h2 : n - 1 = -1 := by omega
        rw [h2]
        cases ks with
        | nil => simp only [lgK]; omega
        | cons a r => simp only [lgK]; rw [if_neg (by omega)]; omega
theorem lgK_le : ∀ (ks : List T) (n : Int), -1 ≤ n → -1 ≤ lgK ks n ∧ lgK ks n ≤ n
  | [], n, h => by simp only [lgK]; omega
  | t :: r, n, h => by
    simp only [lgK]
    split
    · rename_i h0
      have h1 := lgT_lt t n h0
      have h2 := lgK_le r (lgT t n) h1.1
      omega
    · omega
end
mutual
/-- No numbers, no texts that are long. -/
def leanT : T → Prop
  | .mk _ _ _ l s _ _ ks => l.length ≤ 40 ∧ s.length ≤ 500 ∧ leanK ks
def leanK : List T → Prop
  | [] => True
  | t :: r => leanT t ∧ leanK r
end
mutual
theorem lgT_ok : ∀ (t : T) (n : Int), 0 ≤ lgT t n → leanT t ∧ lgT t n = n - nodT t
  | .mk _ _ _ l s _ _ ks, n, h => by
    simp only [lgT] at h ⊢
    split at h
    · omega
    · rename_i hc
      rw [if_neg hc]
      obtain ⟨h1, h2⟩ := lgK_ok ks (n - 1) h
      simp only [leanT, nodT]
      exact ⟨⟨by omega, by omega, h1⟩, by omega⟩
theorem lgK_ok : ∀ (ks : List T) (n : Int), 0 ≤ lgK ks n → leanK ks ∧ lgK ks n = n - nodK ks
  | [], n, h => by simp only [lgK, leanK, nodK]; exact ⟨trivial, by omega⟩
  | t :: r, n, h => by
    simp only [lgK] at h ⊢
    split at h
    · rename_i h0
      rw [if_pos h0]
      obtain ⟨h1, h2⟩ := lgK_ok r (lgT t n) h
      have h3 := nodK_nn r
      obtain ⟨h4, h5⟩ := lgT_ok t n (by omega)
      simp only [leanK, nodK]
      exact ⟨⟨h4, h1⟩, by omega⟩
    · omega
theorem nodK_nn (r : List T) : (0 : Int) ≤ nodK r := by omega
end
set_option maxHeartbeats 8000000 in
theorem light_eq (R : Nat) (hR : 2000 ≤ R) (hR2 : R ≤ 9223372036854775808) : ∀ (d : Nat) (t : T) (n : Int), 0 ≤ n → n < 1000 → n + 2 ≤ (d : Int) → bigT R t → fewT R t →
    evalFn Tryd.prog cfg0 R d 31 [.tree (encT t), .tree (.int .i64 n)] = some (.tree (.int .i64 (lgT t n)), [[], []])
  | 0, t, n, h0, _, hd, _, _ => by omega
  | d + 1, t, n, h0, h1, hd, hb, hf => by
    have IH := light_eq R hR hR2 d
    obtain ⟨k, b, lg, l, s, m, kg, ks⟩ := t
    simp only [bigT] at hb
    simp only [fewT] at hf
    rw [evalFn_go _ Tryd.func31 (by unfold Tryd.f31; rfl) (by unfold Tryd.f31; decide) (Nat.le_of_ble_eq_true (by unfold Tryd.f31; rfl)) (by kernel_rfl)]
    have f0 := i_sub Tryd.prog 3 n 1 (by omega) (by omega)
    have ll := len23
    by_cases c1 : (l.length : Int) > 40
    · have hr : lgT (.mk k b lg l s m kg ks) n = -1 := by simp only [lgT]; rw [if_pos (.inl c1)]
      rw [hr]
      simp only [zaa, zab, zac, zad, zae, zaf, zag, zah, zai, zaj, zak, zal, zam, zan, zao, zap, zaq, zar, zas, zat, zau, zav, zaw, zax, zay, zaz, zba, zbb, zbc, zbd, zbe, zbf, zbg, zbh, zbi, zbj, Nat.reduceBEq, Bool.or_self, Bool.or_false, Bool.or_true, Bool.and_true, Bool.and_false, Bool.true_and, Bool.false_and, Option.isNone_none, Option.isNone_some, Option.isSome_some, Option.isSome_none, zbk, zbl, zbm, zbn, zbo, zbp, zbq, zbr, zbs, zbt, zbu, zbv, zbw, zbx, zby, zbz, zca, zcb, zcc, zcd, zce, zcf, zcg, zch, zci, zcj, zck, zcl, zcm, zcn, zco, zcp, zcq, zcr, zcs, zct, zcu, zcv, zcw, zcx, zcy, zcz, zda, zdb, zdc, zdd, zde, zdf, Option.getD_some, Option.getD_none, zet, zeu, zev, zew, zex, zey, zez, zfa, Option.map_some, Option.map_none, Option.bind_some, List.map_cons, List.map_nil, List.cons_append, List.nil_append, ↓reduceIte, Nat.reduceEqDiff, Nat.reduceAdd, decide_true, decide_false, Bool.true_eq_false, Bool.false_eq_true, env0, List.getElem?_cons_zero, List.getElem?_cons_succ, zdg, zdh, zdi, zdj, zdk, zdl, zdm, zdn, ia22, ld31, zdo, zdp, zdq, zdr, zds, zdt, zdu, zdv, zdw, zdx, zdy, zdz, zea, zeb, zec, fa_0, fa_1, zed, bd_0, bd_2, zee, fd_1, zef, Nat.zero_add, zeg, List.toList_toArray, len9, ix9, zeh, zei, zej, zek, zel, encT, cellsT, f0, faT_1, faT_2, faT_4, faN_1, ldT_2, ldT_4, ldT_l, ll, c1, Nat.reduceAdd]
      exact finish_i _ _ _ _ _ _ _ (by first | (simp only [zfa, ↓reduceIte, Nat.reduceEqDiff]; done) | (simp only [zfa, ↓reduceIte, Nat.reduceEqDiff]; rfl)) rfl
    by_cases c2 : (s.length : Int) > 500
    · have hr : lgT (.mk k b lg l s m kg ks) n = -1 := by simp only [lgT]; rw [if_pos (.inr c2)]
      rw [hr]
      simp only [zaa, zab, zac, zad, zae, zaf, zag, zah, zai, zaj, zak, zal, zam, zan, zao, zap, zaq, zar, zas, zat, zau, zav, zaw, zax, zay, zaz, zba, zbb, zbc, zbd, zbe, zbf, zbg, zbh, zbi, zbj, Nat.reduceBEq, Bool.or_self, Bool.or_false, Bool.or_true, Bool.and_true, Bool.and_false, Bool.true_and, Bool.false_and, Option.isNone_none, Option.isNone_some, Option.isSome_some, Option.isSome_none, zbk, zbl, zbm, zbn, zbo, zbp, zbq, zbr, zbs, zbt, zbu, zbv, zbw, zbx, zby, zbz, zca, zcb, zcc, zcd, zce, zcf, zcg, zch, zci, zcj, zck, zcl, zcm, zcn, zco, zcp, zcq, zcr, zcs, zct, zcu, zcv, zcw, zcx, zcy, zcz, zda, zdb, zdc, zdd, zde, zdf, Option.getD_some, Option.getD_none, zet, zeu, zev, zew, zex, zey, zez, zfa, Option.map_some, Option.map_none, Option.bind_some, List.map_cons, List.map_nil, List.cons_append, List.nil_append, ↓reduceIte, Nat.reduceEqDiff, Nat.reduceAdd, decide_true, decide_false, Bool.true_eq_false, Bool.false_eq_true, env0, List.getElem?_cons_zero, List.getElem?_cons_succ, zdg, zdh, zdi, zdj, zdk, zdl, zdm, zdn, ia22, ld31, zdo, zdp, zdq, zdr, zds, zdt, zdu, zdv, zdw, zdx, zdy, zdz, zea, zeb, zec, fa_0, fa_1, zed, bd_0, bd_2, zee, fd_1, zef, Nat.zero_add, zeg, List.toList_toArray, len9, ix9, zeh, zei, zej, zek, zel, encT, cellsT, f0, faT_1, faT_2, faT_4, faN_1, ldT_2, ldT_4, ldT_l, ll, c1, c2, Nat.reduceAdd]
      exact finish_i _ _ _ _ _ _ _ (by first | (simp only [zfa, ↓reduceIte, Nat.reduceEqDiff]; done) | (simp only [zfa, ↓reduceIte, Nat.reduceEqDiff]; rfl)) rfl
    have hr : lgT (.mk k b lg l s m kg ks) n = lgK ks (n - 1) := by simp only [lgT]; rw [if_neg (by omega)]
    rw [hr]
    simp only [zaa, zab, zac, zad, zae, zaf, zag, zah, zai, zaj, zak, zal, zam, zan, zao, zap, zaq, zar, zas, zat, zau, zav, zaw, zax, zay, zaz, zba, zbb, zbc, zbd, zbe, zbf, zbg, zbh, zbi, zbj, Nat.reduceBEq, Bool.or_self, Bool.or_false, Bool.or_true, Bool.and_true, Bool.and_false, Bool.true_and, Bool.false_and, Option.isNone_none, Option.isNone_some, Option.isSome_some, Option.isSome_none, zbk, zbl, zbm, zbn, zbo, zbp, zbq, zbr, zbs, zbt, zbu, zbv, zbw, zbx, zby, zbz, zca, zcb, zcc, zcd, zce, zcf, zcg, zch, zci, zcj, zck, zcl, zcm, zcn, zco, zcp, zcq, zcr, zcs, zct, zcu, zcv, zcw, zcx, zcy, zcz, zda, zdb, zdc, zdd, zde, zdf, Option.getD_some, Option.getD_none, zet, zeu, zev, zew, zex, zey, zez, zfa, Option.map_some, Option.map_none, Option.bind_some, List.map_cons, List.map_nil, List.cons_append, List.nil_append, ↓reduceIte, Nat.reduceEqDiff, Nat.reduceAdd, decide_true, decide_false, Bool.true_eq_false, Bool.false_eq_true, env0, List.getElem?_cons_zero, List.getElem?_cons_succ, zdg, zdh, zdi, zdj, zdk, zdl, zdm, zdn, ia22, ld31, zdo, zdp, zdq, zdr, zds, zdt, zdu, zdv, zdw, zdx, zdy, zdz, zea, zeb, zec, fa_0, fa_1, zed, bd_0, bd_2, zee, fd_1, zef, Nat.zero_add, zeg, List.toList_toArray, len9, ix9, zeh, zei, zej, zek, zel, encT, cellsT, f0, faT_1, faT_2, faT_4, faN_1, ldT_2, ldT_4, ldT_l, ll, c1, c2, Nat.reduceAdd, den_loop]
    refine loop_ends (X := Nat × Int) (fun x env s' => env 2 = .ptr 2 1 0 ∧ s' 2 = ⟨1, .buf (cellsT (.mk k b lg l s m kg ks))⟩ ∧ env 1 = .int .i64 x.2 ∧ env 5 = .int .i64 (x.1 : Int) ∧ x.1 ≤ ks.length ∧ -1 ≤ x.2 ∧ x.2 ≤ n - 1 ∧ lgK ks (n - 1) = lgK (ks.drop x.1) x.2) (fun x => (x.2 + 1).toNat) (fun _ => (.tree (.int .i64 (lgK ks (n - 1))), [[], []])) ?_ R (0, n - 1) _ _ (by simp only; omega) ⟨(by first | (simp only [zfa, ↓reduceIte, Nat.reduceEqDiff]; done) | (simp only [zfa, ↓reduceIte, Nat.reduceEqDiff]; rfl)), (by first | (simp only [zfa, ↓reduceIte, Nat.reduceEqDiff]; done) | (simp only [zfa, ↓reduceIte, Nat.reduceEqDiff]; rfl)), (by first | (simp only [zfa, ↓reduceIte, Nat.reduceEqDiff]; done) | (simp only [zfa, ↓reduceIte, Nat.reduceEqDiff]; rfl)), (by first | (simp only [zfa, ↓reduceIte, Nat.reduceEqDiff]; done) | (simp only [zfa, ↓reduceIte, Nat.reduceEqDiff]; rfl)), Nat.zero_le _, by simp only; omega, by simp only; omega, rfl⟩
    rintro rr ⟨i, v⟩ hrr ih2 env st ⟨e2, j2, e1, e5, hi, hv0, hv1, hk⟩
    simp only at e1 e5 hi hv0 hv1 hk hrr
    simp only [cellsT] at j2
    cases hdr : ks.drop i with
    | nil =>
      have hil : i = ks.length := by have := congrArg List.length hdr; simp only [List.length_drop, List.length_nil] at this; omega
      subst hil
      rw [hdr] at hk
      simp only [lgK] at hk
      rw [hk]
      have q1 : ¬ ((ks.length : Int) < (ks.length : Int)) := by omega
      simp only [zaa, zab, zac, zad, zae, zaf, zag, zah, zai, zaj, zak, zal, zam, zan, zao, zap, zaq, zar, zas, zat, zau, zav, zaw, zax, zay, zaz, zba, zbb, zbc, zbd, zbe, zbf, zbg, zbh, zbi, zbj, Nat.reduceBEq, Bool.or_self, Bool.or_false, Bool.or_true, Bool.and_true, Bool.and_false, Bool.true_and, Bool.false_and, Option.isNone_none, Option.isNone_some, Option.isSome_some, Option.isSome_none, zbk, zbl, zbm, zbn, zbo, zbp, zbq, zbr, zbs, zbt, zbu, zbv, zbw, zbx, zby, zbz, zca, zcb, zcc, zcd, zce, zcf, zcg, zch, zci, zcj, zck, zcl, zcm, zcn, zco, zcp, zcq, zcr, zcs, zct, zcu, zcv, zcw, zcx, zcy, zcz, zda, zdb, zdc, zdd, zde, zdf, Option.getD_some, Option.getD_none, zet, zeu, zev, zew, zex, zey, zez, zfa, Option.map_some, Option.map_none, Option.bind_some, List.map_cons, List.map_nil, List.cons_append, List.nil_append, ↓reduceIte, Nat.reduceEqDiff, Nat.reduceAdd, decide_true, decide_false, Bool.true_eq_false, Bool.false_eq_true, zdg, zdh, zdi, zdj, zdk, zdl, zdm, zdn, ia22, ld31, zdo, zdp, zdq, zdr, zds, zdt, zdu, zdv, zdw, zdx, zdy, zdz, zea, zeb, zec, fa_0, fa_1, zed, bd_0, bd_2, zee, fd_1, zef, Nat.zero_add, e2, j2, e1, e5, faT_4, ldT_4, lenTk, q1]
      exact finish_i _ _ _ _ _ _ _ (by first | (simp only [zfa, ↓reduceIte, Nat.reduceEqDiff]; done) | (simp only [zfa, ↓reduceIte, Nat.reduceEqDiff]; rfl)) rfl
    | cons kid r =>
      have hil : i < ks.length := by have := congrArg List.length hdr; simp only [List.length_drop, List.length_cons] at this; omega
      have q1 : (i : Int) < (ks.length : Int) := by omega
      rw [hdr] at hk
      simp only [lgK] at hk
      by_cases q2 : v ≥ 0
      · rw [if_pos q2] at hk
        have hbk := bigK_at R ks i kid r hdr hb.2.2
        have hfk := fewK_at R ks i kid r hdr hf.2.2
        have cc := fun D st => callA_trees (cfg := cfg0) (d := D) (s := st) (f := 31) (vs := [encT kid, .int .i64 v]) rfl (IH kid v q2 (by omega) (by omega) hbk hfk)
        simp only [encT] at cc
        have ia := fun st => ia_K st ks (gr kg) i hil
        rw [hdr] at ia
        have ld := fun st => ld_K st kid r
        simp only [encT] at ld
        have f5 := i_add Tryd.prog 3 (i : Int) 1 (by omega) (by omega)
        have hl := lgT_lt kid v q2
        simp only [zaa, zab, zac, zad, zae, zaf, zag, zah, zai, zaj, zak, zal, zam, zan, zao, zap, zaq, zar, zas, zat, zau, zav, zaw, zax, zay, zaz, zba, zbb, zbc, zbd, zbe, zbf, zbg, zbh, zbi, zbj, Nat.reduceBEq, Bool.or_self, Bool.or_false, Bool.or_true, Bool.and_true, Bool.and_false, Bool.true_and, Bool.false_and, Option.isNone_none, Option.isNone_some, Option.isSome_some, Option.isSome_none, zbk, zbl, zbm, zbn, zbo, zbp, zbq, zbr, zbs, zbt, zbu, zbv, zbw, zbx, zby, zbz, zca, zcb, zcc, zcd, zce, zcf, zcg, zch, zci, zcj, zck, zcl, zcm, zcn, zco, zcp, zcq, zcr, zcs, zct, zcu, zcv, zcw, zcx, zcy, zcz, zda, zdb, zdc, zdd, zde, zdf, Option.getD_some, Option.getD_none, zet, zeu, zev, zew, zex, zey, zez, zfa, Option.map_some, Option.map_none, Option.bind_some, List.map_cons, List.map_nil, List.cons_append, List.nil_append, ↓reduceIte, Nat.reduceEqDiff, Nat.reduceAdd, decide_true, decide_false, Bool.true_eq_false, Bool.false_eq_true, zdg, zdh, zdi, zdj, zdk, zdl, zdm, zdn, ia22, ld31, zdo, zdp, zdq, zdr, zds, zdt, zdu, zdv, zdw, zdx, zdy, zdz, zea, zeb, zec, fa_0, fa_1, zed, bd_0, bd_2, zee, fd_1, zef, Nat.zero_add, e2, j2, e1, e5, faT_4, ldT_4, lenTk, q1, q2, ia, ld, cc, f5]
        exact ih2 (i + 1, lgT kid v) _ _ (by simp only; omega) rfl ⟨(by first | (simp only [zfa, ↓reduceIte, Nat.reduceEqDiff, e2]; done) | (simp only [zfa, ↓reduceIte, Nat.reduceEqDiff, e2]; rfl)), by simp only [cellsT]; exact (by first | (simp only [zfa, ↓reduceIte, Nat.reduceEqDiff, j2]; done) | (simp only [zfa, ↓reduceIte, Nat.reduceEqDiff, j2]; rfl)), (by first | (simp only [zfa, ↓reduceIte, Nat.reduceEqDiff]; done) | (simp only [zfa, ↓reduceIte, Nat.reduceEqDiff]; rfl)), (by first | (simp only [zfa, ↓reduceIte, Nat.reduceEqDiff]; done) | (simp only [zfa, ↓reduceIte, Nat.reduceEqDiff]; rfl)), by simp only; omega, by simp only; omega, by simp only; omega, by simp only; rw [drop_next hdr]; exact hk⟩
      · rw [if_neg q2] at hk
        rw [hk]
        simp only [zaa, zab, zac, zad, zae, zaf, zag, zah, zai, zaj, zak, zal, zam, zan, zao, zap, zaq, zar, zas, zat, zau, zav, zaw, zax, zay, zaz, zba, zbb, zbc, zbd, zbe, zbf, zbg, zbh, zbi, zbj, Nat.reduceBEq, Bool.or_self, Bool.or_false, Bool.or_true, Bool.and_true, Bool.and_false, Bool.true_and, Bool.false_and, Option.isNone_none, Option.isNone_some, Option.isSome_some, Option.isSome_none, zbk, zbl, zbm, zbn, zbo, zbp, zbq, zbr, zbs, zbt, zbu, zbv, zbw, zbx, zby, zbz, zca, zcb, zcc, zcd, zce, zcf, zcg, zch, zci, zcj, zck, zcl, zcm, zcn, zco, zcp, zcq, zcr, zcs, zct, zcu, zcv, zcw, zcx, zcy, zcz, zda, zdb, zdc, zdd, zde, zdf, Option.getD_some, Option.getD_none, zet, zeu, zev, zew, zex, zey, zez, zfa, Option.map_some, Option.map_none, Option.bind_some, List.map_cons, List.map_nil, List.cons_append, List.nil_append, ↓reduceIte, Nat.reduceEqDiff, Nat.reduceAdd, decide_true, decide_false, Bool.true_eq_false, Bool.false_eq_true, zdg, zdh, zdi, zdj, zdk, zdl, zdm, zdn, ia22, ld31, zdo, zdp, zdq, zdr, zds, zdt, zdu, zdv, zdw, zdx, zdy, zdz, zea, zeb, zec, fa_0, fa_1, zed, bd_0, bd_2, zee, fd_1, zef, Nat.zero_add, e2, j2, e1, e5, faT_4, ldT_4, lenTk, q1, q2]
        exact finish_i _ _ _ _ _ _ _ (by first | (simp only [zfa, ↓reduceIte, Nat.reduceEqDiff]; done) | (simp only [zfa, ↓reduceIte, Nat.reduceEqDiff]; rfl)) rfl
theorem Light_eq (R : Nat) (hR : 2000 ≤ R) (hR2 : R ≤ 9223372036854775808) (d : Nat) (t : T) (n : Int) (h0 : 0 ≤ n) (h1 : n < 1000) (hd : n + 2 ≤ (d : Int)) (hb : bigT R t) (hf : fewT R t) :
    evalFn Tryd.prog cfg0 R (d+1) 18 [.tree (encT t), .tree (.int .i64 n)] = some (.tree (.bool (decide (lgT t n ≥ 0))), [[], []]) := by
  rw [evalFn_go _ Tryd.func18 (by unfold Tryd.f18; rfl) (by unfold Tryd.f18; decide) (Nat.le_of_ble_eq_true (by unfold Tryd.f18; rfl)) (by kernel_rfl)]
  have cc := fun D st => callA_trees (cfg := cfg0) (d := D) (s := st) (f := 31) (vs := [encT t, .int .i64 n]) rfl (light_eq R hR hR2 d t n h0 h1 hd hb hf)
  simp only [encT] at cc
  simp only [zaa, zab, zac, zad, zae, zaf, zag, zah, zai, zaj, zak, zal, zam, zan, zao, zap, zaq, zar, zas, zat, zau, zav, zaw, zax, zay, zaz, zba, zbb, zbc, zbd, zbe, zbf, zbg, zbh, zbi, zbj, Nat.reduceBEq, Bool.or_self, Bool.or_false, Bool.or_true, Bool.and_true, Bool.and_false, Bool.true_and, Bool.false_and, Option.isNone_none, Option.isNone_some, Option.isSome_some, Option.isSome_none, zbk, zbl, zbm, zbn, zbo, zbp, zbq, zbr, zbs, zbt, zbu, zbv, zbw, zbx, zby, zbz, zca, zcb, zcc, zcd, zce, zcf, zcg, zch, zci, zcj, zck, zcl, zcm, zcn, zco, zcp, zcq, zcr, zcs, zct, zcu, zcv, zcw, zcx, zcy, zcz, zda, zdb, zdc, zdd, zde, zdf, Option.getD_some, Option.getD_none, zet, zeu, zev, zew, zex, zey, zez, zfa, Option.map_some, Option.map_none, Option.bind_some, List.map_cons, List.map_nil, List.cons_append, List.nil_append, ↓reduceIte, Nat.reduceEqDiff, Nat.reduceAdd, decide_true, decide_false, Bool.true_eq_false, Bool.false_eq_true, env0, List.getElem?_cons_zero, List.getElem?_cons_succ, zdg, zdh, zdi, zdj, zdk, zdl, zdm, zdn, ia22, ld31, zdo, zdp, zdq, zdr, zds, zdt, zdu, zdv, zdw, zdx, zdy, zdz, zea, zeb, zec, fa_0, fa_1, zed, bd_0, bd_2, zee, fd_1, zef, Nat.zero_add, encT, ldT_u, cc]
  exact finish_b _ _ _ _ _ _ _ (by first | (simp only [zfa, ↓reduceIte, Nat.reduceEqDiff]; done) | (simp only [zfa, ↓reduceIte, Nat.reduceEqDiff]; rfl)) rfl

/-! ### Items -/
def itT : Nat → T → List T → Option (List T)
  | 0, _, _ => none
  | r + 1, t, acc => if kindT t = 3 then some acc else if kindT t = 4 then (match kidsT t with | [h, u] => itT r u (acc ++ [h]) | _ => none) else none
theorem itT_mk (r : Nat) (k : Int) (b : Bool) (lg : Gk) (l : List Nat) (s : List UInt8) (n : Int) (kg : Gk) (ks acc : List T) : itT (r + 1) (.mk k b lg l s n kg ks) acc = if k = 3 then some acc else if k = 4 then (match ks with | [h, u] => itT r u (acc ++ [h]) | _ => none) else none := rfl
def itemsT (t : T) : Option (List T) := itT 2001 t []
def itemsV : Option (List T) → AV
  | some l => .tup [.sl (cellsK l) l.length (gr (kgOf l)), .bool true]
  | none => .tup [.sl [] 0 .nil, .bool false]
theorem finish_Kb (k : Bool) (xs : List Arg) (t t' d : Nat) (x : AV) (us : List T) (env : Env) (s : St) (b : Bool) (os : List (List AV)) (hv : env t = x) (hA : Ap s d x us) (hb : env t' = .bool b) (ho : outsA s 0 xs = some os) :
    finishP Tryd.prog k xs #[.tmp t, .tmp t'] env s = some (.tree (.tup [.sl (cellsK us) us.length (gr (kgOf us)), .bool b]), os) := by
  rw [finishP_t2]
  rcases hA with ⟨rfl, rfl⟩ | ⟨hu, tt, rfl, _⟩
  · simp [finish, hv, hb, settleL, settle, ho, kgOf, gr, cellsK]
  · simp [finish, hv, hb, settleL, settle, ho, kgOf, hu, gr]
set_option maxHeartbeats 8000000 in
theorem items_eq (R : Nat) (hR : 2010 ≤ R) (d : Nat) (t0 : T) : evalFn Tryd.prog cfg0 R (d+1) 53 [.tree (encT t0)] = some (.tree (itemsV (itemsT t0)), [[]]) := by
  rw [evalFn_go _ Tryd.func53 (by unfold Tryd.f53; rfl) (by unfold Tryd.f53; decide) (Nat.le_of_ble_eq_true (by unfold Tryd.f53; rfl)) (by kernel_rfl)]
  simp only [zaa, zab, zac, zad, zae, zaf, zag, zah, zai, zaj, zak, zal, zam, zan, zao, zap, zaq, zar, zas, zat, zau, zav, zaw, zax, zay, zaz, zba, zbb, zbc, zbd, zbe, zbf, zbg, zbh, zbi, zbj, Nat.reduceBEq, Bool.or_self, Bool.or_false, Bool.or_true, Bool.and_true, Bool.and_false, Bool.true_and, Bool.false_and, Option.isNone_none, Option.isNone_some, Option.isSome_some, Option.isSome_none, zbk, zbl, zbm, zbn, zbo, zbp, zbq, zbr, zbs, zbt, zbu, zbv, zbw, zbx, zby, zbz, zca, zcb, zcc, zcd, zce, zcf, zcg, zch, zci, zcj, zck, zcl, zcm, zcn, zco, zcp, zcq, zcr, zcs, zct, zcu, zcv, zcw, zcx, zcy, zcz, zda, zdb, zdc, zdd, zde, zdf, Option.getD_some, Option.getD_none, zet, zeu, zev, zew, zex, zey, zez, zfa, Option.map_some, Option.map_none, Option.bind_some, List.map_cons, List.map_nil, List.cons_append, List.nil_append, ↓reduceIte, Nat.reduceEqDiff, Nat.reduceAdd, decide_true, decide_false, Bool.true_eq_false, Bool.false_eq_true, env0, List.getElem?_cons_zero, List.getElem?_cons_succ, zdq, zdr, zds, zdt, zdu, zdv, zdw, zdx, zdy, zdz, zea, zeb, zec, fa_0, fa_1, zed, bd_0, bd_2, zee, fd_1, zef, Nat.zero_add, encT, den_loop]
  refine loop_ends (X := T × List T) (fun x env s => env 1 = .ptr 1 1 0 ∧ s 1 = ⟨1, .buf (cellsT x.1)⟩ ∧ Ap s 29 (env 4) x.2 ∧ x.2.length ≤ 2001 ∧ itT (2001 - x.2.length) x.1 x.2 = itemsT t0) (fun x => 2001 - x.2.length) (fun _ => (.tree (itemsV (itemsT t0)), [[]])) ?_ R (t0, []) _ _ (by simp only [List.length_nil]; omega) ⟨(by first | (simp only [zfa, ↓reduceIte, Nat.reduceEqDiff]; done) | (simp only [zfa, ↓reduceIte, Nat.reduceEqDiff]; rfl)), (by first | (simp only [zfa, ↓reduceIte, Nat.reduceEqDiff]; done) | (simp only [zfa, ↓reduceIte, Nat.reduceEqDiff]; rfl)), .inl ⟨rfl, (by first | (simp only [zfa, ↓reduceIte, Nat.reduceEqDiff]; done) | (simp only [zfa, ↓reduceIte, Nat.reduceEqDiff]; rfl))⟩, by simp, rfl⟩
  rintro rd ⟨t, acc⟩ hrd ih env st ⟨e1, j1, ap, hl, hit⟩
  simp only at j1 ap hl hit hrd
  rw [← hit]
  generalize h4 : env 4 = x4 at ap
  have la : ∀ st, lenA Tryd.prog 22 st x4 = some (.int .i64 (acc.length : Int)) := fun st => by
    rcases ap with ⟨rfl, rfl⟩ | ⟨_, tt, rfl, _⟩
    · exact lenTk st [] 0 .nil
    · exact lenTk st _ _ _
  by_cases q1 : (acc.length : Int) ≤ 2000
  rotate_left
  · have h0 : 2001 - acc.length = 0 := by omega
    rw [h0, itT]
    simp only [zaa, zab, zac, zad, zae, zaf, zag, zah, zai, zaj, zak, zal, zam, zan, zao, zap, zaq, zar, zas, zat, zau, zav, zaw, zax, zay, zaz, zba, zbb, zbc, zbd, zbe, zbf, zbg, zbh, zbi, zbj, Nat.reduceBEq, Bool.or_self, Bool.or_false, Bool.or_true, Bool.and_true, Bool.and_false, Bool.true_and, Bool.false_and, Option.isNone_none, Option.isNone_some, Option.isSome_some, Option.isSome_none, zbk, zbl, zbm, zbn, zbo, zbp, zbq, zbr, zbs, zbt, zbu, zbv, zbw, zbx, zby, zbz, zca, zcb, zcc, zcd, zce, zcf, zcg, zch, zci, zcj, zck, zcl, zcm, zcn, zco, zcp, zcq, zcr, zcs, zct, zcu, zcv, zcw, zcx, zcy, zcz, zda, zdb, zdc, zdd, zde, zdf, Option.getD_some, Option.getD_none, zet, zeu, zev, zew, zex, zey, zez, zfa, Option.map_some, Option.map_none, Option.bind_some, List.map_cons, List.map_nil, List.cons_append, List.nil_append, ↓reduceIte, Nat.reduceEqDiff, Nat.reduceAdd, decide_true, decide_false, Bool.true_eq_false, Bool.false_eq_true, zdg, zdh, zdi, zdj, zdk, zdl, zdm, zdn, ia22, ld31, zdo, zdp, zdq, zdr, zds, zdt, zdu, zdv, zdw, zdx, zdy, zdz, zea, zeb, zec, fa_0, fa_1, zed, bd_0, bd_2, zee, fd_1, zef, Nat.zero_add, e1, h4, la, q1]
    exact finish_Kb _ _ _ _ 29 _ [] _ _ _ _ (by first | (simp only [zfa, ↓reduceIte, Nat.reduceEqDiff]; done) | (simp only [zfa, ↓reduceIte, Nat.reduceEqDiff]; rfl)) (.inl ⟨rfl, rfl⟩) (by first | (simp only [zfa, ↓reduceIte, Nat.reduceEqDiff]; done) | (simp only [zfa, ↓reduceIte, Nat.reduceEqDiff]; rfl)) rfl
  obtain ⟨r, hr⟩ : ∃ r, 2001 - acc.length = r + 1 := ⟨2000 - acc.length, by omega⟩
  rw [hr] at hit ⊢
  obtain ⟨k, b, lg, l, s, m, kg, ks⟩ := t
  simp only [cellsT] at j1
  rw [itT_mk] at hit ⊢
  by_cases k3 : k = 3
  · rw [if_pos k3]
    have q3 : (k == 3) = true := by rw [k3]; rfl
    simp only [zaa, zab, zac, zad, zae, zaf, zag, zah, zai, zaj, zak, zal, zam, zan, zao, zap, zaq, zar, zas, zat, zau, zav, zaw, zax, zay, zaz, zba, zbb, zbc, zbd, zbe, zbf, zbg, zbh, zbi, zbj, Nat.reduceBEq, Bool.or_self, Bool.or_false, Bool.or_true, Bool.and_true, Bool.and_false, Bool.true_and, Bool.false_and, Option.isNone_none, Option.isNone_some, Option.isSome_some, Option.isSome_none, zbk, zbl, zbm, zbn, zbo, zbp, zbq, zbr, zbs, zbt, zbu, zbv, zbw, zbx, zby, zbz, zca, zcb, zcc, zcd, zce, zcf, zcg, zch, zci, zcj, zck, zcl, zcm, zcn, zco, zcp, zcq, zcr, zcs, zct, zcu, zcv, zcw, zcx, zcy, zcz, zda, zdb, zdc, zdd, zde, zdf, Option.getD_some, Option.getD_none, zet, zeu, zev, zew, zex, zey, zez, zfa, Option.map_some, Option.map_none, Option.bind_some, List.map_cons, List.map_nil, List.cons_append, List.nil_append, ↓reduceIte, Nat.reduceEqDiff, Nat.reduceAdd, decide_true, decide_false, Bool.true_eq_false, Bool.false_eq_true, zdg, zdh, zdi, zdj, zdk, zdl, zdm, zdn, ia22, ld31, zdo, zdp, zdq, zdr, zds, zdt, zdu, zdv, zdw, zdx, zdy, zdz, zea, zeb, zec, fa_0, fa_1, zed, bd_0, bd_2, zee, fd_1, zef, Nat.zero_add, e1, j1, h4, la, q1, faT_0, ldT_0, i_eqlV, q3]
    exact finish_Kb _ _ _ _ 29 x4 acc _ _ _ _ (by first | (simp only [zfa, ↓reduceIte, Nat.reduceEqDiff]; done) | (simp only [zfa, ↓reduceIte, Nat.reduceEqDiff]; rfl)) ap (by first | (simp only [zfa, ↓reduceIte, Nat.reduceEqDiff]; done) | (simp only [zfa, ↓reduceIte, Nat.reduceEqDiff]; rfl)) rfl
  have q3 : (k == 3) = false := beq_eq_false_iff_ne.mpr k3
  rw [if_neg k3] at hit ⊢
  by_cases k4 : k = 4
  rotate_left
  · rw [if_neg k4]
    have q4 : (k != 4) = true := bne_iff_ne.mpr k4
    simp only [zaa, zab, zac, zad, zae, zaf, zag, zah, zai, zaj, zak, zal, zam, zan, zao, zap, zaq, zar, zas, zat, zau, zav, zaw, zax, zay, zaz, zba, zbb, zbc, zbd, zbe, zbf, zbg, zbh, zbi, zbj, Nat.reduceBEq, Bool.or_self, Bool.or_false, Bool.or_true, Bool.and_true, Bool.and_false, Bool.true_and, Bool.false_and, Option.isNone_none, Option.isNone_some, Option.isSome_some, Option.isSome_none, zbk, zbl, zbm, zbn, zbo, zbp, zbq, zbr, zbs, zbt, zbu, zbv, zbw, zbx, zby, zbz, zca, zcb, zcc, zcd, zce, zcf, zcg, zch, zci, zcj, zck, zcl, zcm, zcn, zco, zcp, zcq, zcr, zcs, zct, zcu, zcv, zcw, zcx, zcy, zcz, zda, zdb, zdc, zdd, zde, zdf, Option.getD_some, Option.getD_none, zet, zeu, zev, zew, zex, zey, zez, zfa, Option.map_some, Option.map_none, Option.bind_some, List.map_cons, List.map_nil, List.cons_append, List.nil_append, ↓reduceIte, Nat.reduceEqDiff, Nat.reduceAdd, decide_true, decide_false, Bool.true_eq_false, Bool.false_eq_true, zdg, zdh, zdi, zdj, zdk, zdl, zdm, zdn, ia22, ld31, zdo, zdp, zdq, zdr, zds, zdt, zdu, zdv, zdw, zdx, zdy, zdz, zea, zeb, zec, fa_0, fa_1, zed, bd_0, bd_2, zee, fd_1, zef, Nat.zero_add, e1, j1, h4, la, q1, faT_0, ldT_0, i_eqlV, i_neqV, q3, q4]
    exact finish_Kb _ _ _ _ 29 _ [] _ _ _ _ (by first | (simp only [zfa, ↓reduceIte, Nat.reduceEqDiff]; done) | (simp only [zfa, ↓reduceIte, Nat.reduceEqDiff]; rfl)) (.inl ⟨rfl, rfl⟩) (by first | (simp only [zfa, ↓reduceIte, Nat.reduceEqDiff]; done) | (simp only [zfa, ↓reduceIte, Nat.reduceEqDiff]; rfl)) rfl
  have q4 : (k != 4) = false := by rw [k4]; rfl
  rw [if_pos k4] at hit ⊢
  by_cases k2 : ks.length = 2
  rotate_left
  · have hn : (match ks with | [h, u] => itT r u (acc ++ [h]) | _ => none) = none := by
      match ks, k2 with
      | [], _ => rfl
      | [_], _ => rfl
      | [_, _], h => exact absurd rfl h
      | _ :: _ :: _ :: _, _ => rfl
    rw [hn]
    have q5 : ((ks.length : Int) != 2) = true := bne_iff_ne.mpr (by omega)
    simp only [zaa, zab, zac, zad, zae, zaf, zag, zah, zai, zaj, zak, zal, zam, zan, zao, zap, zaq, zar, zas, zat, zau, zav, zaw, zax, zay, zaz, zba, zbb, zbc, zbd, zbe, zbf, zbg, zbh, zbi, zbj, Nat.reduceBEq, Bool.or_self, Bool.or_false, Bool.or_true, Bool.and_true, Bool.and_false, Bool.true_and, Bool.false_and, Option.isNone_none, Option.isNone_some, Option.isSome_some, Option.isSome_none, zbk, zbl, zbm, zbn, zbo, zbp, zbq, zbr, zbs, zbt, zbu, zbv, zbw, zbx, zby, zbz, zca, zcb, zcc, zcd, zce, zcf, zcg, zch, zci, zcj, zck, zcl, zcm, zcn, zco, zcp, zcq, zcr, zcs, zct, zcu, zcv, zcw, zcx, zcy, zcz, zda, zdb, zdc, zdd, zde, zdf, Option.getD_some, Option.getD_none, zet, zeu, zev, zew, zex, zey, zez, zfa, Option.map_some, Option.map_none, Option.bind_some, List.map_cons, List.map_nil, List.cons_append, List.nil_append, ↓reduceIte, Nat.reduceEqDiff, Nat.reduceAdd, decide_true, decide_false, Bool.true_eq_false, Bool.false_eq_true, zdg, zdh, zdi, zdj, zdk, zdl, zdm, zdn, ia22, ld31, zdo, zdp, zdq, zdr, zds, zdt, zdu, zdv, zdw, zdx, zdy, zdz, zea, zeb, zec, fa_0, fa_1, zed, bd_0, bd_2, zee, fd_1, zef, Nat.zero_add, e1, j1, h4, la, q1, faT_0, ldT_0, faT_4, ldT_4, lenTk, i_eqlV, i_neqV, q3, q4, q5]
    exact finish_Kb _ _ _ _ 29 _ [] _ _ _ _ (by first | (simp only [zfa, ↓reduceIte, Nat.reduceEqDiff]; done) | (simp only [zfa, ↓reduceIte, Nat.reduceEqDiff]; rfl)) (.inl ⟨rfl, rfl⟩) (by first | (simp only [zfa, ↓reduceIte, Nat.reduceEqDiff]; done) | (simp only [zfa, ↓reduceIte, Nat.reduceEqDiff]; rfl)) rfl
  obtain ⟨h, u, rfl⟩ : ∃ h u, ks = [h, u] := by
    match ks, k2 with
    | [h, u], _ => exact ⟨h, u, rfl⟩
  simp only at hit ⊢
  have q5 : (((2 : Nat) : Int) != 2) = false := rfl
  obtain ⟨x', s', a1, a2, a3⟩ := ap.push (by omega) h
  have i0 : ∀ st, indexAddrA Tryd.prog 22 st (.sl (cellsK [h, u]) 2 (gr kg)) (.int .i64 0) = some (.rptr (cellsK [h, u])) := fun st => ia_K st [h, u] (gr kg) 0 (by simp)
  have i1 : ∀ st, indexAddrA Tryd.prog 22 st (.sl (cellsK [h, u]) 2 (gr kg)) (.int .i64 1) = some (.rptr (cellsK [u])) := fun st => ia_K st [h, u] (gr kg) 1 (by simp)
  have l0 := fun st => ld_K st h [u]
  have l1 := fun st => ld_K st u []
  simp only [encT] at l0 l1
  have bs := fun (q : Bool) (d' : Option Tmp) (ty : TypeId) (pos : String) (af : Array Edge) (g : Option (Nat × Bool)) (t : Nat) (env : Env) (s : St) (x : Operand) (hx : ev env x = .agg (cellsT h)) => opA_bs1 (evalFn Tryd.prog cfg0 R d) q d' ty pos af g t env s x _ hx
  have j1' : s' 1 = ⟨1, .buf [.int .i64 k, .bool b, encL lg l, .str s, .int .i64 m, .sl (cellsK [h, u]) 2 (gr kg)]⟩ := by rw [a3 1 (by decide)]; exact j1
  simp only [List.length_cons, List.length_nil, Nat.zero_add, Nat.reduceAdd] at j1
  simp only [zaa, zab, zac, zad, zae, zaf, zag, zah, zai, zaj, zak, zal, zam, zan, zao, zap, zaq, zar, zas, zat, zau, zav, zaw, zax, zay, zaz, zba, zbb, zbc, zbd, zbe, zbf, zbg, zbh, zbi, zbj, Nat.reduceBEq, Bool.or_self, Bool.or_false, Bool.or_true, Bool.and_true, Bool.and_false, Bool.true_and, Bool.false_and, Option.isNone_none, Option.isNone_some, Option.isSome_some, Option.isSome_none, zbk, zbl, zbm, zbn, zbo, zbp, zbq, zbr, zbs, zbt, zbu, zbv, zbw, zbx, zby, zbz, zca, zcb, zcc, zcd, zce, zcf, zcg, zch, zci, zcj, zck, zcl, zcm, zcn, zco, zcp, zcq, zcr, zcs, zct, zcu, zcv, zcw, zcx, zcy, zcz, zda, zdb, zdc, zdd, zde, zdf, Option.getD_some, Option.getD_none, zet, zeu, zev, zew, zex, zey, zez, zfa, Option.map_some, Option.map_none, Option.bind_some, List.map_cons, List.map_nil, List.cons_append, List.nil_append, ↓reduceIte, Nat.reduceEqDiff, Nat.reduceAdd, decide_true, decide_false, Bool.true_eq_false, Bool.false_eq_true, zdg, zdh, zdi, zdj, zdk, zdl, zdm, zdn, ia22, ld31, zdo, zdp, zdq, zdr, zds, zdt, zdu, zdv, zdw, zdx, zdy, zdz, zea, zeb, zec, fa_0, fa_1, zed, bd_0, bd_2, zee, fd_1, zef, Nat.zero_add, e1, j1, h4, la, q1, faT_0, ldT_0, faT_4, ldT_4, lenTk, i_eqlV, i_neqV, q3, q4, q5, i0, l0]
  rw [bs _ _ _ _ _ _ _ _ _ _ (by first | (simp only [zfa, ↓reduceIte, Nat.reduceEqDiff, zev]; done) | (simp only [zfa, ↓reduceIte, Nat.reduceEqDiff, zev]; rfl))]
  simp only [zaa, zab, zac, zad, zae, zaf, zag, zah, zai, zaj, zak, zal, zam, zan, zao, zap, zaq, zar, zas, zat, zau, zav, zaw, zax, zay, zaz, zba, zbb, zbc, zbd, zbe, zbf, zbg, zbh, zbi, zbj, Nat.reduceBEq, Bool.or_self, Bool.or_false, Bool.or_true, Bool.and_true, Bool.and_false, Bool.true_and, Bool.false_and, Option.isNone_none, Option.isNone_some, Option.isSome_some, Option.isSome_none, zbk, zbl, zbm, zbn, zbo, zbp, zbq, zbr, zbs, zbt, zbu, zbv, zbw, zbx, zby, zbz, zca, zcb, zcc, zcd, zce, zcf, zcg, zch, zci, zcj, zck, zcl, zcm, zcn, zco, zcp, zcq, zcr, zcs, zct, zcu, zcv, zcw, zcx, zcy, zcz, zda, zdb, zdc, zdd, zde, zdf, Option.getD_some, Option.getD_none, zet, zeu, zev, zew, zex, zey, zez, zfa, Option.map_some, Option.map_none, Option.bind_some, List.map_cons, List.map_nil, List.cons_append, List.nil_append, ↓reduceIte, Nat.reduceEqDiff, Nat.reduceAdd, decide_true, decide_false, Bool.true_eq_false, Bool.false_eq_true, zdg, zdh, zdi, zdj, zdk, zdl, zdm, zdn, ia22, ld31, zdo, zdp, zdq, zdr, zds, zdt, zdu, zdv, zdw, zdx, zdy, zdz, zea, zeb, zec, fa_0, fa_1, zed, bd_0, bd_2, zee, fd_1, zef, Nat.zero_add, a1, e1, j1', h4, faT_4, ldT_4, i1, l1, st_Tt, stT_6]
  have ha := a2
  rw [hit]
  refine ih (u, acc ++ [h]) _ _ (by simp; omega) rfl ?_
  refine ⟨(by first | (simp only [zfa, ↓reduceIte, Nat.reduceEqDiff, e1]; done) | (simp only [zfa, ↓reduceIte, Nat.reduceEqDiff, e1]; rfl)), (by first | (simp only [zfa, ↓reduceIte, Nat.reduceEqDiff]; done) | (simp only [zfa, ↓reduceIte, Nat.reduceEqDiff]; rfl)), ?_, by simp; omega, ?_⟩
  · rcases ha with ⟨g1, _⟩ | ⟨g1, tt, g2, g3⟩
    · exact absurd g1 (by simp)
    · exact .inr ⟨g1, tt, g2, by rw [upd_ne _ _ (by decide)]; exact g3⟩
  · simp only [List.length_append, List.length_cons, List.length_nil]
    rw [show 2001 - (acc.length + (0 + 1)) = r by omega]
    exact hit
end Go.Ab

/- How many words a term takes. Conditions: terms that are lean. -/
namespace Go.Ab
open Go.Proofs
set_option maxRecDepth 100000
set_option linter.unusedSimpArgs false

def smallB (z : Int) : Bool := decide (z ≥ -576460752303423488) && decide (z < 576460752303423488)
def byW (s : List UInt8) : Int := 2 + (((s.length + 7) / 8 : Nat) : Int)
theorem quo8 (k : Nat) (h : k ≤ 1000000) : binA Tryd.prog .quo 3 (.int .i64 ((k : Int) + 8 - 1)) (.int .i64 8) = some (.int .i64 (((k + 7) / 8 : Nat) : Int)) := by
  simp only [binA, intA]
  rw [if_pos trivial, if_neg (by decide), i64_wrap _ (by rw [Int.tdiv_eq_ediv_of_nonneg (by omega)]; omega) (by rw [Int.tdiv_eq_ediv_of_nonneg (by omega)]; omega), Int.tdiv_eq_ediv_of_nonneg (by omega)]
  congr 2
  omega
def wT : T → Int
  | .mk k b _ l s _ _ ks => if k = 1 then (if smallB (numZ b l) = true then 0 else 1 + (l.length : Int)) else if k = 4 then 2 else if k = 5 then 1 + (ks.length : Int) else if k = 6 then byW s else if k = 7 then 2 + (ks.length : Int) else if k = 8 then 3 + byW s else 0
mutual
def wsT : T → Int
  | .mk k b lg l s n kg ks => wT (.mk k b lg l s n kg ks) + wsK ks
def wsK : List T → Int
  | [] => 0
  | t :: r => wsT t + wsK r
end
theorem wT_rng (t : T) (hb : leanT t) : 0 ≤ wT t ∧ wT t ≤ 600 + (kidsT t).length := by
  obtain ⟨k, b, lg, l, s, m, kg, ks⟩ := t
  simp only [leanT] at hb
  simp only [wT, kidsT, byW]
  split
  · split <;> omega
  split
  · omega
  split
  · omega
  split
  · omega
  split
  · omega
  split
  · omega
  · omega
mutual
theorem wsT_rng : ∀ t : T, leanT t → 0 ≤ wsT t ∧ wsT t + 1 ≤ 602 * (nodT t : Int)
  | .mk k b lg l s m kg ks, h => by
    have h1 := wT_rng (.mk k b lg l s m kg ks) h
    simp only [leanT] at h
    have h2 := wsK_rng ks h.2.2
    simp only [wsT, nodT]
    simp only [kidsT] at h1
    omega
theorem wsK_rng : ∀ ks : List T, leanK ks → 0 ≤ wsK ks ∧ wsK ks + ks.length ≤ 602 * (nodK ks : Int)
  | [], _ => by simp only [wsK, nodK, List.length_nil]; omega
  | t :: r, h => by
    simp only [leanK] at h
    have h1 := wsT_rng t h.1
    have h2 := wsK_rng r h.2
    simp only [wsK, nodK, List.length_cons]
    omega
end
theorem wsK_app : ∀ a b : List T, wsK (a ++ b) = wsK a + wsK b
  | [], b => by simp [wsK]
  | t :: r, b => by simp only [List.cons_append, wsK, wsK_app r b]; omega
theorem leanK_app : ∀ {a b : List T}, leanK (a ++ b) → leanK a ∧ leanK b
  | [], _, h => ⟨by simp only [leanK], h⟩
  | t :: r, b, h => by
    simp only [List.cons_append, leanK] at h ⊢
    exact ⟨⟨h.1, (leanK_app h.2).1⟩, (leanK_app h.2).2⟩
theorem leanK_at : ∀ (ks : List T) (i : Nat) (t : T) (r : List T), ks.drop i = t :: r → leanK ks → leanT t
  | [], i, t, r, h, _ => by simp at h
  | a :: q, 0, t, r, h, hw => by simp only [List.drop_zero, List.cons.injEq] at h; obtain ⟨rfl, rfl⟩ := h; simp only [leanK] at hw; exact hw.1
  | a :: q, i + 1, t, r, h, hw => by simp only [leanK] at hw; exact leanK_at q i t r (by simpa using h) hw.2
end Go.Ab

/- relictref03.Same, walked. Conditions: so many limbs, nodes at most. -/
namespace Go.Ab
open Go.Proofs
set_option maxRecDepth 100000
set_option linter.unusedSimpArgs false

theorem b_neqV (a b : Bool) : binA Tryd.prog .neq 4 (.bool a) (.bool b) = some (.bool (!(a == b))) := bool_neq 4 tk4 a b
theorem rsameNum_eq (n d : Nat) (b1 b2 : Bool) (b b' : Gk) (l m : List Nat) (hn : l.length < n) (hk : l.length ≤ 1000000) : evalFn Tryd.prog cfg0 n (d+1) 24 [.tree (encA b1 b l), .tree (encA b2 b' m)] = some (.tree (.bool (decide (b1 = b2) && decide (l = m))), [[], []]) := by
  rw [evalFn_go _ Tryd.func24 (by unfold Tryd.f24; rfl) (by unfold Tryd.f24; decide) (Nat.le_of_ble_eq_true (by unfold Tryd.f24; rfl)) (by kernel_rfl)]
  by_cases hb : b1 = b2
  rotate_left
  · have p0 : (b1 == b2) = false := beq_eq_false_iff_ne.mpr hb
    rw [decide_eq_false hb, Bool.false_and]
    simp only [zaa, zab, zac, zad, zae, zaf, zag, zah, zai, zaj, zak, zal, zam, zan, zao, zap, zaq, zar, zas, zat, zau, zav, zaw, zax, zay, zaz, zba, zbb, zbc, zbd, zbe, zbf, zbg, zbh, zbi, zbj, Nat.reduceBEq, Bool.or_self, Bool.or_false, Bool.or_true, Bool.and_true, Bool.and_false, Bool.true_and, Bool.false_and, Option.isNone_none, Option.isNone_some, Option.isSome_some, Option.isSome_none, zbk, zbl, zbm, zbn, zbo, zbp, zbq, zbr, zbs, zbt, zbu, zbv, zbw, zbx, zby, zbz, zca, zcb, zcc, zcd, zce, zcf, zcg, zch, zci, zcj, zck, zcl, zcm, zcn, zco, zcp, zcq, zcr, zcs, zct, zcu, zcv, zcw, zcx, zcy, zcz, zda, zdb, zdc, zdd, zde, zdf, Option.getD_some, Option.getD_none, zet, zeu, zev, zew, zex, zey, zez, zfa, Option.map_some, Option.map_none, Option.bind_some, List.map_cons, List.map_nil, List.cons_append, List.nil_append, ↓reduceIte, Nat.reduceEqDiff, Nat.reduceAdd, decide_true, decide_false, Bool.true_eq_false, Bool.false_eq_true, env0, List.getElem?_cons_zero, List.getElem?_cons_succ, zdg, zdh, zdi, zdj, zdk, zdl, zdm, zdn, ia22, ld31, zdo, zdp, zdq, zdr, zds, zdt, zdu, zdv, zdw, zdx, zdy, zdz, zea, zeb, zec, fa_0, fa_1, zed, bd_0, bd_2, zee, fd_1, zef, Nat.zero_add, encA, b_neqV, p0, Bool.not_false]
    exact finish_b _ _ _ _ _ _ _ (by first | (simp only [zfa, ↓reduceIte, Nat.reduceEqDiff]; done) | (simp only [zfa, ↓reduceIte, Nat.reduceEqDiff]; rfl)) rfl
  have p0 : (b1 == b2) = true := beq_iff_eq.mpr hb
  rw [decide_eq_true hb, Bool.true_and]
  by_cases hlm : l.length = m.length
  · have p1 : ((l.length : Int) != (m.length : Int)) = false := by rw [hlm]; exact bne_self_eq_false _
    simp only [zaa, zab, zac, zad, zae, zaf, zag, zah, zai, zaj, zak, zal, zam, zan, zao, zap, zaq, zar, zas, zat, zau, zav, zaw, zax, zay, zaz, zba, zbb, zbc, zbd, zbe, zbf, zbg, zbh, zbi, zbj, Nat.reduceBEq, Bool.or_self, Bool.or_false, Bool.or_true, Bool.and_true, Bool.and_false, Bool.true_and, Bool.false_and, Option.isNone_none, Option.isNone_some, Option.isSome_some, Option.isSome_none, zbk, zbl, zbm, zbn, zbo, zbp, zbq, zbr, zbs, zbt, zbu, zbv, zbw, zbx, zby, zbz, zca, zcb, zcc, zcd, zce, zcf, zcg, zch, zci, zcj, zck, zcl, zcm, zcn, zco, zcp, zcq, zcr, zcs, zct, zcu, zcv, zcw, zcx, zcy, zcz, zda, zdb, zdc, zdd, zde, zdf, Option.getD_some, Option.getD_none, zet, zeu, zev, zew, zex, zey, zez, zfa, Option.map_some, Option.map_none, Option.bind_some, List.map_cons, List.map_nil, List.cons_append, List.nil_append, ↓reduceIte, Nat.reduceEqDiff, Nat.reduceAdd, decide_true, decide_false, Bool.true_eq_false, Bool.false_eq_true, env0, List.getElem?_cons_zero, List.getElem?_cons_succ, zdg, zdh, zdi, zdj, zdk, zdl, zdm, zdn, ia22, ld31, zdo, zdp, zdq, zdr, zds, zdt, zdu, zdv, zdw, zdx, zdy, zdz, zea, zeb, zec, fa_0, fa_1, zed, bd_0, bd_2, zee, fd_1, zef, Nat.zero_add, encA, b_neqV, p0, Bool.not_true, p1, den_loop]
    refine loop_ends (X := Nat) (fun i env s => env 2 = .ptr 2 1 0 ∧ env 3 = .ptr 3 1 0 ∧ s 2 = ⟨1, .buf [.bool b1, encL b l]⟩ ∧ s 3 = ⟨1, .buf [.bool b2, encL b' m]⟩ ∧ env 5 = .int .i64 (i : Int) ∧ i ≤ l.length ∧ (l.drop i = m.drop i ↔ l = m)) (fun i => l.length - i) (fun _ => (.tree (.bool (decide (l = m))), [[], []])) ?_ n 0 _ _ (by omega) ⟨(by first | (simp only [zfa, ↓reduceIte, Nat.reduceEqDiff]; done) | (simp only [zfa, ↓reduceIte, Nat.reduceEqDiff]; rfl)), (by first | (simp only [zfa, ↓reduceIte, Nat.reduceEqDiff]; done) | (simp only [zfa, ↓reduceIte, Nat.reduceEqDiff]; rfl)), (by first | (simp only [zfa, ↓reduceIte, Nat.reduceEqDiff]; done) | (simp only [zfa, ↓reduceIte, Nat.reduceEqDiff]; rfl)), (by first | (simp only [zfa, ↓reduceIte, Nat.reduceEqDiff]; done) | (simp only [zfa, ↓reduceIte, Nat.reduceEqDiff]; rfl)), (by first | (simp only [zfa, ↓reduceIte, Nat.reduceEqDiff]; done) | (simp only [zfa, ↓reduceIte, Nat.reduceEqDiff]; rfl)), Nat.zero_le _, Iff.rfl⟩
    intro k i hx ih env s ⟨h0, h1, j0, j1, h5, hi, hd⟩
    by_cases hp : i = l.length
    · have e : l = m := by
        rw [← hd, hp, List.drop_length, hlm, List.drop_length]
      rw [decide_eq_true e]
      have q1 : ¬ ((i : Int) < (l.length : Int)) := by omega
      simp only [zaa, zab, zac, zad, zae, zaf, zag, zah, zai, zaj, zak, zal, zam, zan, zao, zap, zaq, zar, zas, zat, zau, zav, zaw, zax, zay, zaz, zba, zbb, zbc, zbd, zbe, zbf, zbg, zbh, zbi, zbj, Nat.reduceBEq, Bool.or_self, Bool.or_false, Bool.or_true, Bool.and_true, Bool.and_false, Bool.true_and, Bool.false_and, Option.isNone_none, Option.isNone_some, Option.isSome_some, Option.isSome_none, zbk, zbl, zbm, zbn, zbo, zbp, zbq, zbr, zbs, zbt, zbu, zbv, zbw, zbx, zby, zbz, zca, zcb, zcc, zcd, zce, zcf, zcg, zch, zci, zcj, zck, zcl, zcm, zcn, zco, zcp, zcq, zcr, zcs, zct, zcu, zcv, zcw, zcx, zcy, zcz, zda, zdb, zdc, zdd, zde, zdf, Option.getD_some, Option.getD_none, zet, zeu, zev, zew, zex, zey, zez, zfa, Option.map_some, Option.map_none, Option.bind_some, List.map_cons, List.map_nil, List.cons_append, List.nil_append, ↓reduceIte, Nat.reduceEqDiff, Nat.reduceAdd, decide_true, decide_false, Bool.true_eq_false, Bool.false_eq_true, zdg, zdh, zdi, zdj, zdk, zdl, zdm, zdn, ia22, ld31, zdo, zdp, zdq, zdr, zds, zdt, zdu, zdv, zdw, zdx, zdy, zdz, zea, zeb, zec, fa_0, fa_1, zed, bd_0, bd_2, zee, fd_1, zef, Nat.zero_add, h0, h1, j0, j1, h5, q1]
      exact finish_b _ _ _ _ _ _ _ (by first | (simp only [zfa, ↓reduceIte, Nat.reduceEqDiff]; done) | (simp only [zfa, ↓reduceIte, Nat.reduceEqDiff]; rfl)) rfl
    · have q1 : (i : Int) < (l.length : Int) := by omega
      have q2 : (0 : Int) ≤ (i : Int) := by omega
      have q3 : i < l.length := by omega
      have q4 : i < m.length := by omega
      have q5 : (i : Int) < (m.length : Int) := by omega
      have f4 := i_add Tryd.prog 3 (i : Int) 1 (by omega) (by omega)
      have dl : l.drop i = l.getD i 0 :: l.drop (i + 1) := by rw [List.getD_eq_getElem?_getD, List.getElem?_eq_getElem q3]; exact List.drop_eq_getElem_cons q3
      have dm : m.drop i = m.getD i 0 :: m.drop (i + 1) := by rw [List.getD_eq_getElem?_getD, List.getElem?_eq_getElem q4]; exact List.drop_eq_getElem_cons q4
      rw [dl, dm, List.cons.injEq] at hd
      by_cases g : l.getD i 0 = m.getD i 0
      · have p2 : ((l.getD i 0 : Int) != (m.getD i 0 : Int)) = false := by rw [g]; exact bne_self_eq_false _
        simp only [zaa, zab, zac, zad, zae, zaf, zag, zah, zai, zaj, zak, zal, zam, zan, zao, zap, zaq, zar, zas, zat, zau, zav, zaw, zax, zay, zaz, zba, zbb, zbc, zbd, zbe, zbf, zbg, zbh, zbi, zbj, Nat.reduceBEq, Bool.or_self, Bool.or_false, Bool.or_true, Bool.and_true, Bool.and_false, Bool.true_and, Bool.false_and, Option.isNone_none, Option.isNone_some, Option.isSome_some, Option.isSome_none, zbk, zbl, zbm, zbn, zbo, zbp, zbq, zbr, zbs, zbt, zbu, zbv, zbw, zbx, zby, zbz, zca, zcb, zcc, zcd, zce, zcf, zcg, zch, zci, zcj, zck, zcl, zcm, zcn, zco, zcp, zcq, zcr, zcs, zct, zcu, zcv, zcw, zcx, zcy, zcz, zda, zdb, zdc, zdd, zde, zdf, Option.getD_some, Option.getD_none, zet, zeu, zev, zew, zex, zey, zez, zfa, Option.map_some, Option.map_none, Option.bind_some, List.map_cons, List.map_nil, List.cons_append, List.nil_append, ↓reduceIte, Nat.reduceEqDiff, Nat.reduceAdd, decide_true, decide_false, Bool.true_eq_false, Bool.false_eq_true, zdg, zdh, zdi, zdj, zdk, zdl, zdm, zdn, ia22, ld31, zdo, zdp, zdq, zdr, zds, zdt, zdu, zdv, zdw, zdx, zdy, zdz, zea, zeb, zec, fa_0, fa_1, zed, bd_0, bd_2, zee, fd_1, zef, Nat.zero_add, h0, h1, j0, j1, h5, q1, q2, q3, q4, q5, Int.toNat_natCast, p2, f4]
        exact ih (i + 1) _ _ (by omega) rfl ⟨(by first | (simp only [zfa, ↓reduceIte, Nat.reduceEqDiff, h0]; done) | (simp only [zfa, ↓reduceIte, Nat.reduceEqDiff, h0]; rfl)), (by first | (simp only [zfa, ↓reduceIte, Nat.reduceEqDiff, h1]; done) | (simp only [zfa, ↓reduceIte, Nat.reduceEqDiff, h1]; rfl)), (by first | (simp only [zfa, ↓reduceIte, Nat.reduceEqDiff, j0]; done) | (simp only [zfa, ↓reduceIte, Nat.reduceEqDiff, j0]; rfl)), (by first | (simp only [zfa, ↓reduceIte, Nat.reduceEqDiff, j1]; done) | (simp only [zfa, ↓reduceIte, Nat.reduceEqDiff, j1]; rfl)), (by first | (simp only [zfa, ↓reduceIte, Nat.reduceEqDiff]; done) | (simp only [zfa, ↓reduceIte, Nat.reduceEqDiff]; rfl)), by omega, by rw [← hd]; simp only [g, true_and]⟩
      · have p2 : ((l.getD i 0 : Int) != (m.getD i 0 : Int)) = true := by rw [bne_iff_ne]; omega
        have hne : ¬ l = m := fun e => g (hd.mpr e).1
        rw [decide_eq_false hne]
        simp only [zaa, zab, zac, zad, zae, zaf, zag, zah, zai, zaj, zak, zal, zam, zan, zao, zap, zaq, zar, zas, zat, zau, zav, zaw, zax, zay, zaz, zba, zbb, zbc, zbd, zbe, zbf, zbg, zbh, zbi, zbj, Nat.reduceBEq, Bool.or_self, Bool.or_false, Bool.or_true, Bool.and_true, Bool.and_false, Bool.true_and, Bool.false_and, Option.isNone_none, Option.isNone_some, Option.isSome_some, Option.isSome_none, zbk, zbl, zbm, zbn, zbo, zbp, zbq, zbr, zbs, zbt, zbu, zbv, zbw, zbx, zby, zbz, zca, zcb, zcc, zcd, zce, zcf, zcg, zch, zci, zcj, zck, zcl, zcm, zcn, zco, zcp, zcq, zcr, zcs, zct, zcu, zcv, zcw, zcx, zcy, zcz, zda, zdb, zdc, zdd, zde, zdf, Option.getD_some, Option.getD_none, zet, zeu, zev, zew, zex, zey, zez, zfa, Option.map_some, Option.map_none, Option.bind_some, List.map_cons, List.map_nil, List.cons_append, List.nil_append, ↓reduceIte, Nat.reduceEqDiff, Nat.reduceAdd, decide_true, decide_false, Bool.true_eq_false, Bool.false_eq_true, zdg, zdh, zdi, zdj, zdk, zdl, zdm, zdn, ia22, ld31, zdo, zdp, zdq, zdr, zds, zdt, zdu, zdv, zdw, zdx, zdy, zdz, zea, zeb, zec, fa_0, fa_1, zed, bd_0, bd_2, zee, fd_1, zef, Nat.zero_add, h0, h1, j0, j1, h5, q1, q2, q3, q4, q5, Int.toNat_natCast, p2, f4]
        exact finish_b _ _ _ _ _ _ _ (by first | (simp only [zfa, ↓reduceIte, Nat.reduceEqDiff]; done) | (simp only [zfa, ↓reduceIte, Nat.reduceEqDiff]; rfl)) rfl
  · have p1 : ((l.length : Int) != (m.length : Int)) = true := by rw [bne_iff_ne]; omega
    rw [decide_eq_false (fun e => hlm (by rw [e]))]
    simp only [zaa, zab, zac, zad, zae, zaf, zag, zah, zai, zaj, zak, zal, zam, zan, zao, zap, zaq, zar, zas, zat, zau, zav, zaw, zax, zay, zaz, zba, zbb, zbc, zbd, zbe, zbf, zbg, zbh, zbi, zbj, Nat.reduceBEq, Bool.or_self, Bool.or_false, Bool.or_true, Bool.and_true, Bool.and_false, Bool.true_and, Bool.false_and, Option.isNone_none, Option.isNone_some, Option.isSome_some, Option.isSome_none, zbk, zbl, zbm, zbn, zbo, zbp, zbq, zbr, zbs, zbt, zbu, zbv, zbw, zbx, zby, zbz, zca, zcb, zcc, zcd, zce, zcf, zcg, zch, zci, zcj, zck, zcl, zcm, zcn, zco, zcp, zcq, zcr, zcs, zct, zcu, zcv, zcw, zcx, zcy, zcz, zda, zdb, zdc, zdd, zde, zdf, Option.getD_some, Option.getD_none, zet, zeu, zev, zew, zex, zey, zez, zfa, Option.map_some, Option.map_none, Option.bind_some, List.map_cons, List.map_nil, List.cons_append, List.nil_append, ↓reduceIte, Nat.reduceEqDiff, Nat.reduceAdd, decide_true, decide_false, Bool.true_eq_false, Bool.false_eq_true, env0, List.getElem?_cons_zero, List.getElem?_cons_succ, zdg, zdh, zdi, zdj, zdk, zdl, zdm, zdn, ia22, ld31, zdo, zdp, zdq, zdr, zds, zdt, zdu, zdv, zdw, zdx, zdy, zdz, zea, zeb, zec, fa_0, fa_1, zed, bd_0, bd_2, zee, fd_1, zef, Nat.zero_add, encA, b_neqV, p0, Bool.not_true, p1]
    exact finish_b _ _ _ _ _ _ _ (by first | (simp only [zfa, ↓reduceIte, Nat.reduceEqDiff]; done) | (simp only [zfa, ↓reduceIte, Nat.reduceEqDiff]; rfl)) rfl
noncomputable def codeRS : Code := (Tryd.f12.body).getD .skip
noncomputable def rs20 : Code := seqR (seqR (seqR (seqR codeRS)))
theorem sh_T5 (t k : Nat) (x : T) (p : St) : True := trivial
set_option maxHeartbeats 32000000 in
theorem rsameK_eq (n D : Nat) (a b : T) (ha : (kidsT a).length < n) (ha2 : (kidsT a).length ≤ 1000000)
    (h : ∀ i j x y q r, (kidsT a).drop i = x :: q → (kidsT b).drop j = y :: r → evalFn Tryd.prog cfg0 n D 12 [.tree (encT x), .tree (encT y)] = some (.tree (.bool (sameT x y)), [[], []])) (env : Env) (s : St) (e2 : env 2 = .ptr 2 1 0) (e3 : env 3 = .ptr 3 1 0) (j2 : s 2 = ⟨1, .buf (cellsT a)⟩) (j3 : s 3 = ⟨1, .buf (cellsT b)⟩) (e5 : env 5 = .bool true) :
    den Tryd.prog cfg0 (evalFn Tryd.prog cfg0 n D) n rs20 (finK Tryd.prog (cfg0.keep 12) [.tree (encT a), .tree (encT b)] Tryd.f12.results) env s = some (.tree (.bool (sameK (kidsT a) (kidsT b))), [[], []]) := by
  obtain ⟨k, n1, lg, l, s1, i1, kg, us⟩ := a
  obtain ⟨k', n2, lg', l', s', i2, kg', vs⟩ := b
  simp only [kidsT] at ha ha2 h ⊢
  simp only [cellsT] at j2 j3
  by_cases hl : us.length = vs.length
  case neg =>
    have p1 : ((us.length : Int) != (vs.length : Int)) = true := by rw [bne_iff_ne]; omega
    rw [sameK_len us vs hl]
    simp only [rs20, codeRS, seqR, Tryd.f12, Option.getD_some, zaa, zab, zac, zad, zae, zaf, zag, zah, zai, zaj, zak, zal, zam, zan, zao, zap, zaq, zar, zas, zat, zau, zav, zaw, zax, zay, zaz, zba, zbb, zbc, zbd, zbe, zbf, zbg, zbh, zbi, zbj, Nat.reduceBEq, Bool.or_self, Bool.or_false, Bool.or_true, Bool.and_true, Bool.and_false, Bool.true_and, Bool.false_and, Option.isNone_none, Option.isNone_some, Option.isSome_some, Option.isSome_none, zbk, zbl, zbm, zbn, zbo, zbp, zbq, zbr, zbs, zbt, zbu, zbv, zbw, zbx, zby, zbz, zca, zcb, zcc, zcd, zce, zcf, zcg, zch, zci, zcj, zck, zcl, zcm, zcn, zco, zcp, zcq, zcr, zcs, zct, zcu, zcv, zcw, zcx, zcy, zcz, zda, zdb, zdc, zdd, zde, zdf, Option.getD_some, Option.getD_none, zet, zeu, zev, zew, zex, zey, zez, zfa, Option.map_some, Option.map_none, Option.bind_some, List.map_cons, List.map_nil, List.cons_append, List.nil_append, ↓reduceIte, Nat.reduceEqDiff, Nat.reduceAdd, decide_true, decide_false, Bool.true_eq_false, Bool.false_eq_true, zdg, zdh, zdi, zdj, zdk, zdl, zdm, zdn, ia22, ld31, zdo, zdp, zdq, zdr, zds, zdt, zdu, zdv, zdw, zdx, zdy, zdz, zea, zeb, zec, fa_0, fa_1, zed, bd_0, bd_2, zee, fd_1, zef, Nat.zero_add, e2, e3, e5, j2, j3, faT_4, ldT_4, Nat.reduceAdd, unA_not', Bool.not_true, lenTk, i_neqV, p1]
    exact finish_b _ _ _ _ _ _ _ (by first | (simp only [zfa, ↓reduceIte, Nat.reduceEqDiff]; done) | (simp only [zfa, ↓reduceIte, Nat.reduceEqDiff]; rfl)) rfl
  have p1 : ((us.length : Int) != (vs.length : Int)) = false := by rw [hl]; exact bne_self_eq_false _
  simp only [rs20, codeRS, seqR, Tryd.f12, Option.getD_some, zaa, zab, zac, zad, zae, zaf, zag, zah, zai, zaj, zak, zal, zam, zan, zao, zap, zaq, zar, zas, zat, zau, zav, zaw, zax, zay, zaz, zba, zbb, zbc, zbd, zbe, zbf, zbg, zbh, zbi, zbj, Nat.reduceBEq, Bool.or_self, Bool.or_false, Bool.or_true, Bool.and_true, Bool.and_false, Bool.true_and, Bool.false_and, Option.isNone_none, Option.isNone_some, Option.isSome_some, Option.isSome_none, zbk, zbl, zbm, zbn, zbo, zbp, zbq, zbr, zbs, zbt, zbu, zbv, zbw, zbx, zby, zbz, zca, zcb, zcc, zcd, zce, zcf, zcg, zch, zci, zcj, zck, zcl, zcm, zcn, zco, zcp, zcq, zcr, zcs, zct, zcu, zcv, zcw, zcx, zcy, zcz, zda, zdb, zdc, zdd, zde, zdf, Option.getD_some, Option.getD_none, zet, zeu, zev, zew, zex, zey, zez, zfa, Option.map_some, Option.map_none, Option.bind_some, List.map_cons, List.map_nil, List.cons_append, List.nil_append, ↓reduceIte, Nat.reduceEqDiff, Nat.reduceAdd, decide_true, decide_false, Bool.true_eq_false, Bool.false_eq_true, zdg, zdh, zdi, zdj, zdk, zdl, zdm, zdn, ia22, ld31, zdo, zdp, zdq, zdr, zds, zdt, zdu, zdv, zdw, zdx, zdy, zdz, zea, zeb, zec, fa_0, fa_1, zed, bd_0, bd_2, zee, fd_1, zef, Nat.zero_add, e2, e3, e5, j2, j3, faT_4, ldT_4, Nat.reduceAdd, unA_not', Bool.not_true, lenTk, i_neqV, p1, den_loop]
  refine loop_ends (X := Nat) (fun i env s => env 2 = .ptr 2 1 0 ∧ env 3 = .ptr 3 1 0 ∧ s 2 = ⟨1, .buf (cellsT (.mk k n1 lg l s1 i1 kg us))⟩ ∧ s 3 = ⟨1, .buf (cellsT (.mk k' n2 lg' l' s' i2 kg' vs))⟩ ∧ env 6 = .int .i64 (i : Int) ∧ i ≤ us.length ∧ sameK (us.drop i) (vs.drop i) = sameK us vs) (fun i => us.length - i) (fun _ => (.tree (.bool (sameK us vs)), [[], []])) ?_ n 0 _ _ (by omega) ⟨(by first | (simp only [zfa, ↓reduceIte, Nat.reduceEqDiff, e2]; done) | (simp only [zfa, ↓reduceIte, Nat.reduceEqDiff, e2]; rfl)), (by first | (simp only [zfa, ↓reduceIte, Nat.reduceEqDiff, e3]; done) | (simp only [zfa, ↓reduceIte, Nat.reduceEqDiff, e3]; rfl)), by simp only [cellsT]; exact j2, by simp only [cellsT]; exact j3, (by first | (simp only [zfa, ↓reduceIte, Nat.reduceEqDiff]; done) | (simp only [zfa, ↓reduceIte, Nat.reduceEqDiff]; rfl)), Nat.zero_le _, rfl⟩
  clear e2 e3 j2 j3 e5
  intro rr i hx ih env st ⟨e2, e3, j2, j3, e6, hi, hc⟩
  simp only [cellsT] at j2 j3
  cases hda : us.drop i with
  | nil =>
    have hil : i = us.length := by have := congrArg List.length hda; simp only [List.length_drop, List.length_nil] at this; omega
    have q1 : ¬ ((i : Int) < (us.length : Int)) := by omega
    have hdb : vs.drop i = [] := List.drop_eq_nil_of_le (by omega)
    rw [hda, hdb] at hc
    simp only [sameK] at hc
    rw [← hc]
    simp only [zaa, zab, zac, zad, zae, zaf, zag, zah, zai, zaj, zak, zal, zam, zan, zao, zap, zaq, zar, zas, zat, zau, zav, zaw, zax, zay, zaz, zba, zbb, zbc, zbd, zbe, zbf, zbg, zbh, zbi, zbj, Nat.reduceBEq, Bool.or_self, Bool.or_false, Bool.or_true, Bool.and_true, Bool.and_false, Bool.true_and, Bool.false_and, Option.isNone_none, Option.isNone_some, Option.isSome_some, Option.isSome_none, zbk, zbl, zbm, zbn, zbo, zbp, zbq, zbr, zbs, zbt, zbu, zbv, zbw, zbx, zby, zbz, zca, zcb, zcc, zcd, zce, zcf, zcg, zch, zci, zcj, zck, zcl, zcm, zcn, zco, zcp, zcq, zcr, zcs, zct, zcu, zcv, zcw, zcx, zcy, zcz, zda, zdb, zdc, zdd, zde, zdf, Option.getD_some, Option.getD_none, zet, zeu, zev, zew, zex, zey, zez, zfa, Option.map_some, Option.map_none, Option.bind_some, List.map_cons, List.map_nil, List.cons_append, List.nil_append, ↓reduceIte, Nat.reduceEqDiff, Nat.reduceAdd, decide_true, decide_false, Bool.true_eq_false, Bool.false_eq_true, zdg, zdh, zdi, zdj, zdk, zdl, zdm, zdn, ia22, ld31, zdo, zdp, zdq, zdr, zds, zdt, zdu, zdv, zdw, zdx, zdy, zdz, zea, zeb, zec, fa_0, fa_1, zed, bd_0, bd_2, zee, fd_1, zef, Nat.zero_add, e2, e3, j2, j3, e6, faT_4, ldT_4, Nat.reduceAdd, lenTk, q1]
    exact finish_b _ _ _ _ _ _ _ (by first | (simp only [zfa, ↓reduceIte, Nat.reduceEqDiff]; done) | (simp only [zfa, ↓reduceIte, Nat.reduceEqDiff]; rfl)) rfl
  | cons x q =>
    have hil : i < us.length := by have := congrArg List.length hda; simp only [List.length_drop, List.length_cons] at this; omega
    have hjl : i < vs.length := by omega
    have q1 : (i : Int) < (us.length : Int) := by omega
    have ia := fun st => ia_K st us (gr kg) i hil
    rw [hda] at ia hc
    have ld := fun st => ld_K st x q
    simp only [encT] at ld
    cases hdb : vs.drop i with
    | nil => have := congrArg List.length hdb; simp only [List.length_drop, List.length_nil] at this; omega
    | cons y r =>
      have ib := fun st => ia_K st vs (gr kg') i hjl
      rw [hdb] at ib hc
      have ldb := fun st => ld_K st y r
      simp only [encT] at ldb
      simp only [sameK] at hc
      have cc := callQ_trees (f := 12) (vs := [encT x, encT y]) rfl (h i i x y q r hda hdb)
      simp only [encT] at cc
      have f5 := i_add Tryd.prog 3 (i : Int) 1 (by omega) (by omega)
      cases g : sameT x y with
      | true =>
        rw [g, Bool.true_and] at hc
        rw [g] at cc
        simp only [zaa, zab, zac, zad, zae, zaf, zag, zah, zai, zaj, zak, zal, zam, zan, zao, zap, zaq, zar, zas, zat, zau, zav, zaw, zax, zay, zaz, zba, zbb, zbc, zbd, zbe, zbf, zbg, zbh, zbi, zbj, Nat.reduceBEq, Bool.or_self, Bool.or_false, Bool.or_true, Bool.and_true, Bool.and_false, Bool.true_and, Bool.false_and, Option.isNone_none, Option.isNone_some, Option.isSome_some, Option.isSome_none, zbk, zbl, zbm, zbn, zbo, zbp, zbq, zbr, zbs, zbt, zbu, zbv, zbw, zbx, zby, zbz, zca, zcb, zcc, zcd, zce, zcf, zcg, zch, zci, zcj, zck, zcl, zcm, zcn, zco, zcp, zcq, zcr, zcs, zct, zcu, zcv, zcw, zcx, zcy, zcz, zda, zdb, zdc, zdd, zde, zdf, Option.getD_some, Option.getD_none, zet, zeu, zev, zew, zex, zey, zez, zfa, Option.map_some, Option.map_none, Option.bind_some, List.map_cons, List.map_nil, List.cons_append, List.nil_append, ↓reduceIte, Nat.reduceEqDiff, Nat.reduceAdd, decide_true, decide_false, Bool.true_eq_false, Bool.false_eq_true, zdg, zdh, zdi, zdj, zdk, zdl, zdm, zdn, ia22, ld31, zdo, zdp, zdq, zdr, zds, zdt, zdu, zdv, zdw, zdx, zdy, zdz, zea, zeb, zec, fa_0, fa_1, zed, bd_0, bd_2, zee, fd_1, zef, Nat.zero_add, e2, e3, j2, j3, e6, faT_4, ldT_4, Nat.reduceAdd, q1, lenTk, ia, ib, ld, ldb, cc, unA_not', Bool.not_true, f5]
        exact ih (i + 1) _ _ (by omega) rfl ⟨(by first | (simp only [zfa, ↓reduceIte, Nat.reduceEqDiff, e2]; done) | (simp only [zfa, ↓reduceIte, Nat.reduceEqDiff, e2]; rfl)), (by first | (simp only [zfa, ↓reduceIte, Nat.reduceEqDiff, e3]; done) | (simp only [zfa, ↓reduceIte, Nat.reduceEqDiff, e3]; rfl)), by simp only [cellsT]; exact j2, by simp only [cellsT]; exact j3, (by first | (simp only [zfa, ↓reduceIte, Nat.reduceEqDiff]; done) | (simp only [zfa, ↓reduceIte, Nat.reduceEqDiff]; rfl)), by omega, by rw [drop_next hda, drop_next hdb]; exact hc⟩
      | false =>
        rw [g, Bool.false_and] at hc
        rw [g] at cc
        rw [← hc]
        simp only [zaa, zab, zac, zad, zae, zaf, zag, zah, zai, zaj, zak, zal, zam, zan, zao, zap, zaq, zar, zas, zat, zau, zav, zaw, zax, zay, zaz, zba, zbb, zbc, zbd, zbe, zbf, zbg, zbh, zbi, zbj, Nat.reduceBEq, Bool.or_self, Bool.or_false, Bool.or_true, Bool.and_true, Bool.and_false, Bool.true_and, Bool.false_and, Option.isNone_none, Option.isNone_some, Option.isSome_some, Option.isSome_none, zbk, zbl, zbm, zbn, zbo, zbp, zbq, zbr, zbs, zbt, zbu, zbv, zbw, zbx, zby, zbz, zca, zcb, zcc, zcd, zce, zcf, zcg, zch, zci, zcj, zck, zcl, zcm, zcn, zco, zcp, zcq, zcr, zcs, zct, zcu, zcv, zcw, zcx, zcy, zcz, zda, zdb, zdc, zdd, zde, zdf, Option.getD_some, Option.getD_none, zet, zeu, zev, zew, zex, zey, zez, zfa, Option.map_some, Option.map_none, Option.bind_some, List.map_cons, List.map_nil, List.cons_append, List.nil_append, ↓reduceIte, Nat.reduceEqDiff, Nat.reduceAdd, decide_true, decide_false, Bool.true_eq_false, Bool.false_eq_true, zdg, zdh, zdi, zdj, zdk, zdl, zdm, zdn, ia22, ld31, zdo, zdp, zdq, zdr, zds, zdt, zdu, zdv, zdw, zdx, zdy, zdz, zea, zeb, zec, fa_0, fa_1, zed, bd_0, bd_2, zee, fd_1, zef, Nat.zero_add, e2, e3, j2, j3, e6, faT_4, ldT_4, Nat.reduceAdd, q1, lenTk, ia, ib, ld, ldb, cc, unA_not', Bool.not_false, f5]
        exact finish_b _ _ _ _ _ _ _ (by first | (simp only [zfa, ↓reduceIte, Nat.reduceEqDiff]; done) | (simp only [zfa, ↓reduceIte, Nat.reduceEqDiff]; rfl)) rfl
end Go.Ab

/- relictref03.Same of any terms. Conditions: so many limbs, nodes at most. -/
namespace Go.Ab
open Go.Proofs
set_option maxRecDepth 100000
set_option linter.unusedSimpArgs false
set_option maxHeartbeats 32000000 in
theorem rsame_eq (n : Nat) (hn : n ≤ 1000001) : ∀ (d D : Nat) (a0 b0 : T), htT a0 ≤ d → d + 1 ≤ D → fewT n a0 →
    evalFn Tryd.prog cfg0 n D 12 [.tree (encT a0), .tree (encT b0)] = some (.tree (.bool (sameT a0 b0)), [[], []])
  | 0, _, a0, b0, hd, _, hf => by obtain ⟨k, b, lg, l, s, m, kg, ks⟩ := a0; simp only [htT] at hd; omega
  | d + 1, D, a0, b0, hd, hD, hf => by
    obtain ⟨m, rfl⟩ : ∃ m, D = m + 2 := ⟨D - 2, by omega⟩
    have IH := fun a b h1 h2 => rsame_eq n hn d (m + 1) a b h1 (by omega) h2
    rw [evalFn_go _ Tryd.func12 (by unfold Tryd.f12; rfl) (by unfold Tryd.f12; decide) (Nat.le_of_ble_eq_true (by unfold Tryd.f12; rfl)) (by kernel_rfl)]
    have K := rsameK_eq n (m + 1) a0 b0
    obtain ⟨k, n1, lg, l, s, i1, kg, ks⟩ := a0
    obtain ⟨k', n2, lg', l', s', i2, kg', ks'⟩ := b0
    have hf' : l.length < n ∧ ks.length < n ∧ fewK n ks := by simp only [fewT] at hf; exact hf
    have hhk : htK ks ≤ d := by simp only [htT] at hd; omega
    have c1 := fun D st => callA_trees (cfg := cfg0) (d := D) (s := st) (f := 24) (vs := [encA n1 lg l, encA n2 lg' l']) (by cases lg <;> cases lg' <;> rfl) (rsameNum_eq n m n1 n2 lg lg' l l' hf'.1 (by omega))
    simp only [encA] at c1
    simp only [kidsT] at K
    have K := fun env s => K hf'.2.1 (by omega) (fun i j x y q r h1 h2 => IH x y (by have := kids_ht ks i x q h1; omega) (fewK_at _ ks i x q h1 hf'.2.2)) env s
    simp only [encT] at K
    have iq : (i1 == i2) = decide (i1 = i2) := intEq _ _
    by_cases hk : k = k'
    case neg =>
      have p1 : (k != k') = true := by rw [bne_iff_ne]; exact hk
      have hr : sameT (.mk k n1 lg l s i1 kg ks) (.mk k' n2 lg' l' s' i2 kg' ks') = false := by first | (simp [sameT, kindT, sgnT, limT, strT, nT, kidsT, hk]; done) | (simp [sameT, kindT, sgnT, limT, strT, nT, kidsT, hk]; rfl)
      rw [hr]
      simp only [zaa, zab, zac, zad, zae, zaf, zag, zah, zai, zaj, zak, zal, zam, zan, zao, zap, zaq, zar, zas, zat, zau, zav, zaw, zax, zay, zaz, zba, zbb, zbc, zbd, zbe, zbf, zbg, zbh, zbi, zbj, Nat.reduceBEq, Bool.or_self, Bool.or_false, Bool.or_true, Bool.and_true, Bool.and_false, Bool.true_and, Bool.false_and, Option.isNone_none, Option.isNone_some, Option.isSome_some, Option.isSome_none, zbk, zbl, zbm, zbn, zbo, zbp, zbq, zbr, zbs, zbt, zbu, zbv, zbw, zbx, zby, zbz, zca, zcb, zcc, zcd, zce, zcf, zcg, zch, zci, zcj, zck, zcl, zcm, zcn, zco, zcp, zcq, zcr, zcs, zct, zcu, zcv, zcw, zcx, zcy, zcz, zda, zdb, zdc, zdd, zde, zdf, Option.getD_some, Option.getD_none, zet, zeu, zev, zew, zex, zey, zez, zfa, Option.map_some, Option.map_none, Option.bind_some, List.map_cons, List.map_nil, List.cons_append, List.nil_append, ↓reduceIte, Nat.reduceEqDiff, Nat.reduceAdd, decide_true, decide_false, Bool.true_eq_false, Bool.false_eq_true, env0, List.getElem?_cons_zero, List.getElem?_cons_succ, zdg, zdh, zdi, zdj, zdk, zdl, zdm, zdn, ia22, ld31, zdo, zdp, zdq, zdr, zds, zdt, zdu, zdv, zdw, zdx, zdy, zdz, zea, zeb, zec, fa_0, fa_1, zed, bd_0, bd_2, zee, fd_1, zef, Nat.zero_add, encT, cellsT, faT_0, ldT_0, i_neqV, p1]
      exact finish_b _ _ _ _ _ _ _ (by first | (simp only [zfa, ↓reduceIte, Nat.reduceEqDiff]; done) | (simp only [zfa, ↓reduceIte, Nat.reduceEqDiff]; rfl)) rfl
    subst hk
    have p1 : (k != k) = false := bne_self_eq_false _
    by_cases h1 : k = 1
    · subst h1
      have hr : sameT (.mk 1 n1 lg l s i1 kg ks) (.mk 1 n2 lg' l' s' i2 kg' ks') = (decide (n1 = n2) && decide (l = l')) := by first | (simp [sameT, kindT, sgnT, limT, strT, nT, kidsT]; done) | (simp [sameT, kindT, sgnT, limT, strT, nT, kidsT]; rfl)
      rw [hr]
      simp only [zaa, zab, zac, zad, zae, zaf, zag, zah, zai, zaj, zak, zal, zam, zan, zao, zap, zaq, zar, zas, zat, zau, zav, zaw, zax, zay, zaz, zba, zbb, zbc, zbd, zbe, zbf, zbg, zbh, zbi, zbj, Nat.reduceBEq, Bool.or_self, Bool.or_false, Bool.or_true, Bool.and_true, Bool.and_false, Bool.true_and, Bool.false_and, Option.isNone_none, Option.isNone_some, Option.isSome_some, Option.isSome_none, zbk, zbl, zbm, zbn, zbo, zbp, zbq, zbr, zbs, zbt, zbu, zbv, zbw, zbx, zby, zbz, zca, zcb, zcc, zcd, zce, zcf, zcg, zch, zci, zcj, zck, zcl, zcm, zcn, zco, zcp, zcq, zcr, zcs, zct, zcu, zcv, zcw, zcx, zcy, zcz, zda, zdb, zdc, zdd, zde, zdf, Option.getD_some, Option.getD_none, zet, zeu, zev, zew, zex, zey, zez, zfa, Option.map_some, Option.map_none, Option.bind_some, List.map_cons, List.map_nil, List.cons_append, List.nil_append, ↓reduceIte, Nat.reduceEqDiff, Nat.reduceAdd, decide_true, decide_false, Bool.true_eq_false, Bool.false_eq_true, env0, List.getElem?_cons_zero, List.getElem?_cons_succ, zdg, zdh, zdi, zdj, zdk, zdl, zdm, zdn, ia22, ld31, zdo, zdp, zdq, zdr, zds, zdt, zdu, zdv, zdw, zdx, zdy, zdz, zea, zeb, zec, fa_0, fa_1, zed, bd_0, bd_2, zee, fd_1, zef, Nat.zero_add, encT, cellsT, faT_0, faT_1, faT_2, faT_3, faT_4, ldT_0, ldT_1, ldT_2, ldT_3, ldT_4, Nat.reduceAdd, i_neqV, p1, i_eqlV, Int.reduceBEq, s_eqlS, c1]
      exact finish_b _ _ _ _ _ _ _ (by first | (simp only [zfa, ↓reduceIte, Nat.reduceEqDiff]; done) | (simp only [zfa, ↓reduceIte, Nat.reduceEqDiff]; rfl)) rfl
    have b1 : (k == 1) = false := beq_eq_false_iff_ne.mpr h1
    by_cases h2 : k = 2
    · subst h2
      have hr : sameT (.mk 2 n1 lg l s i1 kg ks) (.mk 2 n2 lg' l' s' i2 kg' ks') = (decide (s = s')) := by first | (simp [sameT, kindT, sgnT, limT, strT, nT, kidsT]; done) | (simp [sameT, kindT, sgnT, limT, strT, nT, kidsT]; rfl)
      rw [hr]
      simp only [zaa, zab, zac, zad, zae, zaf, zag, zah, zai, zaj, zak, zal, zam, zan, zao, zap, zaq, zar, zas, zat, zau, zav, zaw, zax, zay, zaz, zba, zbb, zbc, zbd, zbe, zbf, zbg, zbh, zbi, zbj, Nat.reduceBEq, Bool.or_self, Bool.or_false, Bool.or_true, Bool.and_true, Bool.and_false, Bool.true_and, Bool.false_and, Option.isNone_none, Option.isNone_some, Option.isSome_some, Option.isSome_none, zbk, zbl, zbm, zbn, zbo, zbp, zbq, zbr, zbs, zbt, zbu, zbv, zbw, zbx, zby, zbz, zca, zcb, zcc, zcd, zce, zcf, zcg, zch, zci, zcj, zck, zcl, zcm, zcn, zco, zcp, zcq, zcr, zcs, zct, zcu, zcv, zcw, zcx, zcy, zcz, zda, zdb, zdc, zdd, zde, zdf, Option.getD_some, Option.getD_none, zet, zeu, zev, zew, zex, zey, zez, zfa, Option.map_some, Option.map_none, Option.bind_some, List.map_cons, List.map_nil, List.cons_append, List.nil_append, ↓reduceIte, Nat.reduceEqDiff, Nat.reduceAdd, decide_true, decide_false, Bool.true_eq_false, Bool.false_eq_true, env0, List.getElem?_cons_zero, List.getElem?_cons_succ, zdg, zdh, zdi, zdj, zdk, zdl, zdm, zdn, ia22, ld31, zdo, zdp, zdq, zdr, zds, zdt, zdu, zdv, zdw, zdx, zdy, zdz, zea, zeb, zec, fa_0, fa_1, zed, bd_0, bd_2, zee, fd_1, zef, Nat.zero_add, encT, cellsT, faT_0, faT_1, faT_2, faT_3, faT_4, ldT_0, ldT_1, ldT_2, ldT_3, ldT_4, Nat.reduceAdd, i_neqV, p1, i_eqlV, Int.reduceBEq, s_eqlS, strEq]
      exact finish_b _ _ _ _ _ _ _ (by first | (simp only [zfa, ↓reduceIte, Nat.reduceEqDiff]; done) | (simp only [zfa, ↓reduceIte, Nat.reduceEqDiff]; rfl)) rfl
    have b2 : (k == 2) = false := beq_eq_false_iff_ne.mpr h2
    by_cases h6 : k = 6
    · subst h6
      have hr : sameT (.mk 6 n1 lg l s i1 kg ks) (.mk 6 n2 lg' l' s' i2 kg' ks') = (decide (s = s')) := by first | (simp [sameT, kindT, sgnT, limT, strT, nT, kidsT]; done) | (simp [sameT, kindT, sgnT, limT, strT, nT, kidsT]; rfl)
      rw [hr]
      simp only [zaa, zab, zac, zad, zae, zaf, zag, zah, zai, zaj, zak, zal, zam, zan, zao, zap, zaq, zar, zas, zat, zau, zav, zaw, zax, zay, zaz, zba, zbb, zbc, zbd, zbe, zbf, zbg, zbh, zbi, zbj, Nat.reduceBEq, Bool.or_self, Bool.or_false, Bool.or_true, Bool.and_true, Bool.and_false, Bool.true_and, Bool.false_and, Option.isNone_none, Option.isNone_some, Option.isSome_some, Option.isSome_none, zbk, zbl, zbm, zbn, zbo, zbp, zbq, zbr, zbs, zbt, zbu, zbv, zbw, zbx, zby, zbz, zca, zcb, zcc, zcd, zce, zcf, zcg, zch, zci, zcj, zck, zcl, zcm, zcn, zco, zcp, zcq, zcr, zcs, zct, zcu, zcv, zcw, zcx, zcy, zcz, zda, zdb, zdc, zdd, zde, zdf, Option.getD_some, Option.getD_none, zet, zeu, zev, zew, zex, zey, zez, zfa, Option.map_some, Option.map_none, Option.bind_some, List.map_cons, List.map_nil, List.cons_append, List.nil_append, ↓reduceIte, Nat.reduceEqDiff, Nat.reduceAdd, decide_true, decide_false, Bool.true_eq_false, Bool.false_eq_true, env0, List.getElem?_cons_zero, List.getElem?_cons_succ, zdg, zdh, zdi, zdj, zdk, zdl, zdm, zdn, ia22, ld31, zdo, zdp, zdq, zdr, zds, zdt, zdu, zdv, zdw, zdx, zdy, zdz, zea, zeb, zec, fa_0, fa_1, zed, bd_0, bd_2, zee, fd_1, zef, Nat.zero_add, encT, cellsT, faT_0, faT_1, faT_2, faT_3, faT_4, ldT_0, ldT_1, ldT_2, ldT_3, ldT_4, Nat.reduceAdd, i_neqV, p1, i_eqlV, Int.reduceBEq, s_eqlS, strEq]
      exact finish_b _ _ _ _ _ _ _ (by first | (simp only [zfa, ↓reduceIte, Nat.reduceEqDiff]; done) | (simp only [zfa, ↓reduceIte, Nat.reduceEqDiff]; rfl)) rfl
    have b6 : (k == 6) = false := beq_eq_false_iff_ne.mpr h6
    by_cases h8 : k = 8
    · subst h8
      have hr : sameT (.mk 8 n1 lg l s i1 kg ks) (.mk 8 n2 lg' l' s' i2 kg' ks') = (decide (s = s') && decide (i1 = i2)) := by first | (simp [sameT, kindT, sgnT, limT, strT, nT, kidsT]; done) | (simp [sameT, kindT, sgnT, limT, strT, nT, kidsT]; rfl)
      rw [hr]
      by_cases g : s = s'
      · have g' : (s == s') = true := beq_iff_eq.mpr g
        rw [decide_eq_true g, Bool.true_and]
        simp only [zaa, zab, zac, zad, zae, zaf, zag, zah, zai, zaj, zak, zal, zam, zan, zao, zap, zaq, zar, zas, zat, zau, zav, zaw, zax, zay, zaz, zba, zbb, zbc, zbd, zbe, zbf, zbg, zbh, zbi, zbj, Nat.reduceBEq, Bool.or_self, Bool.or_false, Bool.or_true, Bool.and_true, Bool.and_false, Bool.true_and, Bool.false_and, Option.isNone_none, Option.isNone_some, Option.isSome_some, Option.isSome_none, zbk, zbl, zbm, zbn, zbo, zbp, zbq, zbr, zbs, zbt, zbu, zbv, zbw, zbx, zby, zbz, zca, zcb, zcc, zcd, zce, zcf, zcg, zch, zci, zcj, zck, zcl, zcm, zcn, zco, zcp, zcq, zcr, zcs, zct, zcu, zcv, zcw, zcx, zcy, zcz, zda, zdb, zdc, zdd, zde, zdf, Option.getD_some, Option.getD_none, zet, zeu, zev, zew, zex, zey, zez, zfa, Option.map_some, Option.map_none, Option.bind_some, List.map_cons, List.map_nil, List.cons_append, List.nil_append, ↓reduceIte, Nat.reduceEqDiff, Nat.reduceAdd, decide_true, decide_false, Bool.true_eq_false, Bool.false_eq_true, env0, List.getElem?_cons_zero, List.getElem?_cons_succ, zdg, zdh, zdi, zdj, zdk, zdl, zdm, zdn, ia22, ld31, zdo, zdp, zdq, zdr, zds, zdt, zdu, zdv, zdw, zdx, zdy, zdz, zea, zeb, zec, fa_0, fa_1, zed, bd_0, bd_2, zee, fd_1, zef, Nat.zero_add, encT, cellsT, faT_0, faT_1, faT_2, faT_3, faT_4, ldT_0, ldT_1, ldT_2, ldT_3, ldT_4, Nat.reduceAdd, i_neqV, p1, i_eqlV, Int.reduceBEq, s_eqlS, g', iq]
        exact finish_b _ _ _ _ _ _ _ (by first | (simp only [zfa, ↓reduceIte, Nat.reduceEqDiff]; done) | (simp only [zfa, ↓reduceIte, Nat.reduceEqDiff]; rfl)) rfl
      · have g' : (s == s') = false := beq_eq_false_iff_ne.mpr g
        rw [decide_eq_false g, Bool.false_and]
        simp only [zaa, zab, zac, zad, zae, zaf, zag, zah, zai, zaj, zak, zal, zam, zan, zao, zap, zaq, zar, zas, zat, zau, zav, zaw, zax, zay, zaz, zba, zbb, zbc, zbd, zbe, zbf, zbg, zbh, zbi, zbj, Nat.reduceBEq, Bool.or_self, Bool.or_false, Bool.or_true, Bool.and_true, Bool.and_false, Bool.true_and, Bool.false_and, Option.isNone_none, Option.isNone_some, Option.isSome_some, Option.isSome_none, zbk, zbl, zbm, zbn, zbo, zbp, zbq, zbr, zbs, zbt, zbu, zbv, zbw, zbx, zby, zbz, zca, zcb, zcc, zcd, zce, zcf, zcg, zch, zci, zcj, zck, zcl, zcm, zcn, zco, zcp, zcq, zcr, zcs, zct, zcu, zcv, zcw, zcx, zcy, zcz, zda, zdb, zdc, zdd, zde, zdf, Option.getD_some, Option.getD_none, zet, zeu, zev, zew, zex, zey, zez, zfa, Option.map_some, Option.map_none, Option.bind_some, List.map_cons, List.map_nil, List.cons_append, List.nil_append, ↓reduceIte, Nat.reduceEqDiff, Nat.reduceAdd, decide_true, decide_false, Bool.true_eq_false, Bool.false_eq_true, env0, List.getElem?_cons_zero, List.getElem?_cons_succ, zdg, zdh, zdi, zdj, zdk, zdl, zdm, zdn, ia22, ld31, zdo, zdp, zdq, zdr, zds, zdt, zdu, zdv, zdw, zdx, zdy, zdz, zea, zeb, zec, fa_0, fa_1, zed, bd_0, bd_2, zee, fd_1, zef, Nat.zero_add, encT, cellsT, faT_0, faT_1, faT_2, faT_3, faT_4, ldT_0, ldT_1, ldT_2, ldT_3, ldT_4, Nat.reduceAdd, i_neqV, p1, i_eqlV, Int.reduceBEq, s_eqlS, g', iq]
        exact finish_b _ _ _ _ _ _ _ (by first | (simp only [zfa, ↓reduceIte, Nat.reduceEqDiff]; done) | (simp only [zfa, ↓reduceIte, Nat.reduceEqDiff]; rfl)) rfl
    have b8 : (k == 8) = false := beq_eq_false_iff_ne.mpr h8
    by_cases h9 : k = 9
    · subst h9
      have hr : sameT (.mk 9 n1 lg l s i1 kg ks) (.mk 9 n2 lg' l' s' i2 kg' ks') = (decide (i1 = i2)) := by first | (simp [sameT, kindT, sgnT, limT, strT, nT, kidsT]; done) | (simp [sameT, kindT, sgnT, limT, strT, nT, kidsT]; rfl)
      rw [hr]
      simp only [zaa, zab, zac, zad, zae, zaf, zag, zah, zai, zaj, zak, zal, zam, zan, zao, zap, zaq, zar, zas, zat, zau, zav, zaw, zax, zay, zaz, zba, zbb, zbc, zbd, zbe, zbf, zbg, zbh, zbi, zbj, Nat.reduceBEq, Bool.or_self, Bool.or_false, Bool.or_true, Bool.and_true, Bool.and_false, Bool.true_and, Bool.false_and, Option.isNone_none, Option.isNone_some, Option.isSome_some, Option.isSome_none, zbk, zbl, zbm, zbn, zbo, zbp, zbq, zbr, zbs, zbt, zbu, zbv, zbw, zbx, zby, zbz, zca, zcb, zcc, zcd, zce, zcf, zcg, zch, zci, zcj, zck, zcl, zcm, zcn, zco, zcp, zcq, zcr, zcs, zct, zcu, zcv, zcw, zcx, zcy, zcz, zda, zdb, zdc, zdd, zde, zdf, Option.getD_some, Option.getD_none, zet, zeu, zev, zew, zex, zey, zez, zfa, Option.map_some, Option.map_none, Option.bind_some, List.map_cons, List.map_nil, List.cons_append, List.nil_append, ↓reduceIte, Nat.reduceEqDiff, Nat.reduceAdd, decide_true, decide_false, Bool.true_eq_false, Bool.false_eq_true, env0, List.getElem?_cons_zero, List.getElem?_cons_succ, zdg, zdh, zdi, zdj, zdk, zdl, zdm, zdn, ia22, ld31, zdo, zdp, zdq, zdr, zds, zdt, zdu, zdv, zdw, zdx, zdy, zdz, zea, zeb, zec, fa_0, fa_1, zed, bd_0, bd_2, zee, fd_1, zef, Nat.zero_add, encT, cellsT, faT_0, faT_1, faT_2, faT_3, faT_4, ldT_0, ldT_1, ldT_2, ldT_3, ldT_4, Nat.reduceAdd, i_neqV, p1, i_eqlV, Int.reduceBEq, s_eqlS, iq]
      exact finish_b _ _ _ _ _ _ _ (by first | (simp only [zfa, ↓reduceIte, Nat.reduceEqDiff]; done) | (simp only [zfa, ↓reduceIte, Nat.reduceEqDiff]; rfl)) rfl
    have b9 : (k == 9) = false := beq_eq_false_iff_ne.mpr h9
    by_cases h7 : k = 7
    · subst h7
      have hr : sameT (.mk 7 n1 lg l s i1 kg ks) (.mk 7 n2 lg' l' s' i2 kg' ks') = (decide (i1 = i2) && sameK ks ks') := by first | (simp [sameT, kindT, sgnT, limT, strT, nT, kidsT]; done) | (simp [sameT, kindT, sgnT, limT, strT, nT, kidsT]; rfl)
      rw [hr]
      by_cases g : i1 = i2
      · have g' : (i1 == i2) = true := beq_iff_eq.mpr g
        rw [decide_eq_true g, Bool.true_and]
        simp only [zaa, zab, zac, zad, zae, zaf, zag, zah, zai, zaj, zak, zal, zam, zan, zao, zap, zaq, zar, zas, zat, zau, zav, zaw, zax, zay, zaz, zba, zbb, zbc, zbd, zbe, zbf, zbg, zbh, zbi, zbj, Nat.reduceBEq, Bool.or_self, Bool.or_false, Bool.or_true, Bool.and_true, Bool.and_false, Bool.true_and, Bool.false_and, Option.isNone_none, Option.isNone_some, Option.isSome_some, Option.isSome_none, zbk, zbl, zbm, zbn, zbo, zbp, zbq, zbr, zbs, zbt, zbu, zbv, zbw, zbx, zby, zca, zcb, zce, zcf, zch, zci, zcj, zck, zcl, zcm, zcn, zco, zcp, zcq, zcr, zcs, zct, zcu, zcv, zcw, zcx, zcy, zcz, zda, zdb, zdc, zdd, zde, zdf, Option.getD_some, Option.getD_none, zet, zeu, zev, zew, zex, zey, zez, zfa, Option.map_some, Option.map_none, Option.bind_some, List.map_cons, List.map_nil, List.cons_append, List.nil_append, ↓reduceIte, Nat.reduceEqDiff, Nat.reduceAdd, decide_true, decide_false, Bool.true_eq_false, Bool.false_eq_true, env0, List.getElem?_cons_zero, List.getElem?_cons_succ, zdg, zdh, zdi, zdj, zdk, zdl, zdm, zdn, ia22, ld31, zdo, zdp, zdq, zdr, zds, zdt, zdu, zdv, zdw, zdx, zdy, zdz, zea, zeb, zec, fa_0, fa_1, zed, bd_0, bd_2, zee, fd_1, zef, Nat.zero_add, encT, cellsT, faT_0, faT_1, faT_2, faT_3, faT_4, ldT_0, ldT_1, ldT_2, ldT_3, ldT_4, Nat.reduceAdd, i_neqV, p1, i_eqlV, Int.reduceBEq, s_eqlS, zbz, g', den_loop]
        rw [zcc, zbz]
        exact K _ _ (by first | (simp only [zfa, ↓reduceIte, Nat.reduceEqDiff]; done) | (simp only [zfa, ↓reduceIte, Nat.reduceEqDiff]; rfl)) (by first | (simp only [zfa, ↓reduceIte, Nat.reduceEqDiff]; done) | (simp only [zfa, ↓reduceIte, Nat.reduceEqDiff]; rfl)) (by first | (simp only [zfa, ↓reduceIte, Nat.reduceEqDiff]; done) | (simp only [zfa, ↓reduceIte, Nat.reduceEqDiff]; rfl)) (by first | (simp only [zfa, ↓reduceIte, Nat.reduceEqDiff]; done) | (simp only [zfa, ↓reduceIte, Nat.reduceEqDiff]; rfl)) (by first | (simp only [zfa, ↓reduceIte, Nat.reduceEqDiff]; done) | (simp only [zfa, ↓reduceIte, Nat.reduceEqDiff]; rfl))
      · have g' : (i1 == i2) = false := beq_eq_false_iff_ne.mpr g
        rw [decide_eq_false g, Bool.false_and]
        simp only [zaa, zab, zac, zad, zae, zaf, zag, zah, zai, zaj, zak, zal, zam, zan, zao, zap, zaq, zar, zas, zat, zau, zav, zaw, zax, zay, zaz, zba, zbb, zbc, zbd, zbe, zbf, zbg, zbh, zbi, zbj, Nat.reduceBEq, Bool.or_self, Bool.or_false, Bool.or_true, Bool.and_true, Bool.and_false, Bool.true_and, Bool.false_and, Option.isNone_none, Option.isNone_some, Option.isSome_some, Option.isSome_none, zbk, zbl, zbm, zbn, zbo, zbp, zbq, zbr, zbs, zbt, zbu, zbv, zbw, zbx, zby, zbz, zca, zcb, zcc, zcd, zce, zcf, zcg, zch, zci, zcj, zck, zcl, zcm, zcn, zco, zcp, zcq, zcr, zcs, zct, zcu, zcv, zcw, zcx, zcy, zcz, zda, zdb, zdc, zdd, zde, zdf, Option.getD_some, Option.getD_none, zet, zeu, zev, zew, zex, zey, zez, zfa, Option.map_some, Option.map_none, Option.bind_some, List.map_cons, List.map_nil, List.cons_append, List.nil_append, ↓reduceIte, Nat.reduceEqDiff, Nat.reduceAdd, decide_true, decide_false, Bool.true_eq_false, Bool.false_eq_true, env0, List.getElem?_cons_zero, List.getElem?_cons_succ, zdg, zdh, zdi, zdj, zdk, zdl, zdm, zdn, ia22, ld31, zdo, zdp, zdq, zdr, zds, zdt, zdu, zdv, zdw, zdx, zdy, zdz, zea, zeb, zec, fa_0, fa_1, zed, bd_0, bd_2, zee, fd_1, zef, Nat.zero_add, encT, cellsT, faT_0, faT_1, faT_2, faT_3, faT_4, ldT_0, ldT_1, ldT_2, ldT_3, ldT_4, Nat.reduceAdd, i_neqV, p1, i_eqlV, Int.reduceBEq, s_eqlS, g', unA_not', Bool.not_false]
        exact finish_b _ _ _ _ _ _ _ (by first | (simp only [zfa, ↓reduceIte, Nat.reduceEqDiff]; done) | (simp only [zfa, ↓reduceIte, Nat.reduceEqDiff]; rfl)) rfl
    have b7 : (k == 7) = false := beq_eq_false_iff_ne.mpr h7
    by_cases h4 : k = 4
    · subst h4
      have hr : sameT (.mk 4 n1 lg l s i1 kg ks) (.mk 4 n2 lg' l' s' i2 kg' ks') = (sameK ks ks') := by first | (simp [sameT, kindT, sgnT, limT, strT, nT, kidsT]; done) | (simp [sameT, kindT, sgnT, limT, strT, nT, kidsT]; rfl)
      rw [hr]
      simp only [zaa, zab, zac, zad, zae, zaf, zag, zah, zai, zaj, zak, zal, zam, zan, zao, zap, zaq, zar, zas, zat, zau, zav, zaw, zax, zay, zaz, zba, zbb, zbc, zbd, zbe, zbf, zbg, zbh, zbi, zbj, Nat.reduceBEq, Bool.or_self, Bool.or_false, Bool.or_true, Bool.and_true, Bool.and_false, Bool.true_and, Bool.false_and, Option.isNone_none, Option.isNone_some, Option.isSome_some, Option.isSome_none, zbk, zbl, zbm, zbn, zbo, zbp, zbq, zbr, zbs, zbt, zbu, zbv, zbw, zbx, zby, zca, zcb, zce, zcf, zch, zci, zcj, zck, zcl, zcm, zcn, zco, zcp, zcq, zcr, zcs, zct, zcu, zcv, zcw, zcx, zcy, zcz, zda, zdb, zdc, zdd, zde, zdf, Option.getD_some, Option.getD_none, zet, zeu, zev, zew, zex, zey, zez, zfa, Option.map_some, Option.map_none, Option.bind_some, List.map_cons, List.map_nil, List.cons_append, List.nil_append, ↓reduceIte, Nat.reduceEqDiff, Nat.reduceAdd, decide_true, decide_false, Bool.true_eq_false, Bool.false_eq_true, env0, List.getElem?_cons_zero, List.getElem?_cons_succ, zdg, zdh, zdi, zdj, zdk, zdl, zdm, zdn, ia22, ld31, zdo, zdp, zdq, zdr, zds, zdt, zdu, zdv, zdw, zdx, zdy, zdz, zea, zeb, zec, fa_0, fa_1, zed, bd_0, bd_2, zee, fd_1, zef, Nat.zero_add, encT, cellsT, faT_0, faT_1, faT_2, faT_3, faT_4, ldT_0, ldT_1, ldT_2, ldT_3, ldT_4, Nat.reduceAdd, i_neqV, p1, i_eqlV, Int.reduceBEq, s_eqlS, zbz, den_loop]
      rw [zcc, zbz]
      exact K _ _ (by first | (simp only [zfa, ↓reduceIte, Nat.reduceEqDiff]; done) | (simp only [zfa, ↓reduceIte, Nat.reduceEqDiff]; rfl)) (by first | (simp only [zfa, ↓reduceIte, Nat.reduceEqDiff]; done) | (simp only [zfa, ↓reduceIte, Nat.reduceEqDiff]; rfl)) (by first | (simp only [zfa, ↓reduceIte, Nat.reduceEqDiff]; done) | (simp only [zfa, ↓reduceIte, Nat.reduceEqDiff]; rfl)) (by first | (simp only [zfa, ↓reduceIte, Nat.reduceEqDiff]; done) | (simp only [zfa, ↓reduceIte, Nat.reduceEqDiff]; rfl)) (by first | (simp only [zfa, ↓reduceIte, Nat.reduceEqDiff]; done) | (simp only [zfa, ↓reduceIte, Nat.reduceEqDiff]; rfl))
    have b4 : (k == 4) = false := beq_eq_false_iff_ne.mpr h4
    by_cases h5 : k = 5
    · subst h5
      have hr : sameT (.mk 5 n1 lg l s i1 kg ks) (.mk 5 n2 lg' l' s' i2 kg' ks') = (sameK ks ks') := by first | (simp [sameT, kindT, sgnT, limT, strT, nT, kidsT]; done) | (simp [sameT, kindT, sgnT, limT, strT, nT, kidsT]; rfl)
      rw [hr]
      simp only [zaa, zab, zac, zad, zae, zaf, zag, zah, zai, zaj, zak, zal, zam, zan, zao, zap, zaq, zar, zas, zat, zau, zav, zaw, zax, zay, zaz, zba, zbb, zbc, zbd, zbe, zbf, zbg, zbh, zbi, zbj, Nat.reduceBEq, Bool.or_self, Bool.or_false, Bool.or_true, Bool.and_true, Bool.and_false, Bool.true_and, Bool.false_and, Option.isNone_none, Option.isNone_some, Option.isSome_some, Option.isSome_none, zbk, zbl, zbm, zbn, zbo, zbp, zbq, zbr, zbs, zbt, zbu, zbv, zbw, zbx, zby, zca, zcb, zce, zcf, zch, zci, zcj, zck, zcl, zcm, zcn, zco, zcp, zcq, zcr, zcs, zct, zcu, zcv, zcw, zcx, zcy, zcz, zda, zdb, zdc, zdd, zde, zdf, Option.getD_some, Option.getD_none, zet, zeu, zev, zew, zex, zey, zez, zfa, Option.map_some, Option.map_none, Option.bind_some, List.map_cons, List.map_nil, List.cons_append, List.nil_append, ↓reduceIte, Nat.reduceEqDiff, Nat.reduceAdd, decide_true, decide_false, Bool.true_eq_false, Bool.false_eq_true, env0, List.getElem?_cons_zero, List.getElem?_cons_succ, zdg, zdh, zdi, zdj, zdk, zdl, zdm, zdn, ia22, ld31, zdo, zdp, zdq, zdr, zds, zdt, zdu, zdv, zdw, zdx, zdy, zdz, zea, zeb, zec, fa_0, fa_1, zed, bd_0, bd_2, zee, fd_1, zef, Nat.zero_add, encT, cellsT, faT_0, faT_1, faT_2, faT_3, faT_4, ldT_0, ldT_1, ldT_2, ldT_3, ldT_4, Nat.reduceAdd, i_neqV, p1, i_eqlV, Int.reduceBEq, s_eqlS, zbz, den_loop]
      rw [zcc, zbz]
      exact K _ _ (by first | (simp only [zfa, ↓reduceIte, Nat.reduceEqDiff]; done) | (simp only [zfa, ↓reduceIte, Nat.reduceEqDiff]; rfl)) (by first | (simp only [zfa, ↓reduceIte, Nat.reduceEqDiff]; done) | (simp only [zfa, ↓reduceIte, Nat.reduceEqDiff]; rfl)) (by first | (simp only [zfa, ↓reduceIte, Nat.reduceEqDiff]; done) | (simp only [zfa, ↓reduceIte, Nat.reduceEqDiff]; rfl)) (by first | (simp only [zfa, ↓reduceIte, Nat.reduceEqDiff]; done) | (simp only [zfa, ↓reduceIte, Nat.reduceEqDiff]; rfl)) (by first | (simp only [zfa, ↓reduceIte, Nat.reduceEqDiff]; done) | (simp only [zfa, ↓reduceIte, Nat.reduceEqDiff]; rfl))
    have b5 : (k == 5) = false := beq_eq_false_iff_ne.mpr h5
    have hr : sameT (.mk k n1 lg l s i1 kg ks) (.mk k n2 lg' l' s' i2 kg' ks') = true := by first | (simp [sameT, kindT, sgnT, limT, strT, nT, kidsT, h1, h2, h4, h5, h6, h7, h8, h9]; done) | (simp [sameT, kindT, sgnT, limT, strT, nT, kidsT, h1, h2, h4, h5, h6, h7, h8, h9]; rfl)
    rw [hr]
    simp only [zaa, zab, zac, zad, zae, zaf, zag, zah, zai, zaj, zak, zal, zam, zan, zao, zap, zaq, zar, zas, zat, zau, zav, zaw, zax, zay, zaz, zba, zbb, zbc, zbd, zbe, zbf, zbg, zbh, zbi, zbj, Nat.reduceBEq, Bool.or_self, Bool.or_false, Bool.or_true, Bool.and_true, Bool.and_false, Bool.true_and, Bool.false_and, Option.isNone_none, Option.isNone_some, Option.isSome_some, Option.isSome_none, zbk, zbl, zbm, zbn, zbo, zbp, zbq, zbr, zbs, zbt, zbu, zbv, zbw, zbx, zby, zbz, zca, zcb, zcc, zcd, zce, zcf, zcg, zch, zci, zcj, zck, zcl, zcm, zcn, zco, zcp, zcq, zcr, zcs, zct, zcu, zcv, zcw, zcx, zcy, zcz, zda, zdb, zdc, zdd, zde, zdf, Option.getD_some, Option.getD_none, zet, zeu, zev, zew, zex, zey, zez, zfa, Option.map_some, Option.map_none, Option.bind_some, List.map_cons, List.map_nil, List.cons_append, List.nil_append, ↓reduceIte, Nat.reduceEqDiff, Nat.reduceAdd, decide_true, decide_false, Bool.true_eq_false, Bool.false_eq_true, env0, List.getElem?_cons_zero, List.getElem?_cons_succ, zdg, zdh, zdi, zdj, zdk, zdl, zdm, zdn, ia22, ld31, zdo, zdp, zdq, zdr, zds, zdt, zdu, zdv, zdw, zdx, zdy, zdz, zea, zeb, zec, fa_0, fa_1, zed, bd_0, bd_2, zee, fd_1, zef, Nat.zero_add, encT, cellsT, faT_0, ldT_0, i_neqV, p1, i_eqlV, b1, b2, b4, b5, b6, b7, b8, b9]
    exact finish_b _ _ _ _ _ _ _ (by first | (simp only [zfa, ↓reduceIte, Nat.reduceEqDiff]; done) | (simp only [zfa, ↓reduceIte, Nat.reduceEqDiff]; rfl)) rfl
end Go.Ab
