/- Slice expressions and conversions yield what the abstract ones tell. No conditions. -/
import Derived.Test.YtaifnpbgamookaaDoorAbQ
namespace Go.Ab
section
variable {P : Program} {Γ : G}

/-- An operand that may be missing. -/
def VO (Γ : G) : Option AV → Option Value → Prop
  | none, none => True
  | some x, some v => V Γ x v
  | _, _ => False

theorem boundA_some {x : AV} {d y n : Nat} (h : boundA (some x) d y = some n) {v : Value} (hv : V Γ x v) (c : BoundsCode) (y' : Nat) (hy : y ≤ y') (w : World) :
    (Instr.sliceBound v y' c).run P w = .ok n w ∧ n ≤ y := by
  unfold boundA at h
  split at h
  · rename_i e; cases e
  · rename_i k i e
    cases e
    split at h
    · rename_i hb
      cases h
      rw [V_int] at hv; subst hv
      have h1 : 0 ≤ i ∧ i ≤ (y' : Int) := ⟨hb.1, by omega⟩
      refine ⟨?_, by omega⟩
      simp [Instr.sliceBound, asIntOf, h1]
    · cases h
  · cases h

/-- The bounds of a slice expression of two. -/
theorem bounds2 {b : Bool} {len cap y h' l' : Nat} {lo hi : Option AV} {lv hv : Option Value} (hy : y ≤ cap) (hly : len ≤ y) (h1 : boundA hi len y = some h') (h2 : boundA lo 0 h' = some l')
    (hl : VO Γ lo lv) (hh : VO Γ hi hv) : (Instr.sliceBounds b len cap lv hv none).run P Γ.w = .ok (l', h', cap) Γ.w ∧ l' ≤ h' ∧ h' ≤ y := by
  cases hi with
  | none =>
    cases hv with
    | some _ => exact hh.elim
    | none =>
    simp [boundA] at h1; subst h1
    cases lo with
    | none =>
      cases lv with
      | some _ => exact hl.elim
      | none =>
      simp [boundA] at h2; subst h2
      exact ⟨by simp [Instr.sliceBounds], Nat.zero_le _, hly⟩
    | some x =>
      cases lv with
      | none => exact hl.elim
      | some v =>
      obtain ⟨g1, g2⟩ := boundA_some (P := P) h2 hl .sliceB len (Nat.le_refl _) Γ.w
      exact ⟨by simp [Instr.sliceBounds, g1], g2, hly⟩
  | some x =>
    cases hv with
    | none => exact hh.elim
    | some v =>
    obtain ⟨g1, g2⟩ := boundA_some (P := P) h1 hh (if b = true then .sliceAcap else .sliceAlen) cap hy Γ.w
    cases lo with
    | none =>
      cases lv with
      | some _ => exact hl.elim
      | none =>
      simp [boundA] at h2; subst h2
      exact ⟨by simp [Instr.sliceBounds, g1], Nat.zero_le _, g2⟩
    | some x' =>
      cases lv with
      | none => exact hl.elim
      | some v' =>
      obtain ⟨g3, g4⟩ := boundA_some (P := P) h2 hl .sliceB h' (Nat.le_refl _) Γ.w
      exact ⟨by simp [Instr.sliceBounds, g1, g3], g4, g2⟩
/-- The bounds of a slice expression of three. -/
theorem bounds3 {len cap m' h' l' : Nat} {lo hi mx : Option AV} {lv hv mv : Option Value} (hlc : len ≤ cap) (hmx : mx.isSome = true) (hhi : hi.isSome = true) (h0 : boundA mx len len = some m') (h1 : boundA hi len m' = some h') (h2 : boundA lo 0 h' = some l')
    (hl : VO Γ lo lv) (hh : VO Γ hi hv) (hm : VO Γ mx mv) : (Instr.sliceBounds true len cap lv hv mv).run P Γ.w = .ok (l', h', m') Γ.w ∧ l' ≤ h' ∧ h' ≤ m' ∧ m' ≤ len := by
  cases mx with
  | none => cases hmx
  | some x =>
  cases hi with
  | none => cases hhi
  | some y =>
  cases mv with
  | none => exact hm.elim
  | some u =>
  cases hv with
  | none => exact hh.elim
  | some v =>
  obtain ⟨f1, f2⟩ := boundA_some (P := P) h0 hm .slice3Acap cap hlc Γ.w
  obtain ⟨g1, g2⟩ := boundA_some (P := P) h1 hh .slice3B m' (Nat.le_refl _) Γ.w
  cases lo with
  | none =>
    cases lv with
    | some _ => exact hl.elim
    | none =>
    simp [boundA] at h2; subst h2
    exact ⟨by simp [Instr.sliceBounds, f1, g1], Nat.zero_le _, g2, f2⟩
  | some x' =>
    cases lv with
    | none => exact hl.elim
    | some v' =>
    obtain ⟨g3, g4⟩ := boundA_some (P := P) h2 hl .slice3C h' (Nat.le_refl _) Γ.w
    exact ⟨by simp [Instr.sliceBounds, f1, g1, g3], g4, g2, f2⟩

theorem sliceA_ok {t : Nat} {x r : AV} {lo hi mx : Option AV} (h : sliceA P t Γ.s x lo hi mx = some r) {vx : Value} {lv hv mv : Option Value} (hx : V Γ x vx) (hl : VO Γ lo lv) (hh : VO Γ hi hv) (hm : VO Γ mx mv) :
    PureOk P (Instr.sliceAt t vx lv hv mv) Γ r := by
  unfold sliceA at h
  split at h
  · -- a text
    rename_i b ht
    split at h
    · cases h
    · rename_i hmx
      have : mx = none := by simpa using hmx
      subst this
      cases mv with
      | some _ => exact hm.elim
      | none =>
      simp only [Option.bind_eq_some_iff] at h
      obtain ⟨h', h1, l', h2, h3⟩ := h
      cases h3
      rw [V_str] at hx; subst hx
      obtain ⟨g1, g2, g3⟩ := bounds2 (P := P) (b := false) (Nat.le_refl _) (Nat.le_refl _) h1 h2 hl hh
      refine .mk ?_ (by simp [V, V0, vOf])
      have e : (⟨b.toArray⟩ : ByteArray).extract l' h' = ⟨((b.take h').drop l').toArray⟩ := by
        apply ByteArray.ext
        simp [ByteArray.data_extract, List.drop_take]
      simp only [Instr.sliceAt, Sem.run_bind, run_underlying (tk_str ht), Result.andThen_ok, Instr.slice, Option.isSome_none, Bool.false_eq_true, if_false, size_mk, Sem.run_pure, g1, e, vOf]
  · -- a slice that stays
    rename_i e xs len g ht
    split at h
    · cases h
    · rename_i hmx
      simp only [Option.bind_eq_some_iff] at h
      obtain ⟨m', h0, h', h1, l', h2, n, hn, h3⟩ := h
      split at h3
      · rename_i hxl
        cases h3
        obtain ⟨a, cap, rfl, hlc, hgt, hxs⟩ := sl_value hx
        have key : ∃ mc, (Instr.sliceBounds true len cap lv hv mv).run P Γ.w = .ok (l', h', mc) Γ.w ∧ l' ≤ h' ∧ h' ≤ len ∧ h' ≤ mc ∧ (mx.isSome = true → mc = m') ∧ (mx = none → mc = cap) ∧ (cap = 0 → mc = 0) := by
          cases mx with
          | none =>
            cases mv with
            | some _ => exact hm.elim
            | none =>
            simp [boundA] at h0; subst h0
            obtain ⟨g1, g2, g3⟩ := bounds2 (P := P) (b := true) hlc (Nat.le_refl _) h1 h2 hl hh
            exact ⟨cap, g1, g2, g3, by omega, by simp, fun _ => rfl, fun h => h⟩
          | some y =>
            have hhi : hi.isSome = true := by
              cases hi with
              | none => simp at hmx
              | some _ => rfl
            obtain ⟨g1, g2, g3, g4⟩ := bounds3 (P := P) hlc rfl hhi h0 h1 h2 hl hh hm
            exact ⟨m', g1, g2, by omega, g3, fun _ => rfl, by simp, by omega⟩
        obtain ⟨mc, g1, g2, g3, g4, g5, g6, g7⟩ := key
        refine ⟨.slice (if mc = l' then a else a.map (·.add (l' * n))) (h' - l') (mc - l'), ?_, V_cell ⟨_, mc - l', rfl, by omega, ?_, ?_, ?_⟩⟩
        · simp only [Instr.sliceAt, Sem.run_bind, run_underlying (tk_sl ht), Result.andThen_ok, Instr.slice, g1, Sem.run_pure, run_esz hn]
        · intro htg
          split at htg
          · rename_i hc
            rcases hc with ⟨hc1, hc2⟩ | ⟨hc1, hc2, hc3⟩
            · have := g5 hc1; omega
            · have h5 := hgt hc2; have h6 := g6 hc1; omega
          · cases htg
        · split <;> exact ⟨rfl, by simp⟩
        · rcases hxs with ⟨rfl, rfl, rfl⟩ | ⟨b, o, rfl, hc⟩
          · have := g7 rfl
            exact .inl ⟨by simp, by omega, by omega⟩
          · refine .inr ?_
            by_cases hml : mc = l'
            · refine ⟨b, o, by simp [hml], ?_⟩
              have : (xs.take (h' * n)).drop (l' * n) = [] := by
                apply List.drop_eq_nil_of_le
                have : h' = l' := by omega
                subst this
                simp; exact Nat.min_le_left _ _
              rw [this]; simp only [VC]
            · exact ⟨b, o + l' * n, by simp [hml, add_eq], (hc.take _).drop _⟩
      · cases h3
  · -- a slice of a block that may be written
    rename_i e p k off len e' ht
    split at h
    · cases h
    · rename_i hmx
      have hmx' : mx = none ∧ live Γ.s p k = true := by
        constructor
        · cases mx with
          | none => rfl
          | some _ => simp at hmx
        · simpa using fun hq => hmx (.inr hq)
      obtain ⟨rfl, hlv⟩ := hmx'
      cases mv with
      | some _ => exact hm.elim
      | none =>
      simp only [Option.bind_eq_some_iff] at h
      obtain ⟨h', h1, l', h2, n, hn, h3⟩ := h
      split at h3
      · rename_i hc
        obtain ⟨rfl, hll⟩ := hc
        cases h3
        obtain ⟨xs, cap, hxs, rfl, hlc, hcap, hser⟩ := own_value hx hlv
        obtain ⟨g1, g2, g3⟩ := bounds2 (P := P) (b := true) hlc (Nat.le_refl _) h1 h2 hl hh
        have hne : ¬ cap = l' := by omega
        refine ⟨.slice (some ⟨(Γ.φ p).blk, (Γ.φ p).base + off + l' * e', none⟩) (h' - l') (cap - l'), ?_, hser, fun ys hy => ⟨cap - l', by rw [Nat.add_assoc], by omega, ?_⟩⟩
        · simp only [Instr.sliceAt, Sem.run_bind, run_underlying (tk_sl ht), Result.andThen_ok, Instr.slice, g1, Sem.run_pure, run_esz hn, hne, if_false, Option.map_some, add_eq]
        · have : ys = xs := by rw [hxs] at hy; cases hy; rfl
          subst this
          have h5 : l' * e' + (cap - l') * e' = cap * e' := by rw [← Nat.add_mul]; congr 1; omega
          omega
      · cases h3
  · -- a slice of an array
    rename_i m e p k off ht
    split at h
    · cases h
    · rename_i hmx
      have : mx = none := by simpa using hmx
      subst this
      cases mv with
      | some _ => exact hm.elim
      | none =>
      simp only [Option.bind_eq_some_iff] at h
      obtain ⟨h', h1, l', h2, n, hn, xs, hxs, h3⟩ := h
      split at h3
      · rename_i hc
        cases h3
        have := hx.2 xs hxs
        subst this
        obtain ⟨g1, g2, g3⟩ := bounds2 (P := P) (b := false) (Nat.le_refl _) (Nat.le_refl _) h1 h2 hl hh
        have hne : ¬ m = l' := by omega
        refine ⟨.slice (some ⟨(Γ.φ p).blk, (Γ.φ p).base + off + l' * n, none⟩) (h' - l') (m - l'), ?_, hx.1, fun ys hy => ⟨m - l', by rw [Nat.add_assoc], by omega, ?_⟩⟩
        · simp only [Instr.sliceAt, Sem.run_bind, run_underlying (tk_arr ht), Result.andThen_ok, Instr.sureAddr, g1, Sem.run_pure, run_esz hn, hne, if_false, add_eq]
        · have : ys = xs := by rw [hxs] at hy; cases hy; rfl
          subst this
          have h5 : l' * n + (m - l') * n = m * n := by rw [← Nat.add_mul]; congr 1; omega
          omega
      · cases h3
  · cases h

/-! ### Conversions -/
theorem VL_bytes {S : Nat → Nat → Prop} {w : World} : ∀ (l : List UInt8), VL S w (cellsOfBytes l) (l.map fun b => Value.int .u8 b.toNat)
  | [] => VL.nil
  | b :: l => by simp only [cellsOfBytes, List.map_cons, VL]; exact ⟨_, _, rfl, rfl, by simp [V0], VL_bytes l⟩

theorem bytesOf_vals {S : Nat → Nat → Prop} {w : World} : ∀ (xs : List AV) (l : List UInt8) (vs : List Value), bytesOf xs = some l → VL S w xs vs → ∃ ns : List Int, vs = ns.map (Value.int .u8) ∧ l = ns.map fun n => UInt8.ofNat n.toNat
  | [], l, vs, h, hv => by
    simp [bytesOf] at h; subst h
    simp [VL] at hv; subst hv
    exact ⟨[], rfl, rfl⟩
  | x :: xs, l, vs, h, hv => by
    unfold bytesOf at h
    split at h
    · rename_i e; cases e
    · rename_i n r e
      cases e
      cases hr : bytesOf xs with
      | none => rw [hr] at h; cases h
      | some l' =>
        rw [hr] at h; cases h
        simp only [VL] at hv
        obtain ⟨v, r, rfl, _, h0, hr'⟩ := hv
        simp only [V0] at h0; subst h0
        obtain ⟨ns, rfl, rfl⟩ := bytesOf_vals xs l' r hr hr'
        exact ⟨n :: ns, rfl, rfl⟩
    · cases h

theorem foldl_push (ns : List Int) : ∀ s : ByteArray, ns.foldl (fun r n => r.push (UInt8.ofNat n.toNat)) s = ⟨(s.data.toList ++ ns.map fun n => UInt8.ofNat n.toNat).toArray⟩ := by
  induction ns with
  | nil => intro s; simp
  | cons n ns ih => intro s; simp only [List.foldl_cons, ih, List.map_cons]; simp [ByteArray.push]

theorem run_toString {xs : List AV} {l : List UInt8} {b o len cap : Nat} (hr : Reads Γ xs b o) (hl : xs.length = len) (hb : bytesOf xs = some l) :
    (Conv.bytesToString (.slice (some ⟨b, o, none⟩) len cap)).run P Γ.w = .ok (.string ⟨l.toArray⟩) Γ.w := by
  obtain ⟨vs, hv, hrun⟩ := hr.load (P := P)
  obtain ⟨ns, rfl, rfl⟩ := bytesOf_vals xs l vs hb hv
  rw [hl] at hrun
  have hlen : ns.length = len := by have := ((VL_iff _ _).1 hv).1; simp at this; omega
  rw [run_bytesToString Γ.w ⟨b, o, none⟩ len cap ns (by simpa using hrun)]
  rw [foldl_push]
  simp

theorem run_markStringish (w : World) (c : Array Value) (t : TypeId) (b : Nat) (hb : w.heap[b]? = some (.cells c t)) :
    ∃ w', (markStringish ⟨b, 0, none⟩).run P w = .ok () w' ∧ w'.os = w.os ∧ w'.tape = w.tape ∧ w'.output = w.output ∧ w'.heap.size = w.heap.size ∧ (∀ k, k ≠ b → w'.heap[k]? = w.heap[k]?) ∧ ∀ i, w'.cell? ⟨b, i, none⟩ = w.cell? ⟨b, i, none⟩ := by
  refine ⟨w.freeze { block := b, off := c.size } 1, ?_, ?_⟩
  · have hs : w.shape? b = some (t, c.size) := by simp [World.shape?, hb]
    simp [markStringish, hs]
  · refine ⟨rfl, rfl, rfl, by simp [World.freeze], fun k hk => ?_, fun i => ?_⟩
    · simp [World.freeze, Array.getElem?_modify, Ne.symm hk]
    · simp [World.freeze, World.cell?, Array.getElem?_modify, hb]

theorem convA_ok (hI : Inv Γ) {src dst : Nat} {x r : AV} (h : convA P src dst Γ.s x = some r) {vx : Value} (hx : V Γ x vx) : SemOk P (convert src dst vx) Γ Γ.s r := by
  unfold convA at h
  split at h
  · rename_i k0 k k1 n h1 h2
    rw [V_int] at hx; subst hx; cases h
    exact PureOk.sem (.mk (by simp [convert, run_underlying (tk_int h1), run_underlying (tk_int h2), Conv.intToInt, vOf]) (by simp [V, V0, vOf])) hI
  · rename_i b h1 h2
    rw [V_str] at hx; subst hx; cases h
    exact PureOk.sem (.mk (by simp [convert, run_underlying (tk_str h1), run_underlying (tk_str h2), vOf]) (by simp [V, V0, vOf])) hI
  · rename_i e b h1 h2
    split at h
    · rename_i h3
      split at h
      · rename_i hb
        cases h
        rw [V_str] at hx; subst hx
        let cap := (Question.appendCap b.length 0 e).cut (Γ.w.tape Γ.w.drawn (.appendCap b.length 0 e))
        have hcap : b.length ≤ cap := by simp only [cap, Question.cut]; omega
        let arr : Array Value := (List.map (fun b => Value.int .u8 b.toNat) b).toArray ++ Array.replicate (cap - b.length) (.int .u8 0)
        let w1 : World := Γ.w.drew.alloc (.cells arr e)
        obtain ⟨w', hrun, g1, g2, g3, g4, g5, g6⟩ := run_markStringish (P := P) w1 arr e Γ.w.heap.size (by show (Γ.w.heap.push _)[Γ.w.heap.size]? = _; simp)
        have hold : ∀ k, k < Γ.w.heap.size → w'.heap[k]? = Γ.w.heap[k]? := fun k hk => by
          rw [g5 k (by omega)]
          show (Γ.w.heap.push _)[k]? = _
          rw [Array.getElem?_push, if_neg (by omega)]
        obtain ⟨Γ', hs, hw, hI', hE, hvc⟩ := hI.row (w' := w') g1 g2 g3 (by rw [g4]; simp [w1]) hold (cellsOfBytes b) _ (VL_bytes b) (fun i v hv => by
          rw [g6 i]
          show (Γ.w.drew.alloc _).cell? ⟨Γ.w.drew.heap.size, i, none⟩ = _
          rw [World.cell?_alloc_new]
          have hi : i < b.length := by
            rcases Nat.lt_or_ge i b.length with h' | h'
            · exact h'
            · rw [List.getElem?_eq_none (by simpa using h')] at hv; cases hv
          simp only [arr]
          rw [Array.getElem?_append_left (by simpa using hi)]
          simpa using hv)
        refine ⟨.slice (some ⟨Γ.w.heap.size, 0, none⟩) b.length cap, Γ', ?_, hs, hI', hE, V_cell ⟨_, cap, rfl, hcap, by simp, ⟨rfl, by simp⟩, .inr ⟨Γ.w.heap.size, 0, rfl, hvc⟩⟩⟩
        rw [hw]
        have hnr : (newRow e arr).run P Γ.w.drew = .ok ⟨Γ.w.heap.size, 0, none⟩ w1 := by simp [newRow]; rfl
        simp [convert, run_underlying (tk_str h1), run_underlying (tk_sl h2), run_underlying (tk_int h3), Conv.stringToBytes, size_mk, Question.forced]
        show ((newRow e arr).run P Γ.w.drew).andThen _ = _
        rw [hnr]
        simp only [Result.andThen_ok, hrun]
        rfl
      · cases h
    · cases h
  · rename_i e xs len g h1 h2
    split at h
    · rename_i h3
      split at h
      · rename_i hl
        cases hb : bytesOf xs with
        | none => rw [hb] at h; cases h
        | some l =>
          rw [hb] at h; cases h
          obtain ⟨a, cap, rfl, _, _, hxs⟩ := sl_value hx
          refine PureOk.sem (.mk ?_ (by simp [V, V0, vOf])) hI
          rcases hxs with ⟨rfl, rfl, rfl⟩ | ⟨b, o, rfl, hc⟩
          · simp [bytesOf] at hb; subst hb
            cases a <;> simp [convert, run_underlying (tk_sl h1), run_underlying (tk_str h2), run_underlying (tk_int h3), Conv.bytesToString, loadCells, loadCellsFrom, vOf] <;> rfl
          · simp [convert, run_underlying (tk_sl h1), run_underlying (tk_str h2), run_underlying (tk_int h3), run_toString (.ofVC hc) hl hb, vOf]
      · cases h
    · cases h
  · rename_i e p k off len e' h1 h2
    split at h
    · rename_i h3
      simp only [Option.bind_eq_some_iff] at h
      obtain ⟨xs, hxs, h⟩ := h
      split at h
      · rename_i hl
        cases hb : bytesOf ((xs.drop off).take len) with
        | none => rw [hb] at h; cases h
        | some l =>
          rw [hb] at h; cases h
          obtain ⟨cap, rfl, _⟩ := hx.2 xs hxs
          refine PureOk.sem (.mk ?_ (by simp [V, V0, vOf])) hI
          have hr : Reads Γ ((xs.drop off).take len) (Γ.φ p).blk ((Γ.φ p).base + off) := (Reads.drop (hI.read hxs) off).take len
          simp [convert, run_underlying (tk_sl h1), run_underlying (tk_str h2), run_underlying (tk_int h3), run_toString (len := len) hr (by simp; omega) hb, vOf]
      · cases h
    · cases h
  · cases h
end
end Go.Ab
