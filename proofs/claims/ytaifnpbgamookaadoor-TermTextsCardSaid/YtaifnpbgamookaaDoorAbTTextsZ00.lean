/- Several texts put together: AbE, AbV, AbG, AbH, AbI, AbO, AbP. Conditions: as each part says. -/
import Derived.Calls
import Derived.Tactics
import Derived.Laws.Sem
import Derived.Laws.Cells
import Derived.Laws.Strings
import Derived.Laws.BytesString
/- The abstract evaluator: Go code run over trees of values instead of a heap; definitions only, no conditions. -/
namespace Go.Ab

inductive Grip where
  | tight | loose | nil | tok (p t : Nat)
  deriving DecidableEq, Inhabited

def Grip.isTok : Grip → Bool
  | .tok _ _ => true
  | _ => false

inductive AV where
  | undef
  | int (k : IntKind) (n : Int)
  | bool (b : Bool)
  | str (s : List UInt8)
  | agg (xs : List AV)
  | tup (xs : List AV)
  | sl (xs : List AV) (len : Nat) (g : Grip)
  | own (p t off len e : Nat)
  | ptr (p t off : Nat)
  /-- Results of which the first is a slice of a block that is being written. -/
  | tupo (p t off len e : Nat) (rest : List AV)
  /-- A struct whose last cell is a slice of a block that is being written. -/
  | aggo (pre : List AV) (p t off len e : Nat)
  /-- A slice of cells of size one of whom those behind its length are known. -/
  | slw (xs : List AV) (len : Nat)
  | rptr (xs : List AV)
  | nilp
  | fn (f : FuncId) (caps : List AV)
  | iface (t : TypeId) (v : AV)
  | nili
  deriving Inhabited

inductive Cell where
  | dead | buf (xs : List AV) | frz (xs : List AV) | tok (e : Nat)
  /-- A block that is being written, some cells of which hold slices whose room is ours: where they lie, what they are. -/
  | mix (xs : List AV) (hs : List (Nat × AV))
  deriving Inhabited

structure Ent where
  t : Nat
  c : Cell
  deriving Inhabited

abbrev St := Nat → Ent
abbrev Env := Nat → AV
def upd {α : Type} (f : Nat → α) (i : Nat) (v : α) : Nat → α := fun j => if j = i then v else f j

inductive Arg where
  | tree (v : AV) | ptr (xs : List AV) (off : Nat) | own (xs : List AV) (off len e : Nat) | tok (xs : List AV) (len e : Nat)
  deriving Inhabited
inductive Res where
  | tree (v : AV) | newp (xs : List AV) | own (xs : List AV) (len e : Nat) | tok (xs : List AV) (len e : Nat)
  /-- Several results, of which the first is a block that its caller may write. -/
  | owns (xs : List AV) (len e : Nat) (rest : List AV)
  deriving Inhabited
abbrev Out := Res × List (List AV)

structure Cfg where
  lin : FuncId → Nat → Bool
  keep : FuncId → Bool
  /-- What is known of functions that are not run. -/
  prim : FuncId → List Arg → Option Out
  /-- Where an append keeps what it makes writable. -/
  ownAt : String → Bool

def ofV1 : Value → AV
  | .int k n => .int k n
  | .bool b => .bool b
  | .string s => .str s.data.toList
  | .slice none 0 0 => .sl [] 0 .nil
  | .pointer none => .nilp
  | .nilIface => .nili
  | .func (.func f) ⟨[]⟩ ⟨[]⟩ => .fn f []
  | _ => .undef
def ofV : Value → AV
  | .agg cs => if cs.toList.all (fun v => v.oneCell') then .agg (cs.toList.map ofV1) else .undef
  | v => ofV1 v

section
variable (P : Program) (cfg : Cfg)

def byOf (t : TypeId) : Nat := ((P.info? t).map (·.bytes)).getD 0
def aggOf (t : TypeId) : Bool := match P.underlying t with | some (.struct _) | some (.array _ _) => true | _ => false
def shOf (t : TypeId) : Option (Bool × Nat) := match P.underlying t, P.info? t with
  | some _, some i => some (aggOf P t, i.size)
  | _, _ => none
def esz (t : TypeId) : Option Nat := match P.info? t with
  | some i => if 0 < i.size then some i.size else none
  | none => none
def zeroOf (t : TypeId) : Option (List AV) := match (P.info? t).bind (·.zero) with | some z => if z.cells.toList.all (fun v => v.oneCell') then some (z.cells.toList.map ofV1) else none | none => none
inductive TK where
  | int (k : IntKind) | bool | str | sl (e : TypeId) | arr (n : Nat) (e : TypeId) | st | ptr | fn | ifc | other
def tkOf (t : TypeId) : TK := match P.underlying t with
  | some (.int k) => .int k | some .bool => .bool | some .string => .str | some (.slice e) => .sl e | some (.array n e) => .arr n e
  | some (.struct _) => .st | some (.pointer _) => .ptr | some (.func _ _ _) => .fn | some (.interface _) => .ifc | _ => .other
def fieldOf (t : TypeId) (i : Nat) : Option (TypeId × Nat) := match P.underlying t with
  | some (.struct fs) => (fs[i]?).map fun f => (f.type, f.offset)
  | _ => none

def ev (env : Env) : Operand → AV
  | .tmp t => env t
  | .const v => ofV v
  | .global _ => .undef
  | .func f => .fn f []

def intA (op : BinOp) (k : IntKind) (a b : Int) : Option AV :=
  match op with
  | .add => some (.int k (k.wrap (a + b)))
  | .sub => some (.int k (k.wrap (a - b)))
  | .mul => some (.int k (k.wrap (a * b)))
  | .quo => if b = 0 then none else some (.int k (k.wrap (a.tdiv b)))
  | .rem => if b = 0 then none else some (.int k (a.tmod b))
  | .and => some (.int k (k.wrap (BitVec.ofInt k.bits a &&& BitVec.ofInt k.bits b).toNat))
  | .or => some (.int k (k.wrap (BitVec.ofInt k.bits a ||| BitVec.ofInt k.bits b).toNat))
  | .xor => some (.int k (k.wrap (BitVec.ofInt k.bits a ^^^ BitVec.ofInt k.bits b).toNat))
  | .andNot => some (.int k (k.wrap (BitVec.ofInt k.bits a &&& ~~~ BitVec.ofInt k.bits b).toNat))
  | .eql => some (.bool (a == b))
  | .neq => some (.bool (a != b))
  | .lss => some (.bool (decide (a < b)))
  | .leq => some (.bool (decide (a ≤ b)))
  | .gtr => some (.bool (decide (a > b)))
  | .geq => some (.bool (decide (a ≥ b)))
  | _ => none

def shA (op : BinOp) (k : IntKind) (a b : Int) : Option AV :=
  if b < 0 then none else
  match op with
  | .shl => some (.int k (k.wrap (a * 2 ^ (min b.toNat k.bits))))
  | .shr => some (.int k (a.fdiv (2 ^ (min b.toNat k.bits))))
  | _ => none

def strA (op : BinOp) (a b : List UInt8) : Option AV :=
  match op with
  | .add => if a.length + b.length ≤ 9223372036854775807 then some (.str (a ++ b)) else none
  | .eql => some (.bool (a == b))
  | .neq => some (.bool (!(a == b)))
  | .lss => some (.bool (Op.bytesLess a b))
  | .leq => some (.bool (Op.bytesLess a b || a == b))
  | .gtr => some (.bool (!(Op.bytesLess a b || a == b)))
  | .geq => some (.bool (!Op.bytesLess a b))
  | _ => none

def nilA : AV → Option Bool
  | .sl _ _ .nil => some true
  | .sl _ len _ => if 0 < len then some false else none
  | .rptr _ => some false
  | .nilp => some true
  | _ => none
def eqA (op : BinOp) (b : Option Bool) : Option AV := match op with
  | .eql => b.map .bool
  | .neq => b.map fun b => .bool (!b)
  | _ => none
def binA (op : BinOp) (t : TypeId) (x y : AV) : Option AV :=
  match x, y with
  | .int k a, .int k' b =>
    match op with
    | .shl | .shr => shA op k a b
    | _ => if k = k' then intA op k a b else none
  | .str a, .str b => strA op a b
  | .bool a, .bool b => match tkOf P t, op with
    | .bool, .eql => some (.bool (a == b))
    | .bool, .neq => some (.bool (!(a == b)))
    | _, _ => none
  | x, .sl [] 0 .nil => match tkOf P t, x with
    | .sl _, .sl .. => eqA op (nilA x)
    | _, _ => none
  | x, .nilp => match tkOf P t, x with
    | .ptr, .rptr _ | .ptr, .nilp => eqA op (nilA x)
    | _, _ => none
  | _, _ => none

def unA (op : UnOp) (x : AV) : Option AV :=
  match op, x with
  | .neg, .int k n => some (.int k (k.wrap (0 - n)))
  | .xor, .int k n => some (.int k (k.wrap (BitVec.ofInt k.bits (if k.signed then -1 else k.max) ^^^ BitVec.ofInt k.bits n).toNat))
  | .not, .bool b => some (.bool (!b))
  | _, _ => none

def bytesOf : List AV → Option (List UInt8)
  | [] => some []
  | .int .u8 n :: r => (bytesOf r).map (UInt8.ofNat n.toNat :: ·)
  | _ => none
def cellsOfBytes (l : List UInt8) : List AV := l.map fun b => .int .u8 b.toNat

def cellsAt (s : St) (p t : Nat) : Option (List AV) :=
  match s p with
  | ⟨t', .buf xs⟩ => if t' = t then some xs else none
  | ⟨t', .frz xs⟩ => if t' = t then some xs else none
  | ⟨t', .mix xs _⟩ => if t' = t then some xs else none
  | _ => none

def live (s : St) (p t : Nat) : Bool := (cellsAt s p t).isSome

def convA (src dst : TypeId) (s : St) (x : AV) : Option AV :=
  match tkOf P src, tkOf P dst, x with
  | .int _, .int k, .int _ n => some (.int k (k.wrap n))
  | .str, .str, .str b => some (.str b)
  | .str, .sl e, .str b => match tkOf P e with
    | .int .u8 => if b.length ≤ 140737488355328 then some (.sl (cellsOfBytes b) b.length .loose) else none
    | _ => none
  | .sl e, .str, .sl xs len _ => match tkOf P e with
    | .int .u8 => if xs.length = len then (bytesOf xs).map .str else none
    | _ => none
  | .sl e, .str, .own p t off len _ => match tkOf P e with
    | .int .u8 => (cellsAt s p t).bind fun xs => if off + len ≤ xs.length then (bytesOf ((xs.drop off).take len)).map .str else none
    | _ => none
  | _, _, _ => none

def partA (t : TypeId) (xs : List AV) (off : Nat) : Option AV :=
  match shOf P t with
  | some (true, n) => if off + n ≤ xs.length then some (.agg ((xs.drop off).take n)) else none
  | some (false, _) => xs[off]?
  | none => none

def heldL (off : Nat) : List (Nat × AV) → Option AV
  | [] => none
  | (o, v) :: r => if o = off then some v else heldL off r
def ldC (t : TypeId) (e : Ent) (i off : Nat) : Option AV :=
  match e with
  | ⟨t', .buf xs⟩ => if t' = i then partA P t xs off else none
  | ⟨t', .frz xs⟩ => if t' = i then partA P t xs off else none
  | ⟨t', .mix xs hs⟩ => if t' = i then (match shOf P t with
    | some (false, _) => match heldL off hs with
      | some v => some v
      | none => partA P t xs off
    | some (true, n) => match heldL (off + n - 1) hs with
      | some (.own q u o len e) => if 1 ≤ n ∧ off + n ≤ xs.length then some (.aggo ((xs.drop off).take (n - 1)) q u o len e) else none
      | _ => partA P t xs off
    | none => none) else none
  | _ => none
def loadA (t : TypeId) (s : St) (a : AV) : Option AV :=
  match a with
  | .rptr xs => partA P t xs 0
  | .ptr p i off => ldC P t (s p) i off
  | _ => none

def cellOk : AV → Bool
  | .agg _ | .tup _ | .undef | .own .. | .ptr .. | .tupo .. | .aggo .. | .slw .. | .fn .. => false
  | _ => true

def settle (s : St) (v : AV) : Option (AV × St) :=
  match v with
  | .own p t off len e => match s p with
    | ⟨t', .buf xs⟩ => if t' = t ∧ off + len * e ≤ xs.length then some (.sl ((xs.drop off).take (len * e)) len .loose, upd s p ⟨t', .frz xs⟩) else none
    | ⟨t', .frz xs⟩ => if t' = t ∧ off + len * e ≤ xs.length then some (.sl ((xs.drop off).take (len * e)) len .loose, s) else none
    | _ => none
  | .sl xs len (.tok _ _) => some (.sl xs len .loose, s)
  | .ptr .. => none
  | .tupo .. => none
  | .slw .. => none
  | .aggo pre p t off len e => match s p with
    | ⟨t', .buf xs⟩ => if t' = t ∧ off + len * e ≤ xs.length then some (.agg (pre ++ [.sl ((xs.drop off).take (len * e)) len .loose]), upd s p ⟨t', .frz xs⟩) else none
    | ⟨t', .frz xs⟩ => if t' = t ∧ off + len * e ≤ xs.length then some (.agg (pre ++ [.sl ((xs.drop off).take (len * e)) len .loose]), s) else none
    | _ => none
  | v => some (v, s)

def settled (v : AV) : Option AV :=
  match v with
  | .own .. | .ptr .. | .tupo .. | .aggo .. | .slw .. => none
  | .sl xs len (.tok _ _) => some (.sl xs len .loose)
  | v => some v

def splice (xs : List AV) (off : Nat) (ys : List AV) : List AV := xs.take off ++ ys ++ xs.drop (off + ys.length)

def storeA (t : TypeId) (s : St) (a v : AV) : Option St :=
  match a with
  | .ptr p i off => (settle s v).bind fun (v, s) => match s p with
    | ⟨t', .buf xs⟩ =>
      if t' = i then
        match v with
        | .agg ys => if esz P t = some ys.length ∧ off + ys.length ≤ xs.length then some (upd s p ⟨t', .buf (splice xs off ys)⟩) else none
        | v => if cellOk v ∧ esz P t = some 1 ∧ off < xs.length then some (upd s p ⟨t', .buf (xs.set off v)⟩) else none
      else none
    | _ => none
  | _ => none

def storeH (t : TypeId) (s : St) (a v : AV) : Option St :=
  match a, v with
  | .ptr p i off, .sl ys len (.tok q u) => match s p with
    | ⟨t', .buf xs⟩ => if t' = i ∧ esz P t = some 1 ∧ off < xs.length then some (upd s p ⟨t', .mix (xs.set off (.sl ys len .loose)) [(off, .sl ys len (.tok q u))]⟩) else none
    | ⟨t', .mix xs hs⟩ => if t' = i ∧ esz P t = some 1 ∧ off < xs.length then some (upd s p ⟨t', .mix (xs.set off (.sl ys len .loose)) ((off, .sl ys len (.tok q u)) :: hs.filter fun h => h.1 != off)⟩) else none
    | _ => none
  | .ptr p i off, .aggo pre q u o len e => match s p with
    | ⟨t', .buf xs⟩ => if t' = i ∧ esz P t = some (pre.length + 1) ∧ off + (pre.length + 1) ≤ xs.length then some (upd s p ⟨t', .mix (splice xs off (pre ++ [.undef])) [(off + pre.length, .own q u o len e)]⟩) else none
    | _ => none
  | _, _ => none

def fieldAddrA (t : TypeId) (s : St) (x : AV) (i : Nat) : Option AV :=
  match fieldOf P t i with
  | some (ft, o) => match esz P ft, x with
    | some _, .ptr p k off => if live s p k then some (.ptr p k (off + o)) else none
    | some _, .rptr xs => some (.rptr (xs.drop o))
    | _, _ => none
  | none => none
def fieldA (t : TypeId) (x : AV) (i : Nat) : Option AV :=
  match fieldOf P t i, x with
  | some (ft, o), .agg xs => partA P ft xs o
  | _, _ => none

def indexAddrA (t : TypeId) (s : St) (x ix : AV) : Option AV :=
  match tkOf P t, x, ix with
  | .sl e, .sl xs len _, .int _ i => (esz P e).bind fun n => if 0 ≤ i ∧ i < len then some (.rptr (xs.drop (i.toNat * n))) else none
  | .sl e, .own p k off len _, .int _ i => (esz P e).bind fun n => if live s p k = true ∧ 0 ≤ i ∧ i < len then some (.ptr p k (off + i.toNat * n)) else none
  | .arr m e, .ptr p k off, .int _ i => (esz P e).bind fun n => if live s p k = true ∧ 0 ≤ i ∧ i < m then some (.ptr p k (off + i.toNat * n)) else none
  | .arr m e, .rptr xs, .int _ i => (esz P e).bind fun n => if 0 ≤ i ∧ i < m then some (.rptr (xs.drop (i.toNat * n))) else none
  | _, _, _ => none
def indexA (t : TypeId) (x ix : AV) : Option AV :=
  match tkOf P t, x, ix with
  | .arr m e, .agg xs, .int _ i => (esz P e).bind fun n => if 0 ≤ i ∧ i < m then partA P e xs (i.toNat * n) else none
  | .str, .str b, .int _ i => if 0 ≤ i ∧ i < b.length then some (.int .u8 (b.getD i.toNat 0).toNat) else none
  | _, _, _ => none

def boundA (x : Option AV) (d : Nat) (y : Nat) : Option Nat :=
  match x with
  | none => some d
  | some (.int _ i) => if 0 ≤ i ∧ i ≤ y then some i.toNat else none
  | some _ => none
def sliceA (t : TypeId) (s : St) (x : AV) (lo hi mx : Option AV) : Option AV :=
  match tkOf P t, x with
  | .str, .str b => if mx.isSome then none else
    (boundA hi b.length b.length).bind fun h => (boundA lo 0 h).bind fun l => some (.str ((b.take h).drop l))
  | .sl e, .sl xs len g =>
    if mx.isSome ∧ hi.isNone then none else
    (boundA mx len len).bind fun m => (boundA hi len m).bind fun h => (boundA lo 0 h).bind fun l => (esz P e).bind fun n =>
      if xs.length = len * n then
      some (.sl ((xs.take (h * n)).drop (l * n)) (h - l) (if (mx.isSome ∧ m = h) ∨ (mx = none ∧ (g = .tight ∨ g = .nil) ∧ h = len) then .tight else .loose)) else none
  | .sl e, .slw xs len =>
    if mx.isSome then none else
    (boundA hi len xs.length).bind fun h => (boundA lo 0 h).bind fun l => (esz P e).bind fun n =>
      if n = 1 ∧ l < xs.length then some (.sl ((xs.take h).drop l) (h - l) .loose) else none
  | .sl e, .own p k off len e' =>
    if mx.isSome ∨ live s p k = false then none else
    (boundA hi len len).bind fun h => (boundA lo 0 h).bind fun l => (esz P e).bind fun n =>
      if e' = n ∧ l < len then some (.own p k (off + l * n) (h - l) n) else none
  | .arr m e, .ptr p k off =>
    if mx.isSome then none else
    (boundA hi m m).bind fun h => (boundA lo 0 h).bind fun l => (esz P e).bind fun n => (cellsAt s p k).bind fun xs =>
      if l < m ∧ off + m * n ≤ xs.length then some (.own p k (off + l * n) (h - l) n) else none
  | _, _ => none

def sliceW (t : TypeId) (x : AV) (lo hi mx : Option AV) : Option AV :=
  match tkOf P t, x with
  | .sl e, .sl xs len _ =>
    if mx.isSome ∨ lo.isSome then none else
    (boundA hi len len).bind fun h => (esz P e).bind fun n =>
      if n = 1 ∧ xs.length = len ∧ 0 < len then some (.slw xs h) else none
  | _, _ => none
def sliceY (w : Bool) (t : TypeId) (s : St) (x : AV) (lo hi mx : Option AV) : Option AV :=
  if w = true then sliceW P t x lo hi mx else sliceA P t s x lo hi mx
def lenA (t : TypeId) (s : St) (x : AV) : Option AV :=
  match tkOf P t, x with
  | .str, .str b => some (.int .i64 b.length)
  | .sl _, .sl _ len _ => some (.int .i64 len)
  | .sl _, .own p t _ len _ => if live s p t then some (.int .i64 len) else none
  | .arr n _, _ => some (.int .i64 n)
  | _, _ => none

def cellsOf : AV → Option (List AV)
  | .agg xs => some xs
  | v => if cellOk v then some [v] else none

def fillA (place : Nat → Option (Nat × Nat)) (cs : List AV) : List (Nat × AV) → Option (List AV)
  | [] => some cs
  | (i, v) :: r => match place i, (settled v).bind cellsOf with
    | some (off, size), some ys => if ys.length = size ∧ off + size ≤ cs.length then fillA place (splice cs off ys) r else none
    | _, _ => none
def placesA (t : TypeId) : Option (List (Nat × Nat)) := match P.underlying t with
  | some (.struct fs) => fs.toList.mapM fun f => (P.info? f.type).map fun i => (f.offset, i.size)
  | _ => none
def buildG (t : TypeId) (ps : List (Nat × AV)) : Option AV := match tkOf P t, ps.getLast? with
  | .st, some (i, .own q u o len e) => (zeroOf P t).bind fun z => (placesA P t).bind fun pl => match pl[i]? with
    | some (off, 1) => if off + 1 = z.length then (fillA (fun i => pl[i]?) z ps.dropLast).map fun r => .aggo (r.take off) q u o len e else none
    | _ => none
  | _, _ => none
def rep (n : Nat) (z : List AV) : List AV := (List.replicate n z).flatten

def max2A : AV → AV → Option AV
  | .int k x, .int _ y => some (.int k (if y > x then y else x))
  | _, _ => none
def min2A : AV → AV → Option AV
  | .int k x, .int _ y => some (.int k (if y < x then y else x))
  | _, _ => none
def foldA (f : AV → AV → Option AV) : AV → List AV → Option AV
  | x, [] => some x
  | x, y :: r => (f x y).bind fun z => foldA f z r

def baseA (e : Nat) (s : St) (x : AV) : Option (List AV × Nat × St) :=
  match x with
  | .sl xs len .tight | .sl xs len .nil => if xs.length = len * e then some (xs, len, s) else none
  | .sl xs len (.tok p t) => match s p with
    | ⟨t', .tok e'⟩ => if t' = t ∧ e' = e ∧ xs.length = len * e then some (xs, len, upd s p ⟨t', .dead⟩) else none
    | _ => none
  | .own p t off len e' => match s p with
    | ⟨t', .buf xs⟩ => if t' = t ∧ e' = e ∧ off + len * e = xs.length then some (xs.drop off, len, upd s p ⟨t', .frz xs⟩) else none
    | _ => none
  | _ => none
def moreA (el : TypeId) (n : Nat) (ty : Option TypeId) (s : St) (x : AV) : Option (List AV × Nat) :=
  match ty.map (tkOf P), x with
  | some (.int _), .int .i64 k => (zeroOf P el).bind fun z => if 0 ≤ k ∧ k < 2147483648 ∧ byOf P el ≤ 65536 ∧ z.length = n then some (rep k.toNat z, k.toNat) else none
  | some (.sl _), .sl xs len _ => if xs.length = len * n then some (xs, len) else none
  | some (.sl _), .own p t off len e => (cellsAt s p t).bind fun xs => if e = n ∧ off + len * n ≤ xs.length then some ((xs.drop off).take (len * n), len) else none
  | some .str, .str b => if n = 1 then some (cellsOfBytes b, b.length) else none
  | _, _ => none
def appendA (at_ : Array TypeId) (d : Nat) (s : St) (x y : AV) : Option (AV × St) :=
  match (at_[0]?).map (tkOf P) with
  | some (.sl el) => (esz P el).bind fun e => (moreA P el e at_[1]? s y).bind fun (ys, n) => (baseA e s x).bind fun (xs, len, s) =>
    if (len + n) * byOf P el ≤ 140737488355328 ∧ len + n ≤ 9223372036854775807 ∧ (zeroOf P el).map List.length = some e then
      some (.sl (xs ++ ys) (len + n) (.tok d ((s d).t + 1)), upd s d ⟨(s d).t + 1, .tok e⟩) else none
  | _ => none
def appendX (C : Nat → Nat → Bool) (at_ : Array TypeId) (d : Nat) (s : St) (x y : AV) : Option (AV × St) :=
  match (at_[0]?).map (tkOf P) with
  | some (.sl el) => (esz P el).bind fun e => (moreA P el e at_[1]? s y).bind fun (ys, n) => (baseA e s x).bind fun (xs, len, s) =>
    if C (len + n) (byOf P el) = true ∧ len + n ≤ 9223372036854775807 ∧ (zeroOf P el).map List.length = some e then
      some (.sl (xs ++ ys) (len + n) (.tok d ((s d).t + 1)), upd s d ⟨(s d).t + 1, .tok e⟩) else none
  | _ => none
def wideC (a b : Nat) : Bool := b == 1 && decide (a ≤ 150000000000000)
def appendW (at_ : Array TypeId) (d : Nat) (s : St) (x y : AV) : Option (AV × St) := appendX P wideC at_ d s x y
def appendO (at_ : Array TypeId) (d : Nat) (s : St) (x y : AV) : Option (AV × St) :=
  match (at_[0]?).map (tkOf P) with
  | some (.sl el) => (esz P el).bind fun e => (moreA P el e at_[1]? s y).bind fun (ys, n) =>
    if (zeroOf P el).map List.length = some e then
      match x with
      | .sl [] 0 g => if (g = .nil ∨ g = .tight) ∧ 1 ≤ n ∧ n * byOf P el ≤ 140737488355328 ∧ n ≤ 9223372036854775807 then
          some (.own d ((s d).t + 1) 0 n e, upd s d ⟨(s d).t + 1, .buf ys⟩) else none
      | .own p t off len e' => match s p with
        | ⟨t', .buf xs⟩ => if t' = t ∧ e' = e ∧ off = 0 ∧ xs.length = len * e ∧ (len + n) * byOf P el ≤ 140737488355328 ∧ len + n ≤ 9223372036854775807 then
            some (.own d ((s d).t + 1) 0 (len + n) e, upd (upd s p ⟨t', .dead⟩) d ⟨(s d).t + 1, .buf (xs ++ ys)⟩) else none
        | _ => none
      | _ => none
    else none
  | _ => none
def copyA (at_ : Array TypeId) (s : St) (x y : AV) : Option (AV × St) :=
  match (at_[0]?).map (tkOf P), at_[1]?.map (tkOf P), x with
  | some (.sl el), some k, .own p t off len e => (esz P el).bind fun n => (match k with | .sl _ | .str => moreA P el n at_[1]? s y | _ => none).bind fun (ys, m) => match s p with
    | ⟨t', .buf xs⟩ => if t' = t ∧ e = n ∧ off + len * e ≤ xs.length then
        some (.int .i64 (Nat.min m len : Nat), upd s p ⟨t', .buf (splice xs off (ys.take (Nat.min m len * e)))⟩) else none
    | _ => none
  | _, _, _ => none

def makeA (t : TypeId) (d : Nat) (s : St) (l c : AV) : Option (AV × St) :=
  match tkOf P t, l, c with
  | .sl e, .int .i64 l, .int .i64 c => (esz P e).bind fun n => (zeroOf P e).bind fun z =>
    if 0 ≤ l ∧ l ≤ c ∧ c ≤ 2147483648 ∧ byOf P e ≤ 65536 ∧ z.length = n then
      some (.own d ((s d).t + 1) 0 l.toNat n, upd s d ⟨(s d).t + 1, .buf (rep l.toNat z)⟩) else none
  | _, _, _ => none

def argA (f : FuncId) (s : St) (j : Nat) (v : AV) : Option Arg :=
  match v with
  | .ptr p t off => match s p with
    | ⟨t', .buf xs⟩ => if t' = t then some (.ptr xs off) else none
    | ⟨t', .frz xs⟩ => if t' = t then some (.tree (.rptr (xs.drop off))) else none
    | _ => none
  | .own p t off len e => (cellsAt s p t).bind fun xs => if off + len * e ≤ xs.length then
      (if cfg.lin f j then (match (s p).c with | .buf _ => some (.own xs off len e) | _ => none) else (match (s p).c with | .mix .. => none | _ => some (.tree (.sl ((xs.drop off).take (len * e)) len .loose)))) else none
  | .sl xs len (.tok p t) => if cfg.lin f j then match s p with
      | ⟨t', .tok e⟩ => if t' = t ∧ xs.length = len * e then some (.tok xs len e) else none
      | _ => none
    else some (.tree (.sl xs len .loose))
  | .tupo .. => none
  | .aggo .. => none
  | .slw xs len => some (.tree (.sl (xs.take len) len .loose))
  | v => some (.tree v)
def argsA (f : FuncId) (s : St) : Nat → List AV → Option (List Arg)
  | _, [] => some []
  | j, v :: r => (argA cfg f s j v).bind fun a => (argsA f s (j + 1) r).map (a :: ·)
def givesOf : AV → Arg → Option Nat
  | .ptr p _ _, .ptr .. => some p
  | .own p _ _ _ _, .own .. => some p
  | .sl _ _ (.tok p _), .tok .. => some p
  | _, _ => none
def lendsOf : AV → Arg → Option Nat
  | .own p _ _ _ _, .tree _ => some p
  | _, _ => none
def givesL : List AV → List Arg → List Nat
  | v :: vs, a :: as1 => match givesOf v a with | some p => p :: givesL vs as1 | none => givesL vs as1
  | _, _ => []
def lendsL : List AV → List Arg → List Nat
  | v :: vs, a :: as1 => match lendsOf v a with | some p => p :: lendsL vs as1 | none => lendsL vs as1
  | _, _ => []
def flat : AV → Bool
  | .int .. | .bool _ | .str _ | .nilp | .nili => true
  | _ => false
def flatR : Res → Bool
  | .tree (.tup vs) => vs.all flat
  | .tree v => flat v
  | _ => false
def frzAt (s : St) (p : Nat) : St := match s p with
  | ⟨t, .buf xs⟩ => upd s p ⟨t, .frz xs⟩
  | _ => s
def backA : St → List AV → List Arg → List (List AV) → Option St
  | s, v :: vs, a :: as1, o :: os => match givesOf v a with
    | none => backA s vs as1 os
    | some p => match a with
      | .tok .. => backA (upd s p ⟨(s p).t, .dead⟩) vs as1 os
      | _ => backA (upd s p ⟨(s p).t, .buf o⟩) vs as1 os
  | s, [], [], [] => some s
  | _, _, _, _ => none
def resA (d : Nat) (s : St) : Res → Option (AV × St)
  | .tree v => some (v, s)
  | .newp xs => some (.ptr d ((s d).t + 1) 0, upd s d ⟨(s d).t + 1, .buf xs⟩)
  | .own xs len e => some (.own d ((s d).t + 1) 0 len e, upd s d ⟨(s d).t + 1, .buf xs⟩)
  | .tok xs len e => some (.sl xs len (.tok d ((s d).t + 1)), upd s d ⟨(s d).t + 1, .tok e⟩)
  | .owns xs len e rest => some (.tupo d ((s d).t + 1) 0 len e rest, upd s d ⟨(s d).t + 1, .buf xs⟩)
def callA (call : FuncId → List Arg → Option Out) (d : Nat) (s : St) (f : FuncId) (vs : List AV) : Option (AV × St) :=
  (argsA cfg f s 0 vs).bind fun as1 =>
    if (givesL vs as1).Nodup ∧ (∀ p ∈ lendsL vs as1, p ∉ givesL vs as1) then
      (call f as1).bind fun (r, os) => (backA (if flatR r && (givesL vs as1).isEmpty then s else (lendsL vs as1).foldl frzAt s) vs as1 os).bind fun s => resA d s r
    else none

def isTree : AV → Bool
  | .own .. | .ptr .. | .tupo .. | .aggo .. | .slw .. | .sl _ _ (.tok _ _) => false
  | _ => true
def isLent : AV → Bool
  | .own .. | .ptr .. | .tupo .. | .aggo .. => false
  | _ => true
def loosen : AV → AV
  | .sl xs len (.tok _ _) => .sl xs len .loose
  | .slw xs len => .sl (xs.take len) len .loose
  | v => v
def callQ (call : FuncId → List Arg → Option Out) (f : FuncId) (vs : List AV) : Option AV :=
  if vs.all isTree then (call f (vs.map .tree)).bind fun (r, _) => match r with
    | .tree v => some v
    | _ => none
  else if vs.all isLent then (call f (vs.map fun v => .tree (loosen v))).bind fun (r, _) => match r with
    | .tree v => some v
    | _ => none
  else none

def loudC (keep : FuncId → Bool) (o : Oper) : Bool := match o.op with
  | .call c => match c.callee with
    | .value (.func f) => keep (f + 1048576)
    | _ => false
  | _ => false
def freshD (keep : FuncId → Bool) (o : Oper) : Option Nat :=
  match o.guard with
  | some _ => none
  | none => match o.op with
    | .alloc _ | .makeSlice .. => o.dst
    | .call c => match c.callee with
      | .value (.func f) => if keep (f + 1048576) then none else if keep f then o.dst else none
      | .builtin .append => match c.args.toList with
        | [.const (.slice none 0 0), _] => o.dst
        | _ => none
      | _ => none
    | _ => none
def killD (s : St) (d : Nat) : St := upd s d ⟨(s d).t, .dead⟩
def killF (keep : FuncId → Bool) : List Oper → St → St
  | [], s => s
  | o :: r, s => killF keep r (match freshD keep o with | some d => killD s d | none => s)

def killI (keep : FuncId → Bool) (draw : Bool) (l : List Oper) (s : St) : St := match draw with
  | true => killF keep l s
  | false => s

def settleP (s : St) : List (Nat × AV) → Option (List (Nat × AV) × St)
  | [] => some ([], s)
  | (i, v) :: r => (settle s v).bind fun (v, s) => (settleP s r).map fun (r, s) => ((i, v) :: r, s)
def quietV (quiet : Bool) (v : AV) : AV := match quiet with
  | false => v
  | true => match v with
    | .own .. | .ptr .. => .undef
    | v => v
def opA (call : FuncId → List Arg → Option Out) (quiet : Bool) (o : Oper) (d : Nat) (env : Env) (s : St) : Option (AV × St) :=
  let q (v : Option AV) : Option (AV × St) := v.map (·, s)
  match o.op with
  | .move x | .assign x => some (ev env x, s)
  | .pick c a b => match ev env c with
    | .bool c => some (if c then ev env a else ev env b, s)
    | _ => none
  | .binOp op t x y _ => q (binA P op t (ev env x) (ev env y))
  | .unOp op _ x => q (unA op (ev env x))
  | .convert src dst x => q (convA P src dst s (ev env x))
  | .extract t i => match ev env t with
    | .tup vs => q vs[i]?
    | .tupo p t off len e rest => q (match i with | 0 => some (.own p t off len e) | i + 1 => rest[i]?)
    | _ => none
  | .load t a => q (loadA P t s (ev env a))
  | .store t a x => if cfg.ownAt ("=" ++ o.pos) = true then (storeH P t s (ev env a) (ev env x)).map (AV.tup [], ·) else (storeA P t s (ev env a) (ev env x)).map (AV.tup [], ·)
  | .fieldAddr t x i => q (fieldAddrA P t s (ev env x) i)
  | .field t x i => q (fieldA P t (ev env x) i)
  | .indexAddr t x i => q (indexAddrA P t s (ev env x) (ev env i))
  | .index t x i => q (indexA P t (ev env x) (ev env i))
  | .slice t x lo hi mx => q (sliceY P (cfg.ownAt ("/" ++ o.pos)) t s (quietV quiet (ev env x)) (lo.map (ev env)) (hi.map (ev env)) (mx.map (ev env)))
  | .nilCheck x => match ev env x with
    | .ptr p t off => if live s p t then some (.ptr p t off, s) else none
    | .rptr xs => some (.rptr xs, s)
    | _ => none
  | .build t parts => if cfg.ownAt ("#" ++ o.pos) = true then (if quiet = true then none else (settleP s (parts.toList.map fun (i, x) => (i, ev env x))).bind fun (ps, s) => (zeroOf P t).bind fun z => match tkOf P t with
      | .st => (placesA P t).bind fun pl => ((fillA (fun i => pl[i]?) z ps).map AV.agg).map (·, s)
      | _ => none) else if cfg.ownAt ("&" ++ o.pos) = true then q (buildG P t (parts.toList.map fun (i, x) => (i, ev env x))) else (zeroOf P t).bind fun z => match tkOf P t with
    | .st => (placesA P t).bind fun pl => q ((fillA (fun i => pl[i]?) z (parts.toList.map fun (i, x) => (i, ev env x))).map .agg)
    | .arr _ e => (esz P e).bind fun n => q ((fillA (fun i => some (i * n, n)) z (parts.toList.map fun (i, x) => (i, ev env x))).map .agg)
    | _ => none
  | .buildSlice t len parts => match tkOf P t with
    | .sl e => (esz P e).bind fun n => (zeroOf P e).bind fun z => if z.length = n ∧ len * n ≤ 4096 then
        q ((fillA (fun i => some (i * n, n)) (rep len z) (parts.toList.map fun (i, x) => (i, ev env x))).map (.sl · len .tight)) else none
    | _ => none
  | .makeSlice t l c => makeA P t d s (ev env l) (ev env c)
  | .alloc t => (zeroOf P t).map fun z => (.ptr d ((s d).t + 1) 0, upd s d ⟨(s d).t + 1, .buf z⟩)
  | .box _ x => if cfg.ownAt ("@" ++ o.pos) = true then (settled (ev env x)).bind fun v => (cellsOf v).map fun xs => (.rptr xs, s) else (settle s (ev env x)).bind fun (v, s) => (cellsOf v).map fun xs => (.ptr d ((s d).t + 1) 0, upd s d ⟨(s d).t + 1, .buf xs⟩)
  | .makeInterface t x => (settled (ev env x)).bind fun v => match tkOf P t with | .ifc | .other => none | _ => some (.iface t v, s)
  | .call c => match c.callee with
    | .builtin .len => match c.args.toList, c.argTypes[0]? with
      | [x], some t => q (lenA P t s (ev env x))
      | _, _ => none
    | .builtin .append => match c.args.toList with
      | [x, y] => if (quiet && (freshD cfg.keep o).isSome && !isTree (ev env y)) = true then none else if (!quiet && cfg.ownAt o.pos) = true then appendO P c.argTypes d s (ev env x) (ev env y) else if (!quiet && cfg.ownAt ("^" ++ o.pos)) = true then appendW P c.argTypes d s (ev env x) (ev env y) else appendA P c.argTypes d s (ev env x) (ev env y)
      | _ => none
    | .builtin .copy => match c.args.toList with
      | [x, y] => copyA P c.argTypes s (ev env x) (ev env y)
      | _ => none
    | .builtin .max => match c.args.toList with
      | x :: r => q (foldA max2A (ev env x) (r.map (ev env)))
      | _ => none
    | .builtin .min => match c.args.toList with
      | x :: r => q (foldA min2A (ev env x) (r.map (ev env)))
      | _ => none
    | .value f => match ev env f with
      | .fn f caps => if quiet then (if loudC cfg.keep o then callA cfg call d s f (c.args.toList.map (ev env) ++ caps) else if (freshD cfg.keep o).isSome then (if (c.args.toList.map (ev env) ++ caps).all isTree then callA cfg call d s f (c.args.toList.map (ev env) ++ caps) else none) else q (callQ call f (c.args.toList.map (ev env) ++ caps))) else callA cfg call d s f (c.args.toList.map (ev env) ++ caps)
      | _ => none
    | _ => none
  | _ => none

def loudA (o : Oper) : Bool :=
  match o.op with
  | .store .. | .makeSlice .. | .alloc _ | .box .. => true
  | .call c => match c.callee with
    | .builtin .append | .builtin .copy => true
    | _ => false
  | _ => false
def setO (env : Env) (d : Option Tmp) (v : AV) : Env := match d with | some d => upd env d v | none => env
def wantA (ops : Array Oper) (o : Oper) (env : Env) : Option Bool :=
  match o.guard with
  | none => some true
  | some (j, want) => match (ops[j]?).bind (·.dst) with
    | none => none
    | some d => match env d with
      | .bool b => some (b == want)
      | .tup _ => some false
      | _ => none
def opsA (call : FuncId → List Arg → Option Out) (quiet : Bool) (ops : Array Oper) : List Oper → Env → St → Option (Env × St)
  | [], env, s => some (env, s)
  | o :: r, env, s => match wantA ops o env with
    | some true => (opA P cfg call quiet o (o.dst.getD 0) env s).bind fun (v, s) => opsA call quiet ops r (setO env o.dst v) s
    | some false => opsA call quiet ops r (setO env o.dst (.tup [])) s
    | none => none

def noH (p : Nat) : AV → Bool
  | .own q _ _ _ _ => q != p
  | .ptr q _ _ => q != p
  | .sl _ _ (.tok q _) => q != p
  | .aggo _ q _ _ _ _ => q != p
  | .tupo q _ _ _ _ _ => q != p
  | .fn _ caps => caps.isEmpty
  | _ => true
def gotoOk (env : Env) (t : Nat) : Bool := if t < 1048576 then isTree (env t)
  else if t < 1099511627776 then (match env (t / 1048576 - 1), env (t % 1048576) with
    | .rptr _, _ => true
    | .ptr p _ _, .ptr q _ _ => !(p == q)
    | _, _ => false)
  else if t < 1152921504606846976 then isTree (env (t - 1099511627776))
  else if t < 2305843009213693952 then (match env ((t - 1152921504606846976) / 1048576) with
    | .rptr _ => true
    | .ptr p _ _ => noH p (env ((t - 1152921504606846976) % 1048576))
    | _ => false)
  else (match env ((t - 2305843009213693952) / 1048576) with
    | .rptr _ => true
    | .ptr p _ _ => p != (t - 2305843009213693952) % 1048576
    | _ => false)
inductive Ex where
  | normal | exit (id : Nat) | ret

abbrev Kont := Ex → Env → St → Option Out
def loopA (body : Kont → Env → St → Option Out) (K : Kont) : Nat → Env → St → Option Out
  | 0, _, _ => none
  | n + 1, env, s => body (fun e env s => match e with
    | .normal => loopA body K n env s
    | e => K e env s) env s
def den (call : FuncId → List Arg → Option Out) (n : Nat) : Code → Kont → Env → St → Option Out
  | .skip, K => K .normal
  | .label _, K => K .normal
  | .region _ ops draw, K => fun env s => (opsA P cfg call draw ops ops.toList env (killI cfg.keep draw ops.toList s)).bind fun (env, s) => K .normal env s
  | .seq a b, K => den call n a fun e env s => match e with
    | .normal => den call n b K env s
    | e => K e env s
  | .cond c a b, K => fun env s => match ev env c with
    | .bool true => den call n a K env s
    | .bool false => den call n b K env s
    | _ => none
  | .scope a, K => den call n a K
  | .block id a, K => den call n a fun e env s => match e with
    | .exit i => if i = id then K .normal env s else K (.exit i) env s
    | e => K e env s
  | .loop a, K => loopA (den call n a) K n
  | .exit id, K => K (.exit id)
  | .ret, K => K .ret
  | .goto t, K => fun env s => if gotoOk env t = true then K .normal env s else none
  | _, _ => fun _ _ => none

def env0 (as1 : List Arg) : Env := fun j => match as1[j]? with
  | some (.tree v) => v
  | some (.ptr _ off) => .ptr j 0 off
  | some (.own _ off len e) => .own j 0 off len e
  | some (.tok xs len _) => .sl xs len (.tok j 0)
  | none => .tup []
def st0 (as1 : List Arg) : St := fun j => match as1[j]? with
  | some (.ptr xs _) => ⟨0, .buf xs⟩
  | some (.own xs _ _ _) => ⟨0, .buf xs⟩
  | some (.tok _ _ e) => ⟨0, .tok e⟩
  | _ => ⟨0, .dead⟩
def outsA (s : St) : Nat → List Arg → Option (List (List AV))
  | _, [] => some []
  | j, a :: as1 => (match a with
    | .ptr _ _ | .own .. => match s j with
      | ⟨0, .buf xs⟩ => some xs
      | _ => none
    | _ => some []).bind fun o => (outsA s (j + 1) as1).map (o :: ·)
def settleL (s : St) : List AV → Option (List AV × St)
  | [] => some ([], s)
  | v :: vs => (settle s v).bind fun (v, s) => (settleL s vs).map fun (vs, s) => (v :: vs, s)
def finish1 (keep : Bool) (np : Nat) (s : St) (v : AV) : Option (Res × St) :=
  match v with
  | .ptr p t 0 => match s p with
    | ⟨t', .buf xs⟩ => if t' = t ∧ np ≤ p then some (.newp xs, s) else none
    | _ => none
  | .own p t 0 len e => if keep then (match s p with
    | ⟨t', .buf xs⟩ => if t' = t ∧ np ≤ p ∧ len * e ≤ xs.length then some (.own xs len e, s) else none
    | _ => none) else (settle s (.own p t 0 len e)).map fun (v, s) => (.tree v, s)
  | .sl xs len (.tok p t) => if keep then (match s p with
    | ⟨t', .tok e⟩ => if t' = t then some (.tok xs len e, s) else none
    | _ => none) else some (.tree (.sl xs len .loose), s)
  | v => (settle s v).map fun (v, s) => (.tree v, s)
def finish (keep : Bool) (as1 : List Arg) (rs : Array ResultVar) (env : Env) (s : St) : Option Out :=
  match rs.toList with
  | [.tmp t] => (finish1 keep as1.length s (env t)).bind fun (r, s) => (outsA s 0 as1).map (r, ·)
  | rs => (rs.mapM fun r => match r with | ResultVar.tmp t => some (env t) | _ => none).bind fun vs => (settleL s vs).bind fun (vs, s) => (outsA s 0 as1).map (.tree (.tup vs), ·)

def isTmpR : ResultVar → Bool
  | .tmp _ => true
  | .cell .. => false
def rvA (s : St) (env : Env) : ResultVar → Option AV
  | .tmp t => some (env t)
  | .cell a t => loadA P t s (env a)
def finishP (keep : Bool) (as1 : List Arg) (rs : Array ResultVar) (env : Env) (s : St) : Option Out :=
  match rs.toList.all isTmpR with
  | true => finish keep as1 rs env s
  | false => match rs.toList with
    | [.cell a t] => (loadA P t s (env a)).bind fun v => (settle s v).bind fun (v, s) => (outsA s 0 as1).map (.tree v, ·)
    | rs => (rs.mapM (rvA P s env)).bind fun vs => (settleL s vs).bind fun (vs, s) => (outsA s 0 as1).map (.tree (.tup vs), ·)

def finishO (keep : Bool) (as1 : List Arg) (rs : Array ResultVar) (env : Env) (s : St) : Option Out :=
  match rs.toList with
  | [.tmp t, .tmp u] => match env t, flat (env u) with
    | .own p i 0 len e, true => match s p with
      | ⟨t', .buf xs⟩ => if t' = i ∧ as1.length ≤ p ∧ len * e ≤ xs.length then (outsA s 0 as1).map (.owns xs len e [env u], ·) else none
      | _ => none
    | _, _ => finishP P keep as1 rs env s
  | _ => finishP P keep as1 rs env s
def finishQ (own keep : Bool) (as1 : List Arg) (rs : Array ResultVar) (env : Env) (s : St) : Option Out := match own with
  | false => finishP P keep as1 rs env s
  | true => finishO P keep as1 rs env s

def tmpsOf (xs : Array Operand) : List Tmp := xs.toList.filterMap fun | .tmp t => some t | _ => none
def readsOf (ops : Array Oper) (o : Oper) : List Tmp := tmpsOf o.op.operands ++ (match o.guard with | some (j, _) => ((ops[j]?).bind (·.dst)).toList | none => [])
def namesOf (ops : Array Oper) (o : Oper) : List Tmp := o.dst.toList ++ readsOf ops o
def waitsFor (ops : Array Oper) : Nat → Nat → Nat → Bool
  | 0, _, _ => false
  | f + 1, i, k => match ops[i]? with
    | none => false
    | some o => o.after.toList.any (fun e => Region.binds .any e && e.on == k) || o.after.toList.any (fun e => Region.binds .any e && waitsFor ops f e.on k)
def touches (ops : Array Oper) (x y : Oper) : Bool := (match x.dst with | some d => (namesOf ops y).contains d | none => false) || (match y.dst with | some d => (namesOf ops x).contains d | none => false)
def loudB (keep : FuncId → Bool) (o : Oper) : Bool := (loudA o && (freshD keep o).isNone) || loudC keep o
def sameD (keep : FuncId → Bool) (x y : Oper) : Bool := match freshD keep x, freshD keep y with | some a, some b => a == b | _, _ => false
def inertA (o : Oper) : Bool := match o.op with
  | .move _ | .assign _ | .pick .. | .binOp .. | .unOp .. | .extract .. | .field .. | .index .. | .slice .. | .build .. | .buildSlice .. => true
  | _ => false
def drawOkI (keep : FuncId → Bool) (ops : Array Oper) (I : Nat → Bool) : Bool :=
  let m := ops.toList.findIdx (loudB keep)
  (List.range ops.size).all fun i => match ops[i]? with
    | none => false
    | some o => (o.after.toList.all fun e => !Region.binds .any e || decide (e.on < i)) &&
      (List.range i).all fun k => match ops[k]? with
        | none => false
        | some p => (!(touches ops p o || (decide (m ≤ i) && !I i && !I k)) || waitsFor ops ops.size i k) && !sameD keep p o
def inertI (ops : Array Oper) (i : Nat) : Bool := match ops[i]? with
  | some o => inertA o
  | none => false
def drawOk (keep : FuncId → Bool) (ops : Array Oper) : Bool := drawOkI keep ops (inertI ops)
def readerA (o : Oper) : Option Tmp := match o.guard with
  | some _ => none
  | none => match o.op with
    | .load _ (.tmp a) => some a
    | .convert _ _ (.tmp a) => some a
    | .indexAddr .. => o.dst
    | .fieldAddr .. => o.dst
    | .call c => match c.callee with
      | .builtin .len => (match c.args.toList with
        | [.tmp a] => some a
        | _ => none)
      | _ => none
    | _ => none
def keptA (ops : Array Oper) (i : Nat) (a : Tmp) : Bool := (List.range ops.size).all fun j => decide (j < i) || (match ops[j]? with
  | some o => o.dst != some a
  | none => true)
def looseA (keep : FuncId → Bool) (ops : Array Oper) (i : Nat) : Option Tmp := match ops[i]? with
  | none => none
  | some o => match readerA o with
    | none => none
    | some a => if (keptA ops (i + 1) a && (match o.op with | .indexAddr .. => true | .fieldAddr .. => true | _ => o.dst != some a) && (List.range ops.size).any fun j => !inertI ops j && (if i < j then decide (ops.toList.findIdx (loudB keep) ≤ j) && !waitsFor ops ops.size j i else decide (j < i) && decide (ops.toList.findIdx (loudB keep) ≤ i) && !waitsFor ops ops.size i j)) = true then some a else none
def looseI (keep : FuncId → Bool) (ops : Array Oper) (i : Nat) : Bool := inertI ops i || (looseA keep ops i).isSome
def drawOkL (keep : FuncId → Bool) (ops : Array Oper) : Bool := drawOkI keep ops (looseI keep ops) && (List.range ops.size).all fun i => match looseA keep ops i with
  | some a => decide (a < 1048576)
  | none => true
def looseC (keep : FuncId → Bool) (ops : Array Oper) : Code := ((List.range ops.size).filterMap (looseA keep ops)).foldr (fun t c => .seq (.goto t) c) .skip
def readerS (o : Oper) : Option Tmp := match o.guard, o.op with
  | none, .load _ (.tmp a) => some a
  | none, .fieldAddr _ (.tmp a) _ => some a
  | none, .nilCheck (.tmp a) => some a
  | _, _ => none
def storeS (o : Oper) : Option (Tmp × Operand) := match o.op with
  | .store _ (.tmp b) x => some (b, x)
  | _ => none
def calmS (keep : FuncId → Bool) (o : Oper) : Bool := !loudA o && ((freshD keep o).isNone && !loudC keep o)
def keptX (ops : Array Oper) (i : Nat) (x : Operand) : Bool := match x with
  | .tmp v => keptA ops i v && decide (v < 1048576)
  | .const _ => true
  | _ => false
def okStores (keep : FuncId → Bool) (ops : Array Oper) : Bool := (List.range ops.size).all fun i => match ops[i]? with
  | none => true
  | some o => calmS keep o || (match storeS o with
    | some (b, x) => keptA ops i b && (keptX ops i x && decide (b < 1048576))
    | none => false)
def looseS (ops : Array Oper) (i : Nat) : Option Tmp := match ops[i]? with
  | none => none
  | some o => match readerS o with
    | some a => if (keptA ops i a && decide (a < 1048575)) = true then some a else none
    | none => none
def looseIS (ops : Array Oper) (i : Nat) : Bool := inertI ops i || (looseS ops i).isSome
def drawOkS (keep : FuncId → Bool) (ops : Array Oper) : Bool := okStores keep ops && drawOkI keep ops (looseIS ops)
def storesS (ops : Array Oper) : List (Tmp × Operand) := ops.toList.filterMap storeS
def checksS (ops : Array Oper) : List Nat := (((List.range ops.size).filterMap (looseS ops)).flatMap fun a => (storesS ops).map fun b => (a + 1) * 1048576 + b.1) ++ (storesS ops).filterMap fun b => match b.2 with
  | .tmp v => some (v + 1099511627776)
  | _ => none
def storeC (ops : Array Oper) : Code := (checksS ops).foldr (fun t c => .seq (.goto t) c) .skip
def headT (ops : Array Oper) : Nat := ((ops[0]?).bind (·.dst)).getD 0
def okRd (keep : FuncId → Bool) (ops : Array Oper) : Bool := (List.range ops.size).all fun j => match ops[j]? with
  | none => true
  | some o => calmS keep o || (((tmpsOf o.op.operands).all fun b => keptA ops j b && decide (b < 1048576)) && (match o.dst with | some d => decide (d < 1048576) | none => true))
def drawOkR (keep : FuncId → Bool) (ops : Array Oper) : Bool := okRd keep ops && drawOkI keep ops (looseIS ops)
def markR (keep : FuncId → Bool) (ops : Array Oper) : Bool := keep (8388608 + headT ops) && drawOkR keep ops
def checkR (keep : FuncId → Bool) (ops : Array Oper) (i : Nat) (a : Tmp) : List Nat := (List.range ops.size).flatMap fun j => match ops[j]? with
  | none => []
  | some o => if (calmS keep o || waitsFor ops ops.size j i) = true then [] else ((tmpsOf o.op.operands).map fun b => 1152921504606846976 + (a * 1048576 + b)) ++ (match o.dst with | some d => [2305843009213693952 + (a * 1048576 + d)] | none => [2305843009213693952 + (a * 1048576 + 0)])
def checksR (keep : FuncId → Bool) (ops : Array Oper) : List Nat := (List.range ops.size).flatMap fun i => match looseS ops i with
  | some a => checkR keep ops i a
  | none => []
def readC (keep : FuncId → Bool) (ops : Array Oper) : Code := (checksR keep ops).foldr (fun t c => .seq (.goto t) c) .skip
def dstOk (keep : FuncId → Bool) (m : Nat) : Code → Bool
  | .region _ ops draw => (ops.toList.all fun o => match o.dst with | some d => decide (d < m) | none => true) && (!draw || drawOk keep ops)
  | .seq a b => dstOk keep m a && dstOk keep m b
  | .cond _ a b => dstOk keep m a && dstOk keep m b
  | .block _ a => dstOk keep m a
  | .loop a => dstOk keep m a
  | .scope a => dstOk keep m a
  | .goto _ => false
  | _ => true
def dstOkP (keep : FuncId → Bool) (m : Nat) : Code → Bool
  | .region _ ops draw => (ops.toList.all fun o => match o.dst with | some d => decide (d < m) | none => true) && (!draw || drawOk keep ops || drawOkL keep ops || drawOkS keep ops || markR keep ops)
  | .seq a b => dstOkP keep m a && dstOkP keep m b
  | .cond _ a b => dstOkP keep m a && dstOkP keep m b
  | .block _ a => dstOkP keep m a
  | .loop a => dstOkP keep m a
  | .scope a => dstOkP keep m a
  | _ => true
def prune (keep : FuncId → Bool) : Code → Code
  | .region i ops draw => match draw with
    | true => if drawOk keep ops = true then .region i ops true else if markR keep ops = true then .seq (.region i ops true) (readC keep ops) else if drawOkL keep ops = true then .seq (.region i ops true) (looseC keep ops) else if drawOkS keep ops = true then .seq (.region i ops true) (storeC ops) else .refuse ""
    | false => .region i ops false
  | .goto _ => .refuse ""
  | .seq a b => .seq (prune keep a) (prune keep b)
  | .cond t a b => .cond t (prune keep a) (prune keep b)
  | .block i a => .block i (prune keep a)
  | .loop a => .loop (prune keep a)
  | .scope a => .scope (prune keep a)
  | c => c
def evalFn (n : Nat) : Nat → FuncId → List Arg → Option Out
  | 0, _, _ => none
  | d + 1, f, as1 => match cfg.prim f as1 with
    | some o => some o
    | none => match P.funcs[f]? with
    | none => none
    | some fn => match fn.body with
      | none => none
      | some c => if fn.name ≠ "runtime.NumGoroutine" ∧ as1.length ≤ fn.ntmps ∧ dstOkP cfg.keep fn.ntmps (prune cfg.keep c) = true then
          den P cfg (evalFn n d) n (prune cfg.keep c) (fun e env s => match e with
            | .normal => finishQ P (cfg.ownAt fn.name) (cfg.keep f) as1 fn.results env s
            | .ret => finishQ P (cfg.ownAt fn.name) (cfg.keep f) as1 fn.results env s
            | _ => none) (env0 as1) (st0 as1) else none
end
end Go.Ab

/- What a tree of values says of a value in a world; it stays true as long as the cells that it leads to stay. No conditions. -/
namespace Go.Ab

mutual
def V0 (S : Nat → Nat → Prop) (w : World) : AV → Value → Prop
  | .undef, _ => True
  | .int k n, v => v = .int k n
  | .bool b, v => v = .bool b
  | .str s, v => v = .string ⟨s.toArray⟩
  | .agg xs, v => ∃ vs : List Value, v = .agg vs.toArray ∧ VL S w xs vs
  | .tup xs, v => ∃ vs : List Value, v = .tuple vs.toArray ∧ VT S w xs vs
  | .sl xs len g, v => ∃ a cap, v = .slice a len cap ∧ len ≤ cap ∧ (g = .tight → cap = len) ∧ (g.isTok = false ∧ (g = .nil → a = none)) ∧
      ((xs = [] ∧ len = 0 ∧ cap = 0) ∨ ∃ b o, a = some ⟨b, o, none⟩ ∧ VC S w xs b o)
  | .own .., _ => False
  | .ptr .., _ => False
  | .tupo .., _ => False
  | .aggo .., _ => False
  | .slw .., _ => False
  | .rptr xs, v => ∃ b o, v = .pointer (some ⟨b, o, none⟩) ∧ VC S w xs b o
  | .nilp, v => v = .pointer none
  | .fn f caps, v => ∃ vs : List Value, v = .func (.func f) #[] vs.toArray ∧ VT S w caps vs
  | .iface t x, v => ∃ u, v = .iface t u ∧ V0 S w x u
  | .nili, v => v = .nilIface
def VL (S : Nat → Nat → Prop) (w : World) : List AV → List Value → Prop
  | [], vs => vs = []
  | x :: xs, vs => ∃ v r, vs = v :: r ∧ v.oneCell' = true ∧ V0 S w x v ∧ VL S w xs r
def VT (S : Nat → Nat → Prop) (w : World) : List AV → List Value → Prop
  | [], vs => vs = []
  | x :: xs, vs => ∃ v r, vs = v :: r ∧ V0 S w x v ∧ VT S w xs r
def VC (S : Nat → Nat → Prop) (w : World) : List AV → Nat → Nat → Prop
  | [], _, _ => True
  | x :: xs, b, o => S b o ∧ (∃ v, w.cell? ⟨b, o, none⟩ = some v ∧ v.oneCell' = true ∧ V0 S w x v) ∧ VC S w xs b (o + 1)
end

section
variable {S S' : Nat → Nat → Prop} {w w' : World}

def Stays (S : Nat → Nat → Prop) (w : World) (S' : Nat → Nat → Prop) (w' : World) : Prop :=
  ∀ b o, S b o → S' b o ∧ w'.cell? ⟨b, o, none⟩ = w.cell? ⟨b, o, none⟩

theorem Stays.refl (S : Nat → Nat → Prop) (w : World) : Stays S w S w := fun _ _ h => ⟨h, rfl⟩
theorem Stays.trans {S'' : Nat → Nat → Prop} {w'' : World} (h : Stays S w S' w') (k : Stays S' w' S'' w'') : Stays S w S'' w'' :=
  fun b o hs => ⟨(k b o (h b o hs).1).1, (k b o (h b o hs).1).2.trans (h b o hs).2⟩

mutual
theorem V0.mono (h : Stays S w S' w') : ∀ (x : AV) (v : Value), V0 S w x v → V0 S' w' x v
  | .undef, _, _ => by simp only [V0]
  | .int .., _, k => by simpa only [V0] using k
  | .bool _, _, k => by simpa only [V0] using k
  | .str _, _, k => by simpa only [V0] using k
  | .agg xs, v, k => by
    simp only [V0] at k ⊢
    obtain ⟨vs, hv, hl⟩ := k
    exact ⟨vs, hv, VL.mono h xs vs hl⟩
  | .tup xs, v, k => by
    simp only [V0] at k ⊢
    obtain ⟨vs, hv, hl⟩ := k
    exact ⟨vs, hv, VT.mono h xs vs hl⟩
  | .sl xs len g, v, k => by
    simp only [V0] at k ⊢
    obtain ⟨a, cap, hv, hl, hg, hk, hx⟩ := k
    refine ⟨a, cap, hv, hl, hg, hk, ?_⟩
    rcases hx with hx | ⟨b, o, ha, hc⟩
    · exact .inl hx
    · exact .inr ⟨b, o, ha, VC.mono h xs b o hc⟩
  | .own .., _, k => by simp only [V0] at k
  | .ptr .., _, k => by simp only [V0] at k
  | .aggo .., _, k => by simp only [V0] at k
  | .slw .., _, k => by simp only [V0] at k
  | .rptr xs, v, k => by
    simp only [V0] at k ⊢
    obtain ⟨b, o, hv, hc⟩ := k
    exact ⟨b, o, hv, VC.mono h xs b o hc⟩
  | .nilp, _, k => by simpa only [V0] using k
  | .fn f xs, v, k => by
    simp only [V0] at k ⊢
    obtain ⟨vs, hv, hl⟩ := k
    exact ⟨vs, hv, VT.mono h xs vs hl⟩
  | .iface t x, v, k => by
    simp only [V0] at k ⊢
    obtain ⟨u, hv, hl⟩ := k
    exact ⟨u, hv, V0.mono h x u hl⟩
  | .nili, _, k => by simpa only [V0] using k
theorem VL.mono (h : Stays S w S' w') : ∀ (xs : List AV) (vs : List Value), VL S w xs vs → VL S' w' xs vs
  | [], _, k => by simpa only [VL] using k
  | x :: xs, vs, k => by
    simp only [VL] at k ⊢
    obtain ⟨v, r, hv, ho, h0, hr⟩ := k
    exact ⟨v, r, hv, ho, V0.mono h x v h0, VL.mono h xs r hr⟩
theorem VT.mono (h : Stays S w S' w') : ∀ (xs : List AV) (vs : List Value), VT S w xs vs → VT S' w' xs vs
  | [], _, k => by simpa only [VT] using k
  | x :: xs, vs, k => by
    simp only [VT] at k ⊢
    obtain ⟨v, r, hv, h0, hr⟩ := k
    exact ⟨v, r, hv, V0.mono h x v h0, VT.mono h xs r hr⟩
theorem VC.mono (h : Stays S w S' w') : ∀ (xs : List AV) (b o : Nat), VC S w xs b o → VC S' w' xs b o
  | [], _, _, _ => by simp only [VC]
  | x :: xs, b, o, k => by
    simp only [VC] at k ⊢
    obtain ⟨hs, ⟨v, hv, ho, h0⟩, hr⟩ := k
    exact ⟨(h b o hs).1, ⟨v, (h b o hs).2.trans hv, ho, V0.mono h x v h0⟩, VC.mono h xs b (o + 1) hr⟩
end

theorem VL_iff (xs : List AV) : ∀ vs : List Value, VL S w xs vs ↔ xs.length = vs.length ∧ ∀ (i : Nat) (x : AV), xs[i]? = some x → ∃ v, vs[i]? = some v ∧ v.oneCell' = true ∧ V0 S w x v := by
  induction xs with
  | nil => intro vs; cases vs <;> simp [VL]
  | cons x xs ih =>
    intro vs
    simp only [VL]
    constructor
    · rintro ⟨v, r, rfl, ho, h0, hr⟩
      obtain ⟨hl, hi⟩ := (ih r).1 hr
      refine ⟨by simp [hl], fun i y hy => ?_⟩
      cases i with
      | zero => simp at hy; subst hy; exact ⟨v, by simp, ho, h0⟩
      | succ i => exact hi i y (by simpa using hy)
    · rintro ⟨hl, hi⟩
      cases vs with
      | nil => simp at hl
      | cons v r =>
        obtain ⟨v', hv', ho, h0⟩ := hi 0 x rfl
        simp at hv'; subst hv'
        exact ⟨v, r, rfl, ho, h0, (ih r).2 ⟨by simpa using hl, fun i y hy => hi (i + 1) y (by simpa using hy)⟩⟩
theorem VT_iff (xs : List AV) : ∀ vs : List Value, VT S w xs vs ↔ xs.length = vs.length ∧ ∀ (i : Nat) (x : AV), xs[i]? = some x → ∃ v, vs[i]? = some v ∧ V0 S w x v := by
  induction xs with
  | nil => intro vs; cases vs <;> simp [VT]
  | cons x xs ih =>
    intro vs
    simp only [VT]
    constructor
    · rintro ⟨v, r, rfl, h0, hr⟩
      obtain ⟨hl, hi⟩ := (ih r).1 hr
      refine ⟨by simp [hl], fun i y hy => ?_⟩
      cases i with
      | zero => simp at hy; subst hy; exact ⟨v, by simp, h0⟩
      | succ i => exact hi i y (by simpa using hy)
    · rintro ⟨hl, hi⟩
      cases vs with
      | nil => simp at hl
      | cons v r =>
        obtain ⟨v', hv', h0⟩ := hi 0 x rfl
        simp at hv'; subst hv'
        exact ⟨v, r, rfl, h0, (ih r).2 ⟨by simpa using hl, fun i y hy => hi (i + 1) y (by simpa using hy)⟩⟩
theorem VC_iff (xs : List AV) : ∀ b o, VC S w xs b o ↔ ∀ (i : Nat) (x : AV), xs[i]? = some x → S b (o + i) ∧ ∃ v, w.cell? ⟨b, o + i, none⟩ = some v ∧ v.oneCell' = true ∧ V0 S w x v := by
  induction xs with
  | nil => intro b o; simp [VC]
  | cons x xs ih =>
    intro b o
    simp only [VC]
    constructor
    · rintro ⟨hs, hv, hr⟩ i y hy
      cases i with
      | zero => simp at hy; subst hy; exact ⟨hs, hv⟩
      | succ i =>
        have := (ih b (o + 1)).1 hr i y (by simpa using hy)
        rwa [show o + 1 + i = o + (i + 1) by omega] at this
    · intro h
      refine ⟨(h 0 x rfl).1, (h 0 x rfl).2, (ih b (o + 1)).2 fun i y hy => ?_⟩
      have := h (i + 1) y (by simpa using hy)
      rwa [show o + (i + 1) = o + 1 + i by omega] at this

theorem VC.drop {xs : List AV} {b o : Nat} (h : VC S w xs b o) (k : Nat) : VC S w (xs.drop k) b (o + k) :=
  (VC_iff _ _ _).2 fun i x hx => by
    have := (VC_iff _ _ _).1 h (k + i) x (by simpa [List.getElem?_drop] using hx)
    rwa [show o + (k + i) = o + k + i by omega] at this
theorem VC.take {xs : List AV} {b o : Nat} (h : VC S w xs b o) (k : Nat) : VC S w (xs.take k) b o :=
  (VC_iff _ _ _).2 fun i x hx => (VC_iff _ _ _).1 h i x (by
    rw [List.getElem?_take] at hx; split at hx
    · exact hx
    · cases hx)
theorem VC.append {xs ys : List AV} {b o : Nat} (h : VC S w xs b o) (k : VC S w ys b (o + xs.length)) : VC S w (xs ++ ys) b o :=
  (VC_iff _ _ _).2 fun i x hx => by
    rcases Nat.lt_or_ge i xs.length with hi | hi
    · rw [List.getElem?_append_left hi] at hx; exact (VC_iff _ _ _).1 h i x hx
    · rw [List.getElem?_append_right hi] at hx
      have := (VC_iff _ _ _).1 k (i - xs.length) x hx
      rwa [show o + xs.length + (i - xs.length) = o + i by omega] at this
theorem VC.vals {xs : List AV} {b o : Nat} (h : VC S w xs b o) : ∃ vs : List Value, VL S w xs vs ∧ ∀ i v, vs[i]? = some v → w.cell? ⟨b, o + i, none⟩ = some v := by
  induction xs generalizing o with
  | nil => exact ⟨[], by simp [VL], by simp⟩
  | cons x xs ih =>
    simp only [VC] at h
    obtain ⟨_, ⟨v, hv, ho, h0⟩, hr⟩ := h
    obtain ⟨vs, hl, hc⟩ := ih hr
    refine ⟨v :: vs, by simp only [VL]; exact ⟨v, vs, rfl, ho, h0, hl⟩, fun i u hu => ?_⟩
    cases i with
    | zero => simp at hu; subst hu; exact hv
    | succ i =>
      have := hc i u (by simpa using hu)
      rwa [show o + 1 + i = o + (i + 1) by omega] at this
theorem VL.drop {xs : List AV} {vs : List Value} (h : VL S w xs vs) (k : Nat) : VL S w (xs.drop k) (vs.drop k) := by
  obtain ⟨hl, hi⟩ := (VL_iff _ _).1 h
  exact (VL_iff _ _).2 ⟨by simp [hl], fun i x hx => by simpa [List.getElem?_drop] using hi (k + i) x (by simpa [List.getElem?_drop] using hx)⟩
theorem VL.take {xs : List AV} {vs : List Value} (h : VL S w xs vs) (k : Nat) : VL S w (xs.take k) (vs.take k) := by
  obtain ⟨hl, hi⟩ := (VL_iff _ _).1 h
  refine (VL_iff _ _).2 ⟨by simp [hl], fun i x hx => ?_⟩
  rw [List.getElem?_take] at hx
  split at hx
  · rename_i hk
    obtain ⟨v, hv, h⟩ := hi i x hx
    exact ⟨v, by rw [List.getElem?_take, if_pos hk]; exact hv, h⟩
  · cases hx
theorem VL.append {xs ys : List AV} {vs us : List Value} (h : VL S w xs vs) (k : VL S w ys us) : VL S w (xs ++ ys) (vs ++ us) := by
  obtain ⟨hl, hi⟩ := (VL_iff _ _).1 h
  obtain ⟨kl, ki⟩ := (VL_iff _ _).1 k
  refine (VL_iff _ _).2 ⟨by simp [hl, kl], fun i x hx => ?_⟩
  rcases Nat.lt_or_ge i xs.length with h' | h'
  · rw [List.getElem?_append_left h'] at hx
    rw [List.getElem?_append_left (by omega)]
    exact hi i x hx
  · rw [List.getElem?_append_right h'] at hx
    rw [List.getElem?_append_right (by omega), ← hl]
    exact ki _ x hx
theorem VL.nil : VL S w [] [] := by simp [VL]
theorem VT.nil : VT S w [] [] := by simp [VT]

theorem V0_ofV1 (v : Value) : V0 S w (ofV1 v) v := by
  unfold ofV1
  split <;> (try simp only [V0])
  · exact ⟨none, 0, rfl, Nat.le_refl _, fun _ => rfl, ⟨rfl, fun _ => rfl⟩, Or.inl (by simp)⟩
  · exact ⟨[], rfl, VT.nil⟩
theorem VL_ofV1 : ∀ cs : List Value, (cs.all fun v => v.oneCell') = true → VL S w (cs.map ofV1) cs
  | [], _ => VL.nil
  | c :: cs, h => by
    simp only [List.all_cons, Bool.and_eq_true] at h
    simp only [List.map_cons, VL]
    exact ⟨c, cs, rfl, h.1, V0_ofV1 c, VL_ofV1 cs h.2⟩
end
end Go.Ab

/- The state of a run beside its abstract state: which block stands behind which entry, which cells stay; what one step may turn. No conditions. -/
namespace Go.Ab

structure Ph where
  blk : Nat
  base : Nat
  spare : Nat

structure G where
  φ : Nat → Ph
  s : St
  S : Nat → Nat → Prop
  w : World

def Rg (Γ : G) (p b o : Nat) : Prop :=
  match (Γ.s p).c with
  | .buf _ => b = (Γ.φ p).blk
  | .mix _ _ => b = (Γ.φ p).blk
  | .tok _ => b = (Γ.φ p).blk ∧ (Γ.φ p).base ≤ o ∧ o < (Γ.φ p).base + (Γ.φ p).spare
  | _ => False

def EntC (φ : Ph) (S : Nat → Nat → Prop) (w : World) : Cell → Prop
  | .dead => True
  | .buf xs => φ.blk < w.heap.size ∧ (∀ o, w.frozen? ⟨φ.blk, o, none⟩ = false) ∧
      (∀ (i : Nat) (x : AV), xs[i]? = some x → ∃ v, w.cell? ⟨φ.blk, φ.base + i, none⟩ = some v ∧ v.oneCell' = true ∧ V0 S w x v) ∧
      (∀ i, i < φ.spare → ∃ v, w.cell? ⟨φ.blk, φ.base + xs.length + i, none⟩ = some v)
  | .frz xs => VC S w xs φ.blk φ.base
  | .mix xs _ => φ.blk < w.heap.size ∧ (∀ o, w.frozen? ⟨φ.blk, o, none⟩ = false) ∧
      (∀ (i : Nat) (x : AV), xs[i]? = some x → ∃ v, w.cell? ⟨φ.blk, φ.base + i, none⟩ = some v ∧ v.oneCell' = true ∧ V0 S w x v) ∧
      (∀ i, i < φ.spare → ∃ v, w.cell? ⟨φ.blk, φ.base + xs.length + i, none⟩ = some v)
  | .tok _ => ∀ i, i < φ.spare → (∃ v, w.cell? ⟨φ.blk, φ.base + i, none⟩ = some v) ∧ w.frozen? ⟨φ.blk, φ.base + i, none⟩ = false
def EntOk (Γ : G) (p : Nat) : Prop := EntC (Γ.φ p) Γ.S Γ.w (Γ.s p).c

structure Inv0 (Γ : G) : Prop where
  ent : ∀ p, EntOk Γ p
  apart : ∀ p q b o, p ≠ q → Rg Γ p b o → ¬ Rg Γ q b o
  stay : ∀ b o, Γ.S b o → b < Γ.w.heap.size ∧ ∀ p, ¬ Rg Γ p b o

structure Ext (Γ Γ' : G) : Prop where
  stays : Stays Γ.S Γ.w Γ'.S Γ'.w
  os : Γ'.w.os = Γ.w.os
  tape : Γ'.w.tape = Γ.w.tape
  output : Γ'.w.output = Γ.w.output
  size : Γ.w.heap.size ≤ Γ'.w.heap.size
  block : ∀ b, b < Γ.w.heap.size → (∀ p o, ¬ Rg Γ p b o) → Γ'.w.heap[b]? = Γ.w.heap[b]?
  cell : ∀ b o, b < Γ.w.heap.size → (∀ p, ¬ Rg Γ p b o) → Γ'.w.cell? ⟨b, o, none⟩ = Γ.w.cell? ⟨b, o, none⟩
  frzn : ∀ b o, b < Γ.w.heap.size → (∀ p, ¬ Rg Γ p b o) → Γ'.w.frozen? ⟨b, o, none⟩ = Γ.w.frozen? ⟨b, o, none⟩
  newS : ∀ b o, Γ'.S b o → Γ.S b o ∨ (∃ p, Rg Γ p b o) ∨ Γ.w.heap.size ≤ b
  newR : ∀ p b o, Rg Γ' p b o → (∃ q, Rg Γ q b o) ∨ Γ.w.heap.size ≤ b
  ser : ∀ p, (Γ.s p).t ≤ (Γ'.s p).t
  bf : ∀ p t xs', t ≤ (Γ.s p).t → cellsAt Γ'.s p t = some xs' → (∃ xs, cellsAt Γ.s p t = some xs ∧ xs'.length = xs.length) ∧ Γ'.φ p = Γ.φ p
  tk : ∀ p t e, t ≤ (Γ.s p).t → Γ'.s p = ⟨t, .tok e⟩ → Γ.s p = ⟨t, .tok e⟩ ∧ Γ'.φ p = Γ.φ p

theorem Ext.refl (Γ : G) : Ext Γ Γ :=
  ⟨.refl _ _, rfl, rfl, rfl, Nat.le_refl _, fun _ _ _ => rfl, fun _ _ _ _ => rfl, fun _ _ _ _ => rfl, fun _ _ h => .inl h, fun p _ _ h => .inl ⟨p, h⟩, fun _ => Nat.le_refl _,
    fun _ _ xs _ h => ⟨⟨xs, h, rfl⟩, rfl⟩, fun _ _ _ _ h => ⟨h, rfl⟩⟩

theorem Ext.trans {Γ Γ' Γ'' : G} (h : Ext Γ Γ') (k : Ext Γ' Γ'') : Ext Γ Γ'' where
  stays := h.stays.trans k.stays
  os := k.os.trans h.os
  tape := k.tape.trans h.tape
  output := k.output.trans h.output
  size := Nat.le_trans h.size k.size
  block := fun b hb hn => (k.block b (Nat.lt_of_lt_of_le hb h.size) fun p o hr => by
    rcases h.newR p b o hr with ⟨q, hq⟩ | hq
    · exact hn q o hq
    · omega).trans (h.block b hb hn)
  cell := fun b o hb hn => (k.cell b o (Nat.lt_of_lt_of_le hb h.size) fun p hr => by
    rcases h.newR p b o hr with ⟨q, hq⟩ | hq
    · exact hn q hq
    · omega).trans (h.cell b o hb hn)
  frzn := fun b o hb hn => (k.frzn b o (Nat.lt_of_lt_of_le hb h.size) fun p hr => by
    rcases h.newR p b o hr with ⟨q, hq⟩ | hq
    · exact hn q hq
    · omega).trans (h.frzn b o hb hn)
  newS := fun b o hs => by
    rcases k.newS b o hs with hs | ⟨p, hp⟩ | hs
    · exact h.newS b o hs
    · rcases h.newR p b o hp with hq | hq
      · exact .inr (.inl hq)
      · exact .inr (.inr hq)
    · exact .inr (.inr (Nat.le_trans h.size hs))
  newR := fun p b o hr => by
    rcases k.newR p b o hr with ⟨q, hq⟩ | hq
    · exact h.newR q b o hq
    · exact .inr (Nat.le_trans h.size hq)
  ser := fun p => Nat.le_trans (h.ser p) (k.ser p)
  bf := fun p t xs ht hc => by
    obtain ⟨⟨ys, hy, hl⟩, he⟩ := k.bf p t xs (Nat.le_trans ht (h.ser p)) hc
    obtain ⟨⟨zs, hz, hl'⟩, he'⟩ := h.bf p t ys ht hy
    exact ⟨⟨zs, hz, hl.trans hl'⟩, he.trans he'⟩
  tk := fun p t e ht hc => by
    obtain ⟨h1, he⟩ := k.tk p t e (Nat.le_trans ht (h.ser p)) hc
    obtain ⟨h2, he'⟩ := h.tk p t e ht h1
    exact ⟨h2, he.trans he'⟩

def V (Γ : G) : AV → Value → Prop
  | .own p t off len e, v => (t ≤ (Γ.s p).t ∧ v.oneCell' = true) ∧ ∀ xs, cellsAt Γ.s p t = some xs → ∃ cap, v = .slice (some ⟨(Γ.φ p).blk, (Γ.φ p).base + off, none⟩) len cap ∧ len ≤ cap ∧
      off + cap * e ≤ xs.length + (Γ.φ p).spare
  | .ptr p t off, v => t ≤ (Γ.s p).t ∧ ∀ xs, cellsAt Γ.s p t = some xs → v = .pointer (some ⟨(Γ.φ p).blk, (Γ.φ p).base + off, none⟩)
  | .sl xs len (.tok p t), v => V0 Γ.S Γ.w (.sl xs len .loose) v ∧ t ≤ (Γ.s p).t ∧ ∀ e, Γ.s p = ⟨t, .tok e⟩ → ∃ a cap, v = .slice a len cap ∧
      (Γ.φ p).spare = (cap - len) * e ∧ (len < cap → ∃ o, a = some ⟨(Γ.φ p).blk, o, none⟩ ∧ o + xs.length = (Γ.φ p).base)
  | .tupo p t off len e rest, v => ∃ (u : Value) (us : List Value), v = .tuple (u :: us).toArray ∧ ((t ≤ (Γ.s p).t ∧ u.oneCell' = true) ∧ ∀ xs, cellsAt Γ.s p t = some xs → ∃ cap, u = .slice (some ⟨(Γ.φ p).blk, (Γ.φ p).base + off, none⟩) len cap ∧ len ≤ cap ∧
      off + cap * e ≤ xs.length + (Γ.φ p).spare) ∧ VT Γ.S Γ.w rest us
  | .aggo pre p t off len e, v => ∃ (us : List Value) (u : Value), v = .agg (us ++ [u]).toArray ∧ VL Γ.S Γ.w pre us ∧ u.oneCell' = true ∧ (t ≤ (Γ.s p).t ∧ ∀ xs, cellsAt Γ.s p t = some xs → ∃ cap, u = .slice (some ⟨(Γ.φ p).blk, (Γ.φ p).base + off, none⟩) len cap ∧ len ≤ cap ∧
      off + cap * e ≤ xs.length + (Γ.φ p).spare)
  | .slw xs len, v => ∃ b o cap, v = .slice (some ⟨b, o, none⟩) len cap ∧ len ≤ xs.length ∧ xs.length ≤ cap ∧ VC Γ.S Γ.w xs b o
  | x, v => V0 Γ.S Γ.w x v

theorem V.of0 {Γ : G} {x : AV} {v : Value} (h : V0 Γ.S Γ.w x v) (hx : isTree x = true) : V Γ x v := by
  unfold V
  split
  · simp [isTree] at hx
  · simp [isTree] at hx
  · simp [isTree] at hx
  · simp [isTree] at hx
  · simp [isTree] at hx
  · simp [isTree] at hx
  · exact h
theorem V.to0 {Γ : G} {x : AV} {v : Value} (h : V Γ x v) (hx : isTree x = true) : V0 Γ.S Γ.w x v := by
  unfold V at h
  split at h
  · simp [isTree] at hx
  · simp [isTree] at hx
  · simp [isTree] at hx
  · simp [isTree] at hx
  · simp [isTree] at hx
  · simp [isTree] at hx
  · exact h

theorem V.ext {Γ Γ' : G} (h : Ext Γ Γ') {x : AV} {v : Value} (k : V Γ x v) : V Γ' x v := by
  unfold V at k ⊢
  split at k
  · rename_i p t off len e
    obtain ⟨⟨ht, ho⟩, hk⟩ := k
    refine ⟨⟨Nat.le_trans ht (h.ser p), ho⟩, fun xs' hc => ?_⟩
    obtain ⟨⟨xs, hx, hl⟩, he⟩ := h.bf p t xs' ht hc
    rw [he, hl]
    exact hk xs hx
  · rename_i p t off
    obtain ⟨ht, hk⟩ := k
    refine ⟨Nat.le_trans ht (h.ser p), fun xs' hc => ?_⟩
    obtain ⟨⟨xs, hx, _⟩, he⟩ := h.bf p t xs' ht hc
    rw [he]
    exact hk xs hx
  · rename_i xs len p t
    obtain ⟨h0, ht, hk⟩ := k
    refine ⟨V0.mono h.stays _ _ h0, Nat.le_trans ht (h.ser p), fun e hc => ?_⟩
    obtain ⟨he, hp⟩ := h.tk p t e ht hc
    rw [hp]
    exact hk e he
  · rename_i p t off len e rest
    obtain ⟨u, us, rfl, ⟨⟨ht, ho⟩, hk⟩, hr⟩ := k
    refine ⟨u, us, rfl, ⟨⟨Nat.le_trans ht (h.ser p), ho⟩, fun xs' hc => ?_⟩, VT.mono h.stays _ _ hr⟩
    obtain ⟨⟨xs, hx, hl⟩, he⟩ := h.bf p t xs' ht hc
    rw [he, hl]
    exact hk xs hx
  · rename_i pre p t off len e
    obtain ⟨us, u, rfl, hr, ho, ht, hk⟩ := k
    refine ⟨us, u, rfl, VL.mono h.stays _ _ hr, ho, Nat.le_trans ht (h.ser p), fun xs' hc => ?_⟩
    obtain ⟨⟨xs, hx, hl⟩, he⟩ := h.bf p t xs' ht hc
    rw [he, hl]
    exact hk xs hx
  · obtain ⟨b, o, cap, hv, h1, h2, hc⟩ := k
    exact ⟨b, o, cap, hv, h1, h2, VC.mono h.stays _ _ _ hc⟩
  · exact V0.mono h.stays _ _ k

def HeldOk (x : AV) : Prop := (∃ ys len q u, x = .sl ys len (.tok q u)) ∨ ∃ q u off len e, x = .own q u off len e
def MixOk (Γ : G) (p : Nat) : Prop := ∀ t xs hs, Γ.s p = ⟨t, .mix xs hs⟩ → ∀ off x, (off, x) ∈ hs → HeldOk x ∧ ∃ v, Γ.w.cell? ⟨(Γ.φ p).blk, (Γ.φ p).base + off, none⟩ = some v ∧ V Γ x v
structure Inv (Γ : G) : Prop extends Inv0 Γ where
  mix : ∀ p, MixOk Γ p
def Keeps (Γ Γ' : G) : Prop := ∀ p t xs hs, Γ'.s p = ⟨t, .mix xs hs⟩ → Γ.s p = ⟨t, .mix xs hs⟩ ∧ Γ'.φ p = Γ.φ p ∧ ∀ o, (∃ v, Γ.w.cell? ⟨(Γ.φ p).blk, o, none⟩ = some v) → Γ'.w.cell? ⟨(Γ.φ p).blk, o, none⟩ = Γ.w.cell? ⟨(Γ.φ p).blk, o, none⟩
theorem Inv.more {Γ Γ' : G} (hI : Inv Γ) (hk : Keeps Γ Γ') (h : Inv0 Γ' ∧ Ext Γ Γ') : Inv Γ' ∧ Ext Γ Γ' := ⟨⟨h.1, fun p t xs hs hp off x hx => by
  obtain ⟨h1, h2, h3⟩ := hk p t xs hs hp
  obtain ⟨hx1, v, h4, h5⟩ := hI.mix p t xs hs h1 off x hx
  exact ⟨hx1, v, by rw [h2, h3 _ ⟨v, h4⟩]; exact h4, V.ext h.2 h5⟩⟩, h.2⟩

theorem cellsAt_cases {s : St} {p t : Nat} {xs : List AV} (h : cellsAt s p t = some xs) : s p = ⟨t, .buf xs⟩ ∨ s p = ⟨t, .frz xs⟩ ∨ ∃ hs, s p = ⟨t, .mix xs hs⟩ := by
  unfold cellsAt at h
  split at h
  · rename_i t' ys he
    split at h
    · rename_i hq; subst hq; cases h; exact .inl he
    · cases h
  · rename_i t' ys he
    split at h
    · rename_i hq; subst hq; cases h; exact .inr (.inl he)
    · cases h
  · rename_i t' ys hs he
    split at h
    · rename_i hq; subst hq; cases h; exact .inr (.inr ⟨hs, he⟩)
    · cases h
  · cases h
theorem Inv0.read {Γ : G} (hI : Inv0 Γ) {p t : Nat} {xs : List AV} (h : cellsAt Γ.s p t = some xs) :
    ∀ (i : Nat) (x : AV), xs[i]? = some x → ∃ v, Γ.w.cell? ⟨(Γ.φ p).blk, (Γ.φ p).base + i, none⟩ = some v ∧ v.oneCell' = true ∧ V0 Γ.S Γ.w x v := by
  have he := hI.ent p
  unfold EntOk at he
  rcases cellsAt_cases h with h | h | ⟨hs, h⟩
  · rw [h] at he; exact he.2.2.1
  · rw [h] at he; exact fun i x hx => ((VC_iff _ _ _).1 he i x hx).2
  · rw [h] at he; exact he.2.2.1

@[simp] theorem upd_same {α : Type} (f : Nat → α) (i : Nat) (v : α) : upd f i v i = v := by simp [upd]
theorem upd_ne {α : Type} (f : Nat → α) {i j : Nat} (v : α) (h : j ≠ i) : upd f i v j = f j := by simp [upd, h]

section
variable {Γ : G} (hI : Inv Γ)
include hI

theorem Inv.drew : Inv { Γ with w := Γ.w.drew } ∧ Ext Γ { Γ with w := Γ.w.drew } := by
  have hst : Stays Γ.S Γ.w Γ.S Γ.w.drew := fun b o h => ⟨h, rfl⟩
  refine hI.more (fun p t xs hs h => ⟨h, rfl, fun _ _ => rfl⟩) ?_
  refine ⟨⟨fun p => ?_, hI.apart, hI.stay⟩, hst, rfl, rfl, rfl, Nat.le_refl _, fun _ _ _ => rfl, fun _ _ _ _ => rfl, fun _ _ _ _ => rfl, fun _ _ h => .inl h, fun p _ _ h => .inl ⟨p, h⟩,
    fun _ => Nat.le_refl _, fun _ _ xs _ h => ⟨⟨xs, h, rfl⟩, rfl⟩, fun _ _ _ _ h => ⟨h, rfl⟩⟩
  have he := hI.ent p
  unfold EntOk EntC at he ⊢
  dsimp only at he ⊢
  split at he
  · trivial
  · refine ⟨he.1, he.2.1, fun i x hx => ?_, he.2.2.2⟩
    obtain ⟨v, h1, h2, h3⟩ := he.2.2.1 i x hx
    exact ⟨v, h1, h2, V0.mono hst _ _ h3⟩
  · exact VC.mono hst _ _ _ he
  · refine ⟨he.1, he.2.1, fun i x hx => ?_, he.2.2.2⟩
    obtain ⟨v, h1, h2, h3⟩ := he.2.2.1 i x hx
    exact ⟨v, h1, h2, V0.mono hst _ _ h3⟩
  · exact he

omit hI in
theorem cell_alloc_old {o : Obj} {a : Addr} {v : Value} (h : Γ.w.cell? a = some v) : (Γ.w.alloc o).cell? a = some v := by
  rw [World.cell?_alloc_lt _ _ _ (World.block_lt_of_cell? _ _ h)]; exact h
theorem Inv.alloc {d : Nat} {t : Nat} (ht : (Γ.s d).t < t) (arr : Array Value) (ty : TypeId) (xs : List AV) (vs : List Value) (hv : VL Γ.S Γ.w xs vs) (rest : List Value) (ha : arr.toList = vs ++ rest) :
    let Γ' : G := { φ := upd Γ.φ d ⟨Γ.w.heap.size, 0, rest.length⟩, s := upd Γ.s d ⟨t, .buf xs⟩, S := Γ.S, w := Γ.w.alloc (.cells arr ty) }
    Inv Γ' ∧ Ext Γ Γ' := by
  intro Γ'
  have hst : Stays Γ.S Γ.w Γ'.S Γ'.w := fun b o h => ⟨h, World.cell?_alloc_lt _ _ _ (hI.stay b o h).1⟩
  have hlen : xs.length = vs.length := ((VL_iff _ _).1 hv).1
  have hcell : ∀ i v, arr.toList[i]? = some v → Γ'.w.cell? ⟨Γ.w.heap.size, i, none⟩ = some v := fun i v h => by
    show (Γ.w.alloc _).cell? _ = _
    rw [World.cell?_alloc_new]; simpa using h
  have hold : ∀ p, p ≠ d → ∀ b o, Rg Γ' p b o ↔ Rg Γ p b o := fun p hp b o => by
    unfold Rg; simp only [Γ', upd_ne _ _ hp]
  have hnew : ∀ b o, Rg Γ' d b o → b = Γ.w.heap.size := fun b o h => by
    unfold Rg at h; simpa [Γ', upd_same] using h
  have hblk : ∀ p b o, Rg Γ p b o → b < Γ.w.heap.size := fun p b o h => by
    have he := hI.ent p
    unfold EntOk EntC at he
    unfold Rg at h
    split at h
    · rename_i ys hy; rw [hy] at he; rw [h]; exact he.1
    · rename_i ys hs hy; rw [hy] at he; rw [h]; exact he.1
    · rename_i e hy; rw [hy] at he
      obtain ⟨h1, h2, h3⟩ := h
      obtain ⟨⟨v, hv⟩, _⟩ := he (o - (Γ.φ p).base) (by omega)
      rw [h1]; exact World.block_lt_of_cell? _ _ hv
    · exact h.elim
  refine hI.more (fun p t xs hs h => ?_) ?_
  · by_cases hp : p = d
    · subst hp; simp [Γ'] at h
    · refine ⟨by simpa [Γ', upd_ne _ _ hp] using h, by simp [Γ', upd_ne _ _ hp], fun o ⟨v, hv⟩ => World.cell?_alloc_lt _ _ _ (World.block_lt_of_cell? _ _ hv)⟩
  refine ⟨⟨fun p => ?_, fun p q b o hpq hp hq => ?_, fun b o h => ⟨?_, fun p hp => ?_⟩⟩, hst, rfl, rfl, rfl, ?_, ?_, ?_, fun b o hb _ => World.frozen?_alloc_old _ _ _ (Nat.ne_of_lt hb), fun _ _ h => .inl h, ?_, ?_, ?_, ?_⟩
  · by_cases hp : p = d
    · subst hp
      unfold EntOk
      simp only [Γ', upd_same, EntC]
      refine ⟨by simp, fun o => World.frozen?_alloc_new _ _ _ _, fun i x hx => ?_, fun i hi => ?_⟩
      · obtain ⟨v, h1, h2, h3⟩ := ((VL_iff _ _).1 hv).2 i x hx
        refine ⟨v, ?_, h2, V0.mono hst _ _ h3⟩
        rw [Nat.zero_add]
        refine hcell i v ?_
        rw [ha, List.getElem?_append_left]
        · exact h1
        · rcases Nat.lt_or_ge i vs.length with h' | h'
          · exact h'
          · rw [List.getElem?_eq_none h'] at h1; cases h1
      · refine ⟨rest[i], ?_⟩
        rw [Nat.zero_add]
        refine hcell _ _ ?_
        rw [ha, hlen, List.getElem?_append_right (by omega), Nat.add_sub_cancel_left]
        exact List.getElem?_eq_getElem hi
    · have he := hI.ent p
      unfold EntOk at he ⊢
      simp only [Γ', upd_ne _ _ hp]
      unfold EntC at he ⊢
      split at he
      · trivial
      · rename_i ys hy
        have hb := he.1
        refine ⟨by simp; omega, fun o => ?_, fun i x hx => ?_, fun i hi => ?_⟩
        · rw [World.frozen?_alloc_old _ _ _ (Nat.ne_of_lt hb)]; exact he.2.1 o
        · obtain ⟨v, h1, h2, h3⟩ := he.2.2.1 i x hx
          exact ⟨v, cell_alloc_old h1, h2, V0.mono hst _ _ h3⟩
        · obtain ⟨v, h1⟩ := he.2.2.2 i hi
          exact ⟨v, cell_alloc_old h1⟩
      · exact VC.mono hst _ _ _ he
      · rename_i ys hs hy
        have hb := he.1
        refine ⟨by simp; omega, fun o => ?_, fun i x hx => ?_, fun i hi => ?_⟩
        · rw [World.frozen?_alloc_old _ _ _ (Nat.ne_of_lt hb)]; exact he.2.1 o
        · obtain ⟨v, h1, h2, h3⟩ := he.2.2.1 i x hx
          exact ⟨v, cell_alloc_old h1, h2, V0.mono hst _ _ h3⟩
        · obtain ⟨v, h1⟩ := he.2.2.2 i hi
          exact ⟨v, cell_alloc_old h1⟩
      · intro i hi
        obtain ⟨⟨v, h1⟩, h2⟩ := he i hi
        refine ⟨⟨v, cell_alloc_old h1⟩, ?_⟩
        rw [World.frozen?_alloc_old _ _ _ (Nat.ne_of_lt (World.block_lt_of_cell? _ _ h1))]; exact h2
  · by_cases hpd : p = d
    · subst hpd
      have h1 := hnew b o hp
      have h2 := hblk q b o ((hold q (Ne.symm hpq) b o).1 hq)
      omega
    · by_cases hqd : q = d
      · subst hqd
        have h1 := hnew b o hq
        have h2 := hblk p b o ((hold p hpd b o).1 hp)
        omega
      · exact hI.apart p q b o hpq ((hold p hpd b o).1 hp) ((hold q hqd b o).1 hq)
  · have := (hI.stay b o h).1
    show b < (Γ.w.alloc _).heap.size
    simp; omega
  · have h1 := (hI.stay b o h).1
    by_cases hpd : p = d
    · subst hpd; have := hnew b o hp; omega
    · exact (hI.stay b o h).2 p ((hold p hpd b o).1 hp)
  · show _ ≤ (Γ.w.alloc _).heap.size
    simp
  · intro b hb _
    show (Γ.w.heap.push _)[b]? = _
    rw [Array.getElem?_push, if_neg (by omega)]
  · intro b o hb _
    exact World.cell?_alloc_lt _ _ _ hb
  · intro p b o hp
    by_cases hpd : p = d
    · subst hpd; have := hnew b o hp; exact .inr (by omega)
    · exact .inl ⟨p, (hold p hpd b o).1 hp⟩
  · intro p
    by_cases hpd : p = d
    · subst hpd; simp [Γ']; omega
    · simp [Γ', upd_ne _ _ hpd]
  · intro p u ys hu hc
    by_cases hpd : p = d
    · subst hpd
      rcases cellsAt_cases hc with h | h | ⟨_, h⟩ <;> simp [Γ'] at h
      omega
    · refine ⟨⟨ys, ?_, rfl⟩, by simp [Γ', upd_ne _ _ hpd]⟩
      unfold cellsAt at hc ⊢
      simpa [Γ', upd_ne _ _ hpd] using hc
  · intro p u e hu hc
    by_cases hpd : p = d
    · subst hpd; simp [Γ'] at hc
    · simpa [Γ', upd_ne _ _ hpd] using hc

theorem Inv.blk {p b o : Nat} (h : Rg Γ p b o) : b < Γ.w.heap.size := by
  have he := hI.ent p
  unfold EntOk EntC at he
  unfold Rg at h
  split at h
  · rename_i ys hy; rw [hy] at he; rw [h]; exact he.1
  · rename_i ys hs hy; rw [hy] at he; rw [h]; exact he.1
  · rename_i e hy; rw [hy] at he
    obtain ⟨h1, h2, h3⟩ := h
    obtain ⟨⟨v, hv⟩, _⟩ := he (o - (Γ.φ p).base) (by omega)
    rw [h1]; exact World.block_lt_of_cell? _ _ hv
  · exact h.elim
end
end Go.Ab

/- The steps of a run, one by one, beside the abstract state: a new row, a freeze, a store, room taken and filled. No conditions. -/
namespace Go.Ab

structure Wr (w w' : World) (blk lim k : Nat) : Prop where
  os : w'.os = w.os
  tape : w'.tape = w.tape
  output : w'.output = w.output
  size : w'.heap.size = w.heap.size
  other : ∀ b, b ≠ blk → w'.heap[b]? = w.heap[b]?
  cell : ∀ o, (o < lim ∨ lim + k ≤ o) → w'.cell? ⟨blk, o, none⟩ = w.cell? ⟨blk, o, none⟩
  frz : ∀ o, w'.frozen? ⟨blk, o, none⟩ = w.frozen? ⟨blk, o, none⟩
  nil : k = 0 → w' = w

theorem cell_of_block {w w' : World} {b : Nat} (h : w'.heap[b]? = w.heap[b]?) (o : Nat) : w'.cell? ⟨b, o, none⟩ = w.cell? ⟨b, o, none⟩ := by
  unfold World.cell?; dsimp only; rw [h]
theorem frozen_of_block {w w' : World} {b : Nat} (h : w'.heap[b]? = w.heap[b]?) (o : Nat) : w'.frozen? ⟨b, o, none⟩ = w.frozen? ⟨b, o, none⟩ := by
  unfold World.frozen?; dsimp only; rw [h]

theorem Wr.zero (w : World) (blk lim : Nat) : Wr w w blk lim 0 := ⟨rfl, rfl, rfl, rfl, fun _ _ => rfl, fun _ _ => rfl, fun _ => rfl, fun _ => rfl⟩
theorem Wr.cellAny {w w' : World} {blk lim k : Nat} (h : Wr w w' blk lim k) {b o : Nat} (ho : b ≠ blk ∨ o < lim ∨ lim + k ≤ o) : w'.cell? ⟨b, o, none⟩ = w.cell? ⟨b, o, none⟩ := by
  by_cases hb : b = blk
  · subst hb
    exact h.cell o (by rcases ho with h | h; exact absurd rfl h; exact h)
  · exact cell_of_block (h.other b hb) o
theorem Wr.frzAny {w w' : World} {blk lim k : Nat} (h : Wr w w' blk lim k) (b o : Nat) : w'.frozen? ⟨b, o, none⟩ = w.frozen? ⟨b, o, none⟩ := by
  by_cases hb : b = blk
  · subst hb; exact h.frz o
  · exact frozen_of_block (h.other b hb) o
theorem Wr.set (w : World) (blk lim : Nat) (v : Value) : Wr w (w.setCell ⟨blk, lim, none⟩ v) blk lim 1 := by
  refine ⟨rfl, rfl, rfl, by simp, fun b hb => ?_, fun o ho => World.cell?_setCell_other _ _ _ _ (fun e => ?_), fun o => World.frozen?_setCell _ _ _ _, fun h => by cases h⟩
  · simp only [World.setCell, Array.getElem?_modify]; rw [if_neg (by omega)]
  · have h2 := congrArg Addr.off e; dsimp only at h2; omega
theorem Wr.trans {w w' w'' : World} {blk lim k l : Nat} (h : Wr w w' blk lim k) (g : Wr w' w'' blk (lim + k) l) : Wr w w'' blk lim (k + l) :=
  ⟨g.os.trans h.os, g.tape.trans h.tape, g.output.trans h.output, g.size.trans h.size, fun b hb => (g.other b hb).trans (h.other b hb),
    fun o ho => (g.cell o (by omega)).trans (h.cell o (by omega)), fun o => (g.frz o).trans (h.frz o), fun e => (g.nil (by omega)).trans (h.nil (by omega))⟩

theorem add_eq (blk off n : Nat) : (⟨blk, off, none⟩ : Addr).add n = ⟨blk, off + n, none⟩ := by
  unfold Addr.add; split
  · rename_i h; subst h; rfl
  · rfl

theorem run_storeCells (P : Program) (blk : Nat) : ∀ (vs : List Value) (off i : Nat) (w : World), (∀ v ∈ vs, v.oneCell' = true) →
    (∀ j, j < vs.length → (∃ v, w.cell? ⟨blk, off + i + j, none⟩ = some v) ∧ w.frozen? ⟨blk, off + i + j, none⟩ = false) →
    ∃ w', (storeCells ⟨blk, off, none⟩ vs i).run P w = .ok () w' ∧ Wr w w' blk (off + i) vs.length ∧ ∀ (j : Nat) (v : Value), vs[j]? = some v → w'.cell? ⟨blk, off + i + j, none⟩ = some v
  | [], off, i, w, _, _ => ⟨w, by simp [storeCells], Wr.zero _ _ _, by simp⟩
  | v :: vs, off, i, w, ho, hc => by
    obtain ⟨⟨u, hu⟩, hf⟩ := hc 0 (by simp)
    rw [Nat.add_zero] at hu hf
    have h1 := Wr.set w blk (off + i) v
    obtain ⟨w', hr, hw, hv⟩ := run_storeCells P blk vs off (i + 1) (w.setCell ⟨blk, off + i, none⟩ v) (fun x hx => ho x (List.mem_cons_of_mem _ hx)) (fun j hj => by
      obtain ⟨⟨x, hx⟩, hxf⟩ := hc (j + 1) (by simpa using hj)
      rw [show off + (i + 1) + j = off + i + (j + 1) by omega]
      exact ⟨⟨x, by rw [h1.cell _ (by omega)]; exact hx⟩, by rw [h1.frz]; exact hxf⟩)
    refine ⟨w', ?_, ?_, fun j x hx => ?_⟩
    · simp only [storeCells, add_eq, Sem.run_bind]
      rw [run_store _ _ _ _ _ (ho v (List.mem_cons_self ..))]
      simp only [hu, hf, Bool.false_eq_true, if_false, Result.andThen_ok]
      exact hr
    · have := h1.trans (g := by rw [show off + i + 1 = off + (i + 1) by omega]; exact hw)
      rwa [Nat.add_comm 1] at this
    · cases j with
      | zero =>
        simp at hx; subst hx
        rw [Nat.add_zero, hw.cell _ (by omega)]
        exact World.cell?_setCell_same _ _ _ hu
      | succ j =>
        have := hv j x (by simpa using hx)
        rwa [show off + (i + 1) + j = off + i + (j + 1) by omega] at this

section
variable {Γ : G} (hI : Inv Γ)
include hI

theorem Inv.wrStays {p blk lim k : Nat} {w' : World} (hw : Wr Γ.w w' blk lim k) (hr : ∀ o, lim ≤ o → o < lim + k → Rg Γ p blk o) {S' : Nat → Nat → Prop} (hS : ∀ b o, Γ.S b o → S' b o) :
    Stays Γ.S Γ.w S' w' := fun b o h => ⟨hS b o h, hw.cellAny (by
      by_cases hb : b = blk
      · subst hb
        by_cases h1 : o < lim
        · exact .inr (.inl h1)
        · by_cases h2 : lim + k ≤ o
          · exact .inr (.inr h2)
          · exact absurd (hr o (by omega) (by omega)) ((hI.stay _ o h).2 p)
      · exact .inl hb)⟩

theorem Inv.wrEnt {p q blk lim k : Nat} {w' : World} (hw : Wr Γ.w w' blk lim k) (hr : ∀ o, lim ≤ o → o < lim + k → Rg Γ p blk o) (hq : q ≠ p) {S' : Nat → Nat → Prop} (hS : ∀ b o, Γ.S b o → S' b o) :
    EntC (Γ.φ q) S' w' (Γ.s q).c := by
  have hst := hI.wrStays hw hr hS
  have he := hI.ent q
  unfold EntOk at he
  have hcell : ∀ o, Rg Γ q (Γ.φ q).blk o → w'.cell? ⟨(Γ.φ q).blk, o, none⟩ = Γ.w.cell? ⟨(Γ.φ q).blk, o, none⟩ := fun o ho => hw.cellAny (by
    by_cases hb : (Γ.φ q).blk = blk
    · by_cases h1 : o < lim
      · exact .inr (.inl h1)
      · by_cases h2 : lim + k ≤ o
        · exact .inr (.inr h2)
        · rw [hb] at ho; exact absurd (hr o (by omega) (by omega)) (hI.apart q p _ o hq ho)
    · exact .inl hb)
  unfold EntC at he ⊢
  unfold Rg at hcell
  split at he
  · trivial
  · rename_i xs hx
    rw [hx] at hcell
    refine ⟨by rw [hw.size]; exact he.1, fun o => by rw [hw.frzAny]; exact he.2.1 o, fun i x hi => ?_, fun i hi => ?_⟩
    · obtain ⟨v, h1, h2, h3⟩ := he.2.2.1 i x hi
      exact ⟨v, by rw [hcell _ rfl]; exact h1, h2, V0.mono hst _ _ h3⟩
    · obtain ⟨v, h1⟩ := he.2.2.2 i hi
      exact ⟨v, by rw [hcell _ rfl]; exact h1⟩
  · exact VC.mono hst _ _ _ he
  · rename_i xs hs hx
    rw [hx] at hcell
    refine ⟨by rw [hw.size]; exact he.1, fun o => by rw [hw.frzAny]; exact he.2.1 o, fun i x hi => ?_, fun i hi => ?_⟩
    · obtain ⟨v, h1, h2, h3⟩ := he.2.2.1 i x hi
      exact ⟨v, by rw [hcell _ rfl]; exact h1, h2, V0.mono hst _ _ h3⟩
    · obtain ⟨v, h1⟩ := he.2.2.2 i hi
      exact ⟨v, by rw [hcell _ rfl]; exact h1⟩
  · rename_i e hx
    rw [hx] at hcell
    intro i hi
    obtain ⟨⟨v, h1⟩, h2⟩ := he i hi
    exact ⟨⟨v, by rw [hcell _ ⟨rfl, by omega, by omega⟩]; exact h1⟩, by rw [hw.frzAny]; exact h2⟩

theorem Inv.wrKeep {p q blk lim k : Nat} {w' : World} (hw : Wr Γ.w w' blk lim k) (hr : ∀ o, lim ≤ o → o < lim + k → Rg Γ p blk o) (hq : q ≠ p) {o : Nat} (ho : Rg Γ q (Γ.φ q).blk o) : w'.cell? ⟨(Γ.φ q).blk, o, none⟩ = Γ.w.cell? ⟨(Γ.φ q).blk, o, none⟩ := hw.cellAny (by
    by_cases hb : (Γ.φ q).blk = blk
    · by_cases h1 : o < lim
      · exact .inr (.inl h1)
      · by_cases h2 : lim + k ≤ o
        · exact .inr (.inr h2)
        · rw [hb] at ho; exact absurd (hr o (by omega) (by omega)) (hI.apart q p _ o hq ho)
    · exact .inl hb)

theorem Inv.storeC {p t : Nat} {xs xs' : List AV} {c c' : Cell} (hp : Γ.s p = ⟨t, c⟩) (hc0 : c = .buf xs ∨ ∃ hs, c = .mix xs hs) (hc1 : c' = .buf xs' ∨ ∃ hs, c' = .mix xs' hs) {w' : World} {lim k : Nat} (hw : Wr Γ.w w' (Γ.φ p).blk lim k) (hl : xs'.length = xs.length)
    (hc : ∀ (i : Nat) (x : AV), xs'[i]? = some x → ∃ v, w'.cell? ⟨(Γ.φ p).blk, (Γ.φ p).base + i, none⟩ = some v ∧ v.oneCell' = true ∧ V0 Γ.S Γ.w x v)
    (hmx : ∀ hs, c' = .mix xs' hs → ∀ off x, (off, x) ∈ hs → HeldOk x ∧ ∃ v, w'.cell? ⟨(Γ.φ p).blk, (Γ.φ p).base + off, none⟩ = some v ∧ V Γ x v)
    (hk : lim + k ≤ (Γ.φ p).base + xs.length) :
    Inv { Γ with s := upd Γ.s p ⟨t, c'⟩, w := w' } ∧ Ext Γ { Γ with s := upd Γ.s p ⟨t, c'⟩, w := w' } := by
  have hrp : ∀ b o, Rg Γ p b o ↔ b = (Γ.φ p).blk := fun b o => by
    unfold Rg; rw [hp]
    rcases hc0 with rfl | ⟨hs, rfl⟩ <;> simp
  have hr : ∀ o, lim ≤ o → o < lim + k → Rg Γ p (Γ.φ p).blk o := fun o _ _ => (hrp _ _).2 rfl
  have hst := hI.wrStays hw hr (S' := Γ.S) (fun _ _ h => h)
  have hrg : ∀ q b o, Rg { Γ with s := upd Γ.s p ⟨t, c'⟩, w := w' } q b o ↔ Rg Γ q b o := fun q b o => by
    by_cases hq : q = p
    · subst hq
      rw [hrp]
      unfold Rg
      simp only [upd_same]
      rcases hc1 with rfl | ⟨hs, rfl⟩ <;> simp
    · unfold Rg
      simp [upd_ne _ _ hq]
  have hmain : Inv0 { Γ with s := upd Γ.s p ⟨t, c'⟩, w := w' } ∧ Ext Γ { Γ with s := upd Γ.s p ⟨t, c'⟩, w := w' } := by
    refine ⟨⟨fun q => ?_, fun q r b o hqr h1 h2 => hI.apart q r b o hqr ((hrg ..).1 h1) ((hrg ..).1 h2), fun b o h => ⟨by show b < w'.heap.size; rw [hw.size]; exact (hI.stay b o h).1, fun q hq => (hI.stay b o h).2 q ((hrg ..).1 hq)⟩⟩,
      hst, hw.os, hw.tape, hw.output, by show _ ≤ w'.heap.size; rw [hw.size]; exact Nat.le_refl _, fun b _ hn => ?_, fun b o _ hn => ?_, fun b o _ _ => hw.frzAny b o, fun _ _ h => .inl h, fun q b o h => .inl ⟨q, (hrg ..).1 h⟩, fun q => ?_, fun q u ys hu h => ?_, fun q u e hu h => ?_⟩
    · unfold EntOk
      by_cases hq : q = p
      · subst hq
        have he := hI.ent q
        unfold EntOk at he
        rw [hp] at he
        have he : (Γ.φ q).blk < Γ.w.heap.size ∧ (∀ o, Γ.w.frozen? ⟨(Γ.φ q).blk, o, none⟩ = false) ∧ (∀ i, i < (Γ.φ q).spare → ∃ v, Γ.w.cell? ⟨(Γ.φ q).blk, (Γ.φ q).base + xs.length + i, none⟩ = some v) := by
          rcases hc0 with rfl | ⟨hs, rfl⟩ <;> exact ⟨he.1, he.2.1, he.2.2.2⟩
        have key : (Γ.φ q).blk < w'.heap.size ∧ (∀ o, w'.frozen? ⟨(Γ.φ q).blk, o, none⟩ = false) ∧ (∀ (i : Nat) (x : AV), xs'[i]? = some x → ∃ v, w'.cell? ⟨(Γ.φ q).blk, (Γ.φ q).base + i, none⟩ = some v ∧ v.oneCell' = true ∧ V0 Γ.S w' x v) ∧
            (∀ i, i < (Γ.φ q).spare → ∃ v, w'.cell? ⟨(Γ.φ q).blk, (Γ.φ q).base + xs'.length + i, none⟩ = some v) := by
          refine ⟨by rw [hw.size]; exact he.1, fun o => by rw [hw.frzAny]; exact he.2.1 o, fun i x hx => ?_, fun i hi => ?_⟩
          · obtain ⟨v, h1, h2, h3⟩ := hc i x hx
            exact ⟨v, h1, h2, V0.mono hst _ _ h3⟩
          · obtain ⟨v, h1⟩ := he.2.2 i hi
            refine ⟨v, ?_⟩
            rw [hl, hw.cell _ (.inr (by omega))]; exact h1
        simp only [upd_same]
        rcases hc1 with rfl | ⟨hs, rfl⟩ <;> exact key
      · simp only [upd_ne _ _ hq]
        exact hI.wrEnt hw hr hq (fun _ _ h => h)
    · have : b ≠ (Γ.φ p).blk := fun e => hn p 0 ((hrp _ _).2 e)
      exact hw.other b this
    · have : b ≠ (Γ.φ p).blk := fun e => hn p ((hrp _ _).2 e)
      exact hw.cellAny (.inl this)
    · by_cases hq : q = p
      · subst hq; simp [hp]
      · simp [upd_ne _ _ hq]
    · by_cases hq : q = p
      · subst hq
        have h' : (if t = u then some xs' else none) = some ys := by
          unfold cellsAt at h
          simp only [upd_same] at h
          rcases hc1 with rfl | ⟨hs, rfl⟩ <;> exact h
        split at h'
        · rename_i htu
          cases h'
          refine ⟨⟨xs, ?_, hl⟩, rfl⟩
          unfold cellsAt
          rw [hp]
          rcases hc0 with rfl | ⟨hs, rfl⟩ <;> simp [htu]
        · cases h'
      · refine ⟨⟨ys, ?_, rfl⟩, rfl⟩
        unfold cellsAt at h ⊢
        simpa [upd_ne _ _ hq] using h
    · by_cases hq : q = p
      · subst hq
        simp only [upd_same] at h
        rcases hc1 with rfl | ⟨hs, rfl⟩ <;> simp at h
      · simpa [upd_ne _ _ hq] using h
  refine ⟨⟨hmain.1, fun q u ys hs h off x hx => ?_⟩, hmain.2⟩
  by_cases hq : q = p
  · subst hq
    simp only [upd_same] at h
    cases h
    rcases hc1 with h | ⟨hs', h⟩
    · cases h
    · cases h
      obtain ⟨h1, v, h2, h3⟩ := hmx hs rfl off x hx
      exact ⟨h1, v, h2, V.ext hmain.2 h3⟩
  · have h0 : Γ.s q = ⟨u, .mix ys hs⟩ := by simpa [upd_ne _ _ hq] using h
    obtain ⟨h1, v, h2, h3⟩ := hI.mix q u ys hs h0 off x hx
    refine ⟨h1, v, ?_, V.ext hmain.2 h3⟩
    show w'.cell? _ = _
    rw [hI.wrKeep hw hr hq (by unfold Rg; rw [h0])]; exact h2

theorem Inv.store {p t : Nat} {xs xs' : List AV} (hp : Γ.s p = ⟨t, .buf xs⟩) {w' : World} {lim k : Nat} (hw : Wr Γ.w w' (Γ.φ p).blk lim k) (hl : xs'.length = xs.length)
    (hc : ∀ (i : Nat) (x : AV), xs'[i]? = some x → ∃ v, w'.cell? ⟨(Γ.φ p).blk, (Γ.φ p).base + i, none⟩ = some v ∧ v.oneCell' = true ∧ V0 Γ.S Γ.w x v)
    (hk : lim + k ≤ (Γ.φ p).base + xs.length) :
    Inv { Γ with s := upd Γ.s p ⟨t, .buf xs'⟩, w := w' } ∧ Ext Γ { Γ with s := upd Γ.s p ⟨t, .buf xs'⟩, w := w' } :=
  hI.storeC hp (.inl rfl) (.inl rfl) hw hl hc (fun hs h => by cases h) hk

theorem Inv.freeze {p t : Nat} {xs : List AV} (hp : Γ.s p = ⟨t, .buf xs⟩) :
    let Γ' : G := { Γ with s := upd Γ.s p ⟨t, .frz xs⟩, S := fun b o => Γ.S b o ∨ (b = (Γ.φ p).blk ∧ (Γ.φ p).base ≤ o ∧ o < (Γ.φ p).base + xs.length) }
    Inv Γ' ∧ Ext Γ Γ' := by
  intro Γ'
  have he := hI.ent p
  unfold EntOk at he
  rw [hp] at he
  have hst : Stays Γ.S Γ.w Γ'.S Γ'.w := fun b o h => ⟨.inl h, rfl⟩
  have hrg : ∀ q b o, Rg Γ' q b o → Rg Γ q b o ∧ q ≠ p := fun q b o h => by
    unfold Rg at h ⊢
    by_cases hq : q = p
    · subst hq; simp [Γ'] at h
    · simp [Γ', upd_ne _ _ hq] at h; exact ⟨h, hq⟩
  refine hI.more (fun q u ys hs h => ?_) ?_
  · by_cases hq : q = p
    · subst hq; simp [Γ'] at h
    · exact ⟨by simpa [Γ', upd_ne _ _ hq] using h, rfl, fun _ _ => rfl⟩
  refine ⟨⟨fun q => ?_, fun q r b o hqr h1 h2 => hI.apart q r b o hqr (hrg _ _ _ h1).1 (hrg _ _ _ h2).1, fun b o h => ?_⟩,
    hst, rfl, rfl, rfl, Nat.le_refl _, fun _ _ _ => rfl, fun _ _ _ _ => rfl, fun _ _ _ _ => rfl, fun b o h => ?_, fun q b o h => .inl ⟨q, (hrg _ _ _ h).1⟩, fun q => ?_, fun q u ys hu h => ?_, fun q u e hu h => ?_⟩
  · unfold EntOk
    by_cases hq : q = p
    · subst hq
      simp only [Γ', upd_same, EntC]
      refine (VC_iff _ _ _).2 fun i x hx => ⟨.inr ⟨rfl, by omega, ?_⟩, ?_⟩
      · have : i < xs.length := by
          rcases Nat.lt_or_ge i xs.length with h | h
          · exact h
          · rw [List.getElem?_eq_none h] at hx; cases hx
        omega
      · obtain ⟨v, h1, h2, h3⟩ := he.2.2.1 i x hx
        exact ⟨v, h1, h2, V0.mono hst _ _ h3⟩
    · have hq' := hI.ent q
      unfold EntOk at hq'
      simp only [Γ', upd_ne _ _ hq]
      unfold EntC at hq' ⊢
      split at hq'
      · trivial
      · exact ⟨hq'.1, hq'.2.1, fun i x hx => by obtain ⟨v, h1, h2, h3⟩ := hq'.2.2.1 i x hx; exact ⟨v, h1, h2, V0.mono hst _ _ h3⟩, hq'.2.2.2⟩
      · exact VC.mono hst _ _ _ hq'
      · exact ⟨hq'.1, hq'.2.1, fun i x hx => by obtain ⟨v, h1, h2, h3⟩ := hq'.2.2.1 i x hx; exact ⟨v, h1, h2, V0.mono hst _ _ h3⟩, hq'.2.2.2⟩
      · exact hq'
  · rcases h with h | ⟨rfl, h1, h2⟩
    · exact ⟨(hI.stay b o h).1, fun q hq => (hI.stay b o h).2 q (hrg _ _ _ hq).1⟩
    · refine ⟨he.1, fun q hq => ?_⟩
      obtain ⟨h3, h4⟩ := hrg _ _ _ hq
      exact hI.apart q p _ o h4 h3 (by unfold Rg; rw [hp])
  · rcases h with h | ⟨rfl, h1, h2⟩
    · exact .inl h
    · exact .inr (.inl ⟨p, by unfold Rg; rw [hp]⟩)
  · by_cases hq : q = p
    · subst hq; simp [Γ', hp]
    · simp [Γ', upd_ne _ _ hq]
  · by_cases hq : q = p
    · subst hq
      rcases cellsAt_cases h with h' | h' | ⟨_, h'⟩ <;> simp [Γ'] at h'
      obtain ⟨rfl, rfl⟩ := h'
      exact ⟨⟨xs, by simp [cellsAt, hp], rfl⟩, rfl⟩
    · refine ⟨⟨ys, ?_, rfl⟩, rfl⟩
      unfold cellsAt at h ⊢
      simpa [Γ', upd_ne _ _ hq] using h
  · by_cases hq : q = p
    · subst hq; simp [Γ'] at h
    · simpa [Γ', upd_ne _ _ hq] using h

theorem Inv.kill {p t : Nat} (ht : (Γ.s p).t ≤ t) :
    Inv { Γ with s := upd Γ.s p ⟨t, .dead⟩ } ∧ Ext Γ { Γ with s := upd Γ.s p ⟨t, .dead⟩ } := by
  have hrg : ∀ q b o, Rg { Γ with s := upd Γ.s p ⟨t, .dead⟩ } q b o → Rg Γ q b o := fun q b o h => by
    unfold Rg at h ⊢
    by_cases hq : q = p
    · subst hq; simp at h
    · simpa [upd_ne _ _ hq] using h
  refine hI.more (fun q u ys hs h => ?_) ?_
  · by_cases hq : q = p
    · subst hq; simp at h
    · exact ⟨by simpa [upd_ne _ _ hq] using h, rfl, fun _ _ => rfl⟩
  refine ⟨⟨fun q => ?_, fun q r b o hqr h1 h2 => hI.apart q r b o hqr (hrg _ _ _ h1) (hrg _ _ _ h2), fun b o h => ⟨(hI.stay b o h).1, fun q hq => (hI.stay b o h).2 q (hrg _ _ _ hq)⟩⟩,
    .refl _ _, rfl, rfl, rfl, Nat.le_refl _, fun _ _ _ => rfl, fun _ _ _ _ => rfl, fun _ _ _ _ => rfl, fun _ _ h => .inl h, fun q b o h => .inl ⟨q, hrg _ _ _ h⟩, fun q => ?_, fun q u ys hu h => ?_, fun q u e hu h => ?_⟩
  · unfold EntOk
    by_cases hq : q = p
    · subst hq; simp [EntC]
    · simp only [upd_ne _ _ hq]; exact hI.ent q
  · by_cases hq : q = p
    · subst hq; simpa using ht
    · simp [upd_ne _ _ hq]
  · by_cases hq : q = p
    · subst hq; rcases cellsAt_cases h with h' | h' | ⟨_, h'⟩ <;> simp at h'
    · refine ⟨⟨ys, ?_, rfl⟩, rfl⟩
      unfold cellsAt at h ⊢
      simpa [upd_ne _ _ hq] using h
  · by_cases hq : q = p
    · subst hq; simp at h
    · simpa [upd_ne _ _ hq] using h

theorem Inv.tok0 {d t e : Nat} (ht : (Γ.s d).t < t) :
    let Γ' : G := { Γ with φ := upd Γ.φ d ⟨0, 0, 0⟩, s := upd Γ.s d ⟨t, .tok e⟩ }
    Inv Γ' ∧ Ext Γ Γ' := by
  intro Γ'
  have hrg : ∀ q b o, Rg Γ' q b o → Rg Γ q b o := fun q b o h => by
    unfold Rg at h ⊢
    by_cases hq : q = d
    · subst hq; simp [Γ'] at h
    · simpa [Γ', upd_ne _ _ hq] using h
  refine hI.more (fun q u ys hs h => ?_) ?_
  · by_cases hq : q = d
    · subst hq; simp [Γ'] at h
    · exact ⟨by simpa [Γ', upd_ne _ _ hq] using h, by simp [Γ', upd_ne _ _ hq], fun _ _ => rfl⟩
  refine ⟨⟨fun q => ?_, fun q r b o hqr h1 h2 => hI.apart q r b o hqr (hrg _ _ _ h1) (hrg _ _ _ h2), fun b o h => ⟨(hI.stay b o h).1, fun q hq => (hI.stay b o h).2 q (hrg _ _ _ hq)⟩⟩,
    .refl _ _, rfl, rfl, rfl, Nat.le_refl _, fun _ _ _ => rfl, fun _ _ _ _ => rfl, fun _ _ _ _ => rfl, fun _ _ h => .inl h, fun q b o h => .inl ⟨q, hrg _ _ _ h⟩, fun q => ?_, fun q u ys hu h => ?_, fun q u e hu h => ?_⟩
  · unfold EntOk
    by_cases hq : q = d
    · subst hq; simp [EntC, Γ']
    · simp only [Γ', upd_ne _ _ hq]; exact hI.ent q
  · by_cases hq : q = d
    · subst hq; simp [Γ']; omega
    · simp [Γ', upd_ne _ _ hq]
  · by_cases hq : q = d
    · subst hq; rcases cellsAt_cases h with h' | h' | ⟨_, h'⟩ <;> simp [Γ'] at h'
    · refine ⟨⟨ys, ?_, rfl⟩, by simp [Γ', upd_ne _ _ hq]⟩
      unfold cellsAt at h ⊢
      simpa [Γ', upd_ne _ _ hq] using h
  · by_cases hq : q = d
    · subst hq; simp [Γ'] at h; omega
    · refine ⟨by simpa [Γ', upd_ne _ _ hq] using h, by simp [Γ', upd_ne _ _ hq]⟩

theorem Inv.allocTok {d t e : Nat} (ht : (Γ.s d).t < t) (arr : Array Value) (ty : TypeId) (xs : List AV) (vs : List Value) (hv : VL Γ.S Γ.w xs vs) (rest : List Value) (ha : arr.toList = vs ++ rest) :
    let Γ' : G := { φ := upd Γ.φ d ⟨Γ.w.heap.size, xs.length, rest.length⟩, s := upd Γ.s d ⟨t, .tok e⟩, S := fun b o => Γ.S b o ∨ (b = Γ.w.heap.size ∧ o < xs.length), w := Γ.w.alloc (.cells arr ty) }
    Inv Γ' ∧ Ext Γ Γ' ∧ VC Γ'.S Γ'.w xs Γ.w.heap.size 0 := by
  intro Γ'
  have hst : Stays Γ.S Γ.w Γ'.S Γ'.w := fun b o h => ⟨.inl h, World.cell?_alloc_lt _ _ _ (hI.stay b o h).1⟩
  have hlen : xs.length = vs.length := ((VL_iff _ _).1 hv).1
  have hcell : ∀ i v, arr.toList[i]? = some v → Γ'.w.cell? ⟨Γ.w.heap.size, i, none⟩ = some v := fun i v h => by
    show (Γ.w.alloc _).cell? _ = _
    rw [World.cell?_alloc_new]; simpa using h
  have hold : ∀ p, p ≠ d → ∀ b o, Rg Γ' p b o ↔ Rg Γ p b o := fun p hp b o => by
    unfold Rg; simp only [Γ', upd_ne _ _ hp]
  have hnew : ∀ b o, Rg Γ' d b o → b = Γ.w.heap.size ∧ xs.length ≤ o := fun b o h => by
    unfold Rg at h; simp [Γ', upd_same] at h; exact ⟨h.1, h.2.1⟩
  have hvc : VC Γ'.S Γ'.w xs Γ.w.heap.size 0 := (VC_iff _ _ _).2 fun i x hx => by
    obtain ⟨v, h1, h2, h3⟩ := ((VL_iff _ _).1 hv).2 i x hx
    have hi : i < vs.length := by
      rcases Nat.lt_or_ge i vs.length with h' | h'
      · exact h'
      · rw [List.getElem?_eq_none h'] at h1; cases h1
    refine ⟨.inr ⟨rfl, by omega⟩, v, ?_, h2, V0.mono hst _ _ h3⟩
    rw [Nat.zero_add]
    refine hcell i v ?_
    rw [ha, List.getElem?_append_left hi]; exact h1
  suffices hmain : Inv Γ' ∧ Ext Γ Γ' from ⟨hmain.1, hmain.2, hvc⟩
  refine hI.more (fun p t xs hs h => ?_) ?_
  · by_cases hp : p = d
    · subst hp; simp [Γ'] at h
    · refine ⟨by simpa [Γ', upd_ne _ _ hp] using h, by simp [Γ', upd_ne _ _ hp], fun o ⟨v, hv⟩ => World.cell?_alloc_lt _ _ _ (World.block_lt_of_cell? _ _ hv)⟩
  refine ⟨⟨fun p => ?_, fun p q b o hpq hp hq => ?_, fun b o h => ⟨?_, fun p hp => ?_⟩⟩, ⟨hst, rfl, rfl, rfl, ?_, ?_, ?_, fun b o hb _ => World.frozen?_alloc_old _ _ _ (Nat.ne_of_lt hb), fun b o h => ?_, ?_, ?_, ?_, ?_⟩⟩
  · by_cases hp : p = d
    · subst hp
      unfold EntOk
      simp only [Γ', upd_same, EntC]
      intro i hi
      refine ⟨⟨rest[i], hcell _ _ ?_⟩, World.frozen?_alloc_new _ _ _ _⟩
      rw [ha, hlen, List.getElem?_append_right (by omega), Nat.add_sub_cancel_left]
      exact List.getElem?_eq_getElem hi
    · have he := hI.ent p
      unfold EntOk at he ⊢
      simp only [Γ', upd_ne _ _ hp]
      unfold EntC at he ⊢
      split at he
      · trivial
      · rename_i ys hy
        have hb := he.1
        refine ⟨by simp; omega, fun o => ?_, fun i x hx => ?_, fun i hi => ?_⟩
        · rw [World.frozen?_alloc_old _ _ _ (Nat.ne_of_lt hb)]; exact he.2.1 o
        · obtain ⟨v, h1, h2, h3⟩ := he.2.2.1 i x hx
          exact ⟨v, cell_alloc_old h1, h2, V0.mono hst _ _ h3⟩
        · obtain ⟨v, h1⟩ := he.2.2.2 i hi
          exact ⟨v, cell_alloc_old h1⟩
      · exact VC.mono hst _ _ _ he
      · rename_i ys hs hy
        have hb := he.1
        refine ⟨by simp; omega, fun o => ?_, fun i x hx => ?_, fun i hi => ?_⟩
        · rw [World.frozen?_alloc_old _ _ _ (Nat.ne_of_lt hb)]; exact he.2.1 o
        · obtain ⟨v, h1, h2, h3⟩ := he.2.2.1 i x hx
          exact ⟨v, cell_alloc_old h1, h2, V0.mono hst _ _ h3⟩
        · obtain ⟨v, h1⟩ := he.2.2.2 i hi
          exact ⟨v, cell_alloc_old h1⟩
      · intro i hi
        obtain ⟨⟨v, h1⟩, h2⟩ := he i hi
        refine ⟨⟨v, cell_alloc_old h1⟩, ?_⟩
        rw [World.frozen?_alloc_old _ _ _ (Nat.ne_of_lt (World.block_lt_of_cell? _ _ h1))]; exact h2
  · by_cases hpd : p = d
    · subst hpd
      have h1 := (hnew b o hp).1
      have h2 := hI.blk ((hold q (Ne.symm hpq) b o).1 hq)
      omega
    · by_cases hqd : q = d
      · subst hqd
        have h1 := (hnew b o hq).1
        have h2 := hI.blk ((hold p hpd b o).1 hp)
        omega
      · exact hI.apart p q b o hpq ((hold p hpd b o).1 hp) ((hold q hqd b o).1 hq)
  · show b < (Γ.w.alloc _).heap.size
    rcases h with h | ⟨rfl, _⟩
    · have := (hI.stay b o h).1
      simp; omega
    · simp
  · by_cases hpd : p = d
    · subst hpd
      obtain ⟨h1, h2⟩ := hnew b o hp
      rcases h with h | ⟨_, h3⟩
      · have := (hI.stay b o h).1; omega
      · omega
    · have h1 := (hold p hpd b o).1 hp
      rcases h with h | ⟨rfl, _⟩
      · exact (hI.stay b o h).2 p h1
      · have := hI.blk h1; omega
  · show _ ≤ (Γ.w.alloc _).heap.size
    simp
  · intro b hb _
    show (Γ.w.heap.push _)[b]? = _
    rw [Array.getElem?_push, if_neg (by omega)]
  · intro b o hb _
    exact World.cell?_alloc_lt _ _ _ hb
  · rcases h with h | ⟨rfl, _⟩
    · exact .inl h
    · exact .inr (.inr (Nat.le_refl _))
  · intro p b o hp
    by_cases hpd : p = d
    · subst hpd; have := (hnew b o hp).1; exact .inr (by omega)
    · exact .inl ⟨p, (hold p hpd b o).1 hp⟩
  · intro p
    by_cases hpd : p = d
    · subst hpd; simp [Γ']; omega
    · simp [Γ', upd_ne _ _ hpd]
  · intro p u ys hu hc
    by_cases hpd : p = d
    · subst hpd
      rcases cellsAt_cases hc with h | h | ⟨_, h⟩ <;> simp [Γ'] at h
    · refine ⟨⟨ys, ?_, rfl⟩, by simp [Γ', upd_ne _ _ hpd]⟩
      unfold cellsAt at hc ⊢
      simpa [Γ', upd_ne _ _ hpd] using hc
  · intro p u e hu hc
    by_cases hpd : p = d
    · subst hpd; simp [Γ'] at hc; omega
    · refine ⟨by simpa [Γ', upd_ne _ _ hpd] using hc, by simp [Γ', upd_ne _ _ hpd]⟩

theorem Inv.row {w' : World} (hos : w'.os = Γ.w.os) (htape : w'.tape = Γ.w.tape) (hout : w'.output = Γ.w.output) (hsize : w'.heap.size = Γ.w.heap.size + 1)
    (hold : ∀ k, k < Γ.w.heap.size → w'.heap[k]? = Γ.w.heap[k]?) (xs : List AV) (vs : List Value) (hv : VL Γ.S Γ.w xs vs)
    (hcell : ∀ (i : Nat) (v : Value), vs[i]? = some v → w'.cell? ⟨Γ.w.heap.size, i, none⟩ = some v) :
    ∃ Γ' : G, Γ'.s = Γ.s ∧ Γ'.w = w' ∧ Inv Γ' ∧ Ext Γ Γ' ∧ VC Γ'.S Γ'.w xs Γ.w.heap.size 0 := by
  let Γ' : G := { Γ with S := fun b o => Γ.S b o ∨ (b = Γ.w.heap.size ∧ o < xs.length), w := w' }
  have hst : Stays Γ.S Γ.w Γ'.S Γ'.w := fun b o h => ⟨.inl h, cell_of_block (hold b (hI.stay b o h).1) o⟩
  have hlen : xs.length = vs.length := ((VL_iff _ _).1 hv).1
  have hlt : ∀ {b o v}, Γ.w.cell? ⟨b, o, none⟩ = some v → b < Γ.w.heap.size := fun h => World.block_lt_of_cell? _ _ h
  have hvc : VC Γ'.S Γ'.w xs Γ.w.heap.size 0 := (VC_iff _ _ _).2 fun i x hx => by
    obtain ⟨v, h1, h2, h3⟩ := ((VL_iff _ _).1 hv).2 i x hx
    have hi : i < vs.length := by
      rcases Nat.lt_or_ge i vs.length with h' | h'
      · exact h'
      · rw [List.getElem?_eq_none h'] at h1; cases h1
    refine ⟨.inr ⟨rfl, by omega⟩, v, ?_, h2, V0.mono hst _ _ h3⟩
    rw [Nat.zero_add]
    exact hcell i v h1
  suffices hmain : Inv Γ' ∧ Ext Γ Γ' from ⟨Γ', rfl, rfl, hmain.1, hmain.2, hvc⟩
  refine hI.more (fun p t xs hs h => ⟨h, rfl, fun o ⟨v, hv⟩ => cell_of_block (hold _ (hlt hv)) o⟩) ?_
  refine ⟨⟨fun p => ?_, hI.apart, fun b o h => ⟨?_, fun p hp => ?_⟩⟩, ⟨hst, hos, htape, hout, ?_, ?_, ?_, fun b o hb _ => frozen_of_block (hold b hb) o, fun b o h => ?_, fun p b o h => .inl ⟨p, h⟩, fun _ => Nat.le_refl _, fun _ _ xs _ h => ⟨⟨xs, h, rfl⟩, rfl⟩, fun _ _ _ _ h => ⟨h, rfl⟩⟩⟩
  · have he := hI.ent p
    unfold EntOk at he ⊢
    show EntC (Γ.φ p) Γ'.S Γ'.w (Γ.s p).c
    unfold EntC at he ⊢
    split at he
    · trivial
    · rename_i ys hy
      have hb := he.1
      refine ⟨by show _ < w'.heap.size; omega, fun o => ?_, fun i x hx => ?_, fun i hi => ?_⟩
      · show w'.frozen? _ = _
        rw [frozen_of_block (hold _ hb)]; exact he.2.1 o
      · obtain ⟨v, h1, h2, h3⟩ := he.2.2.1 i x hx
        exact ⟨v, (cell_of_block (hold _ hb) _).trans h1, h2, V0.mono hst _ _ h3⟩
      · obtain ⟨v, h1⟩ := he.2.2.2 i hi
        exact ⟨v, (cell_of_block (hold _ hb) _).trans h1⟩
    · exact VC.mono hst _ _ _ he
    · rename_i ys hs hy
      have hb := he.1
      refine ⟨by show _ < w'.heap.size; omega, fun o => ?_, fun i x hx => ?_, fun i hi => ?_⟩
      · show w'.frozen? _ = _
        rw [frozen_of_block (hold _ hb)]; exact he.2.1 o
      · obtain ⟨v, h1, h2, h3⟩ := he.2.2.1 i x hx
        exact ⟨v, (cell_of_block (hold _ hb) _).trans h1, h2, V0.mono hst _ _ h3⟩
      · obtain ⟨v, h1⟩ := he.2.2.2 i hi
        exact ⟨v, (cell_of_block (hold _ hb) _).trans h1⟩
    · intro i hi
      obtain ⟨⟨v, h1⟩, h2⟩ := he i hi
      have hb := hlt h1
      refine ⟨⟨v, (cell_of_block (hold _ hb) _).trans h1⟩, ?_⟩
      show w'.frozen? _ = _
      rw [frozen_of_block (hold _ hb)]; exact h2
  · show b < w'.heap.size
    rcases h with h | ⟨rfl, _⟩
    · have := (hI.stay b o h).1
      omega
    · omega
  · rcases h with h | ⟨rfl, _⟩
    · exact (hI.stay b o h).2 p hp
    · have := hI.blk (p := p) (b := Γ.w.heap.size) (o := o) hp; omega
  · show _ ≤ w'.heap.size
    omega
  · intro b hb _
    exact hold b hb
  · intro b o hb _
    exact cell_of_block (hold b hb) o
  · rcases h with h | ⟨rfl, _⟩
    · exact .inl h
    · exact .inr (.inr (Nat.le_refl _))
end
end Go.Ab

/- The room behind a slice is filled in place. No conditions. -/
namespace Go.Ab
section
variable {Γ : G} (hI : Inv Γ)
include hI

theorem Inv.grow {p d t' e blk lim lo sp k : Nat} {c' : Cell} {w' : World}
    (hreg : ∀ o, lim ≤ o → o < lim + sp → Rg Γ p blk o) (hcells : ∀ i, i < sp → (∃ v, Γ.w.cell? ⟨blk, lim + i, none⟩ = some v) ∧ Γ.w.frozen? ⟨blk, lim + i, none⟩ = false)
    (hk : k ≤ sp) (hw : Wr Γ.w w' blk lim k) (ys : List AV) (hys : ys.length = k)
    (hv : ∀ (i : Nat) (x : AV), ys[i]? = some x → ∃ v, w'.cell? ⟨blk, lim + i, none⟩ = some v ∧ v.oneCell' = true ∧ V0 Γ.S Γ.w x v)
    (hc : (c' = .dead ∧ lo = lim) ∨ ∃ xs, (Γ.s p).c = .buf xs ∧ c' = .frz xs ∧ blk = (Γ.φ p).blk ∧ lim = (Γ.φ p).base + xs.length ∧ lo = (Γ.φ p).base)
    (ht : (Γ.s d).t < t') :
    let Γ' : G := { φ := upd Γ.φ d ⟨blk, lim + k, sp - k⟩, s := upd (upd Γ.s p ⟨(Γ.s p).t, c'⟩) d ⟨t', .tok e⟩, S := fun b o => Γ.S b o ∨ (b = blk ∧ lo ≤ o ∧ o < lim + k), w := w' }
    Inv Γ' ∧ Ext Γ Γ' ∧ VC Γ'.S Γ'.w ys blk lim ∧ ∀ xs, (Γ.s p).c = .buf xs → c' = .frz xs → VC Γ'.S Γ'.w xs (Γ.φ p).blk (Γ.φ p).base := by
  intro Γ'
  have hr : ∀ o, lim ≤ o → o < lim + k → Rg Γ p blk o := fun o h1 h2 => hreg o h1 (by omega)
  have hlo : ∀ o, lo ≤ o → o < lim + k → Rg Γ p blk o := fun o h1 h2 => by
    rcases hc with ⟨_, hl⟩ | ⟨xs, hx, _, hb, _, _⟩
    · exact hr o (by omega) h2
    · unfold Rg; rw [hx]; exact hb
  have hst : Stays Γ.S Γ.w Γ'.S Γ'.w := hI.wrStays hw hr (fun _ _ h => .inl h)
  have hd : ∀ b o, Rg Γ' d b o → b = blk ∧ lim + k ≤ o ∧ o < lim + sp := fun b o h => by
    unfold Rg at h; simp [Γ'] at h; exact ⟨h.1, h.2.1, by omega⟩
  have hne : ∀ q, q ≠ d → ∀ b o, Rg Γ' q b o → q ≠ p ∧ Rg Γ q b o := fun q hq b o h => by
    unfold Rg at h
    by_cases hqp : q = p
    · subst hqp
      simp [Γ', upd_ne _ _ hq] at h
      rcases hc with ⟨rfl, _⟩ | ⟨xs, _, rfl, _⟩ <;> exact h.elim
    · refine ⟨hqp, ?_⟩
      unfold Rg
      simpa [Γ', upd_ne _ _ hq, upd_ne _ _ hqp] using h
  have hvc : VC Γ'.S Γ'.w ys blk lim := (VC_iff _ _ _).2 fun i x hx => by
    obtain ⟨v, h1, h2, h3⟩ := hv i x hx
    have hi : i < ys.length := by
      rcases Nat.lt_or_ge i ys.length with h | h
      · exact h
      · rw [List.getElem?_eq_none h] at hx; cases hx
    have hll : lo ≤ lim := by
      rcases hc with ⟨_, hl⟩ | ⟨xs, _, _, _, h5, h6⟩ <;> omega
    exact ⟨.inr ⟨rfl, by omega, by omega⟩, v, h1, h2, V0.mono hst _ _ h3⟩
  have hfr : ∀ xs, (Γ.s p).c = .buf xs → c' = .frz xs → VC Γ'.S Γ'.w xs (Γ.φ p).blk (Γ.φ p).base := fun xs hx hq => by
    rcases hc with ⟨rfl, _⟩ | ⟨xs', hx', rfl, hb, hl, hlo'⟩
    · cases hq
    · cases hq
      have he := hI.ent p
      unfold EntOk at he
      rw [hx] at he
      refine (VC_iff _ _ _).2 fun i x hx' => ?_
      have hi : i < xs.length := by
        rcases Nat.lt_or_ge i xs.length with h | h
        · exact h
        · rw [List.getElem?_eq_none h] at hx'; cases hx'
      obtain ⟨v, h1, h2, h3⟩ := he.2.2.1 i x hx'
      refine ⟨.inr ⟨hb.symm, by omega, by omega⟩, v, ?_, h2, V0.mono hst _ _ h3⟩
      rw [← hb]
      rw [hw.cell _ (.inl (by omega)), hb]; exact h1
  suffices hmain : Inv Γ' ∧ Ext Γ Γ' from ⟨hmain.1, hmain.2, hvc, hfr⟩
  refine hI.more (fun q u ys hs h => ?_) ?_
  · by_cases hq : q = d
    · subst hq; simp [Γ'] at h
    · by_cases hqp : q = p
      · subst hqp
        rcases hc with ⟨rfl, _⟩ | ⟨xs, hx, rfl, _⟩ <;> simp [Γ', upd_ne _ _ hq] at h
      · have h0 : Γ.s q = ⟨u, .mix ys hs⟩ := by simpa [Γ', upd_ne _ _ hq, upd_ne _ _ hqp] using h
        exact ⟨h0, by simp [Γ', upd_ne _ _ hq], fun o _ => hI.wrKeep hw hr hqp (by unfold Rg; rw [h0])⟩
  refine ⟨⟨fun q => ?_, fun q r b o hqr h1 h2 => ?_, fun b o h => ?_⟩,
    ⟨hst, hw.os, hw.tape, hw.output, by show _ ≤ w'.heap.size; rw [hw.size]; exact Nat.le_refl _, fun b hb hn => ?_, fun b o hb hn => ?_, fun b o _ _ => hw.frzAny b o, fun b o h => ?_, fun q b o h => ?_, fun q => ?_, fun q u ys' hu h => ?_, fun q u e' hu h => ?_⟩⟩
  · unfold EntOk
    by_cases hq : q = d
    · subst hq
      simp only [Γ', upd_same, EntC]
      intro i hi
      obtain ⟨⟨v, h1⟩, h2⟩ := hcells (k + i) (by omega)
      rw [← Nat.add_assoc] at h1 h2
      exact ⟨⟨v, by rw [hw.cell _ (.inr (by omega))]; exact h1⟩, by rw [hw.frz]; exact h2⟩
    · simp only [Γ', upd_ne _ _ hq]
      by_cases hqp : q = p
      · subst hqp
        simp only [upd_same]
        rcases hc with ⟨rfl, _⟩ | ⟨xs, hx, rfl, hb, hl, hlo'⟩
        · simp [EntC]
        · simp only [EntC]
          exact hfr xs hx rfl
      · simp only [upd_ne _ _ hqp]
        exact hI.wrEnt hw hr hqp (fun _ _ h => .inl h)
  · by_cases hq : q = d
    · subst hq
      obtain ⟨rfl, h3, h4⟩ := hd b o h1
      obtain ⟨h5, h6⟩ := hne r (Ne.symm hqr) _ _ h2
      exact hI.apart p r _ o (Ne.symm h5) (hreg o (by omega) h4) h6
    · by_cases hr' : r = d
      · subst hr'
        obtain ⟨rfl, h3, h4⟩ := hd b o h2
        obtain ⟨h5, h6⟩ := hne q hqr _ _ h1
        exact hI.apart p q _ o (Ne.symm h5) (hreg o (by omega) h4) h6
      · exact hI.apart q r b o hqr (hne q hq _ _ h1).2 (hne r hr' _ _ h2).2
  · rcases h with h | ⟨rfl, h1, h2⟩
    · refine ⟨by show b < w'.heap.size; rw [hw.size]; exact (hI.stay b o h).1, fun q hq => ?_⟩
      by_cases hqd : q = d
      · subst hqd
        obtain ⟨rfl, h3, h4⟩ := hd b o hq
        exact (hI.stay _ o h).2 p (hreg o (by omega) h4)
      · exact (hI.stay b o h).2 q (hne q hqd _ _ hq).2
    · have h3 := hlo o h1 h2
      refine ⟨by show b < w'.heap.size; rw [hw.size]; exact hI.blk h3, fun q hq => ?_⟩
      by_cases hqd : q = d
      · subst hqd
        have := (hd b o hq).2.1
        omega
      · obtain ⟨h5, h6⟩ := hne q hqd _ _ hq
        exact hI.apart p q _ o (Ne.symm h5) h3 h6
  · have : k = 0 ∨ b ≠ blk := by
      by_cases hk0 : k = 0
      · exact .inl hk0
      · exact .inr fun e => hn p lim (e ▸ hr lim (Nat.le_refl _) (by omega))
    rcases this with rfl | hb'
    · by_cases hb' : b = blk
      · subst hb'
        show w'.heap[b]? = _; rw [hw.nil rfl]
      · exact hw.other b hb'
    · exact hw.other b hb'
  · exact hw.cellAny (by
      by_cases hb' : b = blk
      · subst hb'
        by_cases h1 : o < lim
        · exact .inr (.inl h1)
        · by_cases h2 : lim + k ≤ o
          · exact .inr (.inr h2)
          · exact absurd (hr o (by omega) (by omega)) (hn p)
      · exact .inl hb')
  · rcases h with h | ⟨rfl, h1, h2⟩
    · exact .inl h
    · exact .inr (.inl ⟨p, hlo o h1 h2⟩)
  · by_cases hqd : q = d
    · subst hqd
      obtain ⟨rfl, h3, h4⟩ := hd b o h
      exact .inl ⟨p, hreg o (by omega) h4⟩
    · exact .inl ⟨q, (hne q hqd _ _ h).2⟩
  · by_cases hqd : q = d
    · subst hqd; simp [Γ']; omega
    · by_cases hqp : q = p
      · subst hqp; simp [Γ', upd_ne _ _ hqd]
      · simp [Γ', upd_ne _ _ hqd, upd_ne _ _ hqp]
  · by_cases hqd : q = d
    · subst hqd; rcases cellsAt_cases h with h' | h' | ⟨_, h'⟩ <;> simp [Γ'] at h'
    · by_cases hqp : q = p
      · subst hqp
        refine ⟨?_, by simp [Γ', upd_ne _ _ hqd]⟩
        rcases hc with ⟨rfl, _⟩ | ⟨xs, hx, rfl, _⟩
        · rcases cellsAt_cases h with h' | h' | ⟨_, h'⟩ <;> simp [Γ', upd_ne _ _ hqd] at h'
        · rcases cellsAt_cases h with h' | h' | ⟨_, h'⟩ <;> simp [Γ', upd_ne _ _ hqd] at h'
          obtain ⟨rfl, rfl⟩ := h'
          refine ⟨xs, ?_, rfl⟩
          have e1 : Γ.s q = ⟨(Γ.s q).t, .buf xs⟩ := by rw [← hx]
          unfold cellsAt
          rw [e1]; simp
      · refine ⟨⟨ys', ?_, rfl⟩, by simp [Γ', upd_ne _ _ hqd]⟩
        unfold cellsAt at h ⊢
        simpa [Γ', upd_ne _ _ hqd, upd_ne _ _ hqp] using h
  · by_cases hqd : q = d
    · subst hqd; simp [Γ'] at h; omega
    · by_cases hqp : q = p
      · subst hqp
        simp [Γ', upd_ne _ _ hqd] at h
        rcases hc with ⟨rfl, _⟩ | ⟨xs, hx, rfl, _⟩ <;> simp at h
      · refine ⟨by simpa [Γ', upd_ne _ _ hqd, upd_ne _ _ hqp] using h, by simp [Γ', upd_ne _ _ hqd]⟩
end
end Go.Ab

/- Each operation that only computes, run in a world, yields what the abstract one tells. No conditions. -/
namespace Go.Ab
section
variable {P : Program} {Γ : G}

def PureOk (P : Program) (m : Sem Value) (Γ : G) (r : AV) : Prop := ∃ v, m.run P Γ.w = .ok v Γ.w ∧ V Γ r v
def SemOk (P : Program) (m : Sem Value) (Γ : G) (s' : St) (r : AV) : Prop := ∃ v Γ', m.run P Γ.w = .ok v Γ'.w ∧ Γ'.s = s' ∧ Inv Γ' ∧ Ext Γ Γ' ∧ V Γ' r v
theorem PureOk.sem {m : Sem Value} {r : AV} (h : PureOk P m Γ r) (hI : Inv Γ) : SemOk P m Γ Γ.s r := let ⟨v, h1, h2⟩ := h; ⟨v, Γ, h1, rfl, hI, .refl _, h2⟩

theorem tk_int {t : TypeId} {k : IntKind} (h : tkOf P t = .int k) : P.underlying t = some (.int k) := by
  unfold tkOf at h; split at h <;> first | (cases h; assumption) | cases h
theorem tk_bool {t : TypeId} (h : tkOf P t = .bool) : P.underlying t = some .bool := by
  unfold tkOf at h; split at h <;> first | (cases h; assumption) | cases h
theorem tk_str {t : TypeId} (h : tkOf P t = .str) : P.underlying t = some .string := by
  unfold tkOf at h; split at h <;> first | (cases h; assumption) | cases h
theorem tk_sl {t e : TypeId} (h : tkOf P t = .sl e) : P.underlying t = some (.slice e) := by
  unfold tkOf at h; split at h <;> first | (cases h; assumption) | cases h
theorem tk_arr {t e : TypeId} {n : Nat} (h : tkOf P t = .arr n e) : P.underlying t = some (.array n e) := by
  unfold tkOf at h; split at h <;> first | (cases h; assumption) | cases h
theorem field_of {t i ft o : Nat} (h : fieldOf P t i = some (ft, o)) : ∃ fs f, P.underlying t = some (.struct fs) ∧ fs[i]? = some f ∧ f.type = ft ∧ f.offset = o := by
  unfold fieldOf at h
  split at h
  · rename_i fs hu
    cases hf : fs[i]? with
    | none => rw [hf] at h; cases h
    | some f => rw [hf] at h; simp at h; exact ⟨fs, f, hu, hf, h.1, h.2⟩
  · cases h

theorem run_isAgg {t : TypeId} {d : TypeDesc} (h : P.underlying t = some d) (w : World) : (isAgg t).run P w = .ok (aggOf P t) w := by
  unfold isAgg aggOf
  rw [Sem.run_bind, run_underlying h w]
  simp only [Result.andThen_ok, h]
  cases d <;> rfl
theorem V_int {k : IntKind} {n : Int} {v : Value} : V Γ (.int k n) v ↔ v = .int k n := by simp [V, V0]
theorem V_bool {b : Bool} {v : Value} : V Γ (.bool b) v ↔ v = .bool b := by simp [V, V0]
theorem V_str {b : List UInt8} {v : Value} : V Γ (.str b) v ↔ v = .string ⟨b.toArray⟩ := by simp [V, V0]

def vOf : AV → Value
  | .int k n => .int k n
  | .bool b => .bool b
  | .str s => .string ⟨s.toArray⟩
  | _ => undef
theorem PureOk.mk {m : Sem Value} {r : AV} (h : m.run P Γ.w = .ok (vOf r) Γ.w) (hv : V Γ r (vOf r)) : PureOk P m Γ r := ⟨_, h, hv⟩
theorem intA_ok {op : BinOp} {k : IntKind} {a b : Int} {r : AV} (h : intA op k a b = some r) (hs : op ≠ .shl ∧ op ≠ .shr) (t : TypeId) :
    PureOk P (binOp op t (.int k a) (.int k b)) Γ r := by
  cases op
  case shl => exact absurd rfl hs.1
  case shr => exact absurd rfl hs.2
  case quo =>
    simp only [intA] at h
    split at h
    · cases h
    · rename_i hb
      cases h
      exact .mk (by simp [binOp, Op.intDiv, hb, vOf]) (by simp [V, V0, vOf])
  case rem =>
    simp only [intA] at h
    split at h
    · cases h
    · rename_i hb
      cases h
      exact .mk (by simp [binOp, Op.intDiv, hb, vOf]) (by simp [V, V0, vOf])
  all_goals
    simp only [intA, Option.some.injEq] at h
    subst h
    exact .mk (by simp [binOp, Op.intArith, Op.intBits, Op.intCmp, vOf]) (by simp [V, V0, vOf])
theorem shA_ok {op : BinOp} {k k' : IntKind} {a b : Int} {r : AV} (h : shA op k a b = some r) (t : TypeId) :
    PureOk P (binOp op t (.int k a) (.int k' b)) Γ r := by
  unfold shA at h
  split at h
  · cases h
  · rename_i hb
    cases op <;> simp only [Option.some.injEq, reduceCtorEq] at h <;> subst h <;> exact .mk (by simp [binOp, Op.shift, hb, vOf]) (by simp [V, V0, vOf])
theorem strA_ok {op : BinOp} {a b : List UInt8} {r : AV} (h : strA op a b = some r) (t : TypeId) :
    PureOk P (binOp op t (.string ⟨a.toArray⟩) (.string ⟨b.toArray⟩)) Γ r := by
  have e : ∀ l : List UInt8, (⟨l.toArray⟩ : ByteArray).toList = l := fun l => by rw [ByteArray.toList_eq]
  have h0 : binOp op t (.string ⟨a.toArray⟩) (.string ⟨b.toArray⟩) = Op.stringOp op ⟨a.toArray⟩ ⟨b.toArray⟩ := by cases op <;> rfl
  rw [h0]
  cases op
  case add =>
    simp only [strA] at h
    split at h
    · rename_i hb
      cases h
      refine .mk ?_ (by simp [V, V0, vOf])
      have e1 : (⟨a.toArray⟩ : ByteArray).size = a.length := by simp [ByteArray.size]
      have e2 : (⟨b.toArray⟩ : ByteArray).size = b.length := by simp [ByteArray.size]
      have e3 : IntKind.max .i64 = 9223372036854775807 := by decide
      have h1 : ¬ (IntKind.max .i64 < (((⟨a.toArray⟩ : ByteArray).size + (⟨b.toArray⟩ : ByteArray).size : Nat) : Int)) := by
        rw [e1, e2, e3]; omega
      have h2 : (⟨a.toArray⟩ : ByteArray) ++ ⟨b.toArray⟩ = ⟨(a ++ b).toArray⟩ := by
        apply ByteArray.ext; simp
      simp only [Op.stringOp, gt_iff_lt]
      rw [if_neg h1, h2]; rfl
    · cases h
  all_goals first
    | (simp only [strA, reduceCtorEq] at h; done)
    | (simp only [strA, Option.some.injEq] at h; subst h; exact .mk (by simp only [Op.stringOp, e, vOf]; rfl) (by simp [V, V0, vOf]))

theorem eqGuard_none (op : BinOp) (t : TypeId) (x y : Operand) (a b : Value) (w : World) (h1 : a ≠ .nilIface) (h2 : ∀ cs, a ≠ .agg cs) : (eqGuard op t x y a b).run P w = .ok () w := by
  cases op
  case eql => cases a <;> first | exact absurd rfl h1 | exact absurd rfl (h2 _) | rfl
  case neq => cases a <;> first | exact absurd rfl h1 | exact absurd rfl (h2 _) | rfl
  all_goals rfl

theorem run_equalIn_bool {t : TypeId} {a b : Bool} (ht : P.underlying t = some .bool) (d : Nat) (w : World) : (Op.equalIn (d + 1) t (.bool a) (.bool b)).run P w = .ok (a == b) w := by
  simp [Op.equalIn, run_underlying ht]
theorem run_eql_bool {t : TypeId} {a b : Bool} (ht : P.underlying t = some .bool) (w : World) : (binOp .eql t (.bool a) (.bool b)).run P w = .ok (.bool (a == b)) w := by
  have h : (Op.equal t (.bool a) (.bool b)).run P w = .ok (a == b) w := run_equalIn_bool ht 9999 w
  show (Op.equal t (.bool a) (.bool b) >>= fun x => pure (Value.bool x)).run P w = _
  rw [Sem.run_bind, h]; rfl
theorem run_neq_bool {t : TypeId} {a b : Bool} (ht : P.underlying t = some .bool) (w : World) : (binOp .neq t (.bool a) (.bool b)).run P w = .ok (.bool (!(a == b))) w := by
  have h : (Op.equal t (.bool a) (.bool b)).run P w = .ok (a == b) w := run_equalIn_bool ht 9999 w
  show (Op.equal t (.bool a) (.bool b) >>= fun x => pure (Value.bool (!x))).run P w = _
  rw [Sem.run_bind, h]; rfl
theorem tk_ptr {t : TypeId} (h : tkOf P t = .ptr) : ∃ e, P.underlying t = some (.pointer e) := by
  unfold tkOf at h
  split at h <;> cases h
  exact ⟨_, by assumption⟩
theorem tk_sl' {t e : TypeId} (h : tkOf P t = .sl e) : P.underlying t = some (.slice e) := by
  unfold tkOf at h
  split at h <;> cases h
  assumption
theorem eqA_some {op : BinOp} {b : Option Bool} {r : AV} (h : eqA op b = some r) : ∃ c, b = some c ∧ ((op = .eql ∧ r = .bool c) ∨ (op = .neq ∧ r = .bool (!c))) := by
  unfold eqA at h
  cases b with
  | none => cases op <;> simp at h
  | some c => cases op <;> simp at h <;> subst h <;> exact ⟨c, rfl, by simp⟩
theorem nil_sl {x : List AV} {len : Nat} {g : Grip} {b : Bool} (h : nilA (.sl x len g) = some b) {vx : Value} (hx : V Γ (.sl x len g) vx) : ∃ a l c, vx = .slice a l c ∧ a.isNone = b := by
  have key : ∀ g', g'.isTok = false → nilA (.sl x len g') = some b → V0 Γ.S Γ.w (.sl x len g') vx → ∃ a l c, vx = .slice a l c ∧ a.isNone = b := by
    intro g' _ h hx0
    simp only [V0] at hx0
    obtain ⟨a, cap, rfl, _, _, ⟨_, hn⟩, hc⟩ := hx0
    refine ⟨a, _, _, rfl, ?_⟩
    cases g' with
    | nil => rw [hn rfl]; simpa [nilA] using h
    | _ =>
      simp only [nilA] at h
      split at h
      · cases h
        rcases hc with ⟨_, h0, _⟩ | ⟨_, _, rfl, _⟩
        · omega
        · rfl
      · cases h
  cases g with
  | tok p t => exact key .loose rfl h hx.1
  | tight => exact key _ rfl h (V.to0 hx rfl)
  | loose => exact key _ rfl h (V.to0 hx rfl)
  | nil => exact key _ rfl h (V.to0 hx rfl)
theorem run_eq_of {op : BinOp} {t : TypeId} {x y : Value} {c : Bool} {r : AV} (hb : ∀ op, binOp op t x y = match op with | .eql => (do pure (.bool (← Op.equal t x y))) | .neq => (do pure (.bool (!(← Op.equal t x y)))) | _ => binOp op t x y)
    (he : ∀ w, (Op.equal t x y).run P w = .ok c w) (h : (op = .eql ∧ r = .bool c) ∨ (op = .neq ∧ r = .bool (!c))) : PureOk P (binOp op t x y) Γ r := by
  rcases h with ⟨rfl, rfl⟩ | ⟨rfl, rfl⟩
  · refine .mk ?_ (by simp [V, V0, vOf])
    rw [hb]
    show (Op.equal t x y >>= fun x => pure (Value.bool x)).run P Γ.w = _
    rw [Sem.run_bind, he]; rfl
  · refine .mk ?_ (by simp [V, V0, vOf])
    rw [hb]
    show (Op.equal t x y >>= fun x => pure (Value.bool (!x))).run P Γ.w = _
    rw [Sem.run_bind, he]; rfl
theorem run_eq_sl {t e : TypeId} {a : Option Addr} {l c l' c' : Nat} (he : P.underlying t = some (.slice e)) (d : Nat) (w : World) : (Op.equalIn (d + 1) t (.slice a l c) (.slice none l' c')).run P w = .ok a.isNone w := by
  cases a <;> simp [Op.equalIn, run_underlying he]
theorem run_eq_ptr {t e : TypeId} {a : Option Addr} (he : P.underlying t = some (.pointer e)) (d : Nat) (w : World) : (Op.equalIn (d + 1) t (.pointer a) (.pointer none)).run P w = .ok a.isNone w := by
  cases a <;> simp [Op.equalIn, run_underlying he]
theorem eq_nil {op : BinOp} {t e : TypeId} {a : Option Addr} {l c l' c' : Nat} {b : Bool} {r : AV} (ht : tkOf P t = .sl e) (h : (op = .eql ∧ r = .bool b) ∨ (op = .neq ∧ r = .bool (!b))) (hb : a.isNone = b) :
    PureOk P (binOp op t (.slice a l c) (.slice none l' c')) Γ r := by
  refine run_eq_of (fun op => by cases op <;> rfl) (fun w => ?_) h
  subst hb
  exact run_eq_sl (tk_sl' ht) 9999 w
theorem eq_nilp {op : BinOp} {t : TypeId} {a : Option Addr} {b : Bool} {r : AV} (ht : tkOf P t = .ptr) (h : (op = .eql ∧ r = .bool b) ∨ (op = .neq ∧ r = .bool (!b))) (hb : a.isNone = b) :
    PureOk P (binOp op t (.pointer a) (.pointer none)) Γ r := by
  obtain ⟨e, he⟩ := tk_ptr ht
  rcases h with ⟨rfl, rfl⟩ | ⟨rfl, rfl⟩
  all_goals
    have hq : (Op.equal t (.pointer a) (.pointer none)).run P Γ.w = .ok b Γ.w := by
      subst hb
      exact run_eq_ptr he 9999 _
    refine .mk ?_ (by simp [V, V0, vOf])
  · show (Op.equal t _ _ >>= fun x => pure (Value.bool x)).run P Γ.w = _
    rw [Sem.run_bind, hq]; rfl
  · show (Op.equal t _ _ >>= fun x => pure (Value.bool (!x))).run P Γ.w = _
    rw [Sem.run_bind, hq]; rfl
theorem binA_ok {op : BinOp} {t : TypeId} {x y : AV} {r : AV} (h : binA P op t x y = some r) {vx vy : Value} (hx : V Γ x vx) (hy : V Γ y vy) (ox oy : Operand) :
    PureOk P (do eqGuard op t ox oy vx vy; binOp op t vx vy) Γ r := by
  have key : PureOk P (binOp op t vx vy) Γ r ∧ vx ≠ .nilIface ∧ (∀ cs, vx ≠ .agg cs) := by
    unfold binA at h
    split at h
    · rw [V_int] at hx hy; subst hx; subst hy
      refine ⟨?_, by simp, by simp⟩
      split at h
      · exact shA_ok h t
      · exact shA_ok h t
      · rename_i hn1 hn2
        split at h
        · rename_i e; subst e; exact intA_ok h ⟨hn1, hn2⟩ t
        · cases h
    · rw [V_str] at hx hy; subst hx; subst hy
      exact ⟨strA_ok h t, by simp, by simp⟩
    · rw [V_bool] at hx hy; subst hx; subst hy
      refine ⟨?_, by simp, by simp⟩
      split at h
      · rename_i ht; cases h
        exact .mk (run_eql_bool (tk_bool ht) _) (by simp [V, V0, vOf])
      · rename_i ht; cases h
        exact .mk (run_neq_bool (tk_bool ht) _) (by simp [V, V0, vOf])
      · cases h
    · have hy0 := V.to0 hy rfl
      simp only [V0] at hy0
      obtain ⟨a, cap, rfl, _, _, ⟨_, hn⟩, hc⟩ := hy0
      obtain rfl := hn trivial
      split at h
      · rename_i ht
        obtain ⟨b, hb, h⟩ := eqA_some h
        obtain ⟨a', l', c', rfl, hs⟩ := nil_sl hb hx
        exact ⟨eq_nil ht h hs, by simp, by simp⟩
      · cases h
    · have hy0 := V.to0 hy rfl
      simp only [V0] at hy0
      subst hy0
      split at h
      · rename_i ht
        obtain ⟨b, hb, h⟩ := eqA_some h
        cases hb
        have hx0 := V.to0 hx rfl
        simp only [V0] at hx0
        obtain ⟨bb, o, rfl, _⟩ := hx0
        exact ⟨eq_nilp ht h rfl, by simp, by simp⟩
      · rename_i ht
        obtain ⟨b, hb, h⟩ := eqA_some h
        cases hb
        have hx0 := V.to0 hx rfl
        simp only [V0] at hx0
        subst hx0
        exact ⟨eq_nilp ht h rfl, by simp, by simp⟩
      · cases h
    · cases h
  obtain ⟨⟨v, h1, h2⟩, h3, h4⟩ := key
  exact ⟨v, by rw [Sem.run_bind, eqGuard_none _ _ _ _ _ _ _ h3 h4]; exact h1, h2⟩

theorem unA_ok {op : UnOp} {x r : AV} (h : unA op x = some r) {vx : Value} (hx : V Γ x vx) : PureOk P (Op.unary op vx) Γ r := by
  unfold unA at h
  split at h
  · rw [V_int] at hx; subst hx; cases h; exact .mk (by simp [Op.unary, Op.intArith, vOf]) (by simp [V, V0, vOf])
  · rw [V_int] at hx; subst hx; cases h; exact .mk (by simp [Op.unary, Op.intBits, vOf]) (by simp [V, V0, vOf])
  · rw [V_bool] at hx; subst hx; cases h; exact .mk (by simp [Op.unary, vOf]) (by simp [V, V0, vOf])
  · cases h

theorem max2A_ok {x y r : AV} (h : max2A x y = some r) {vx vy : Value} (hx : V Γ x vx) (hy : V Γ y vy) : PureOk P (Builtin.max2 vx vy) Γ r := by
  unfold max2A at h
  split at h
  · rw [V_int] at hx hy; subst hx; subst hy; cases h; exact .mk (by simp [Builtin.max2, vOf]) (by simp [V, V0, vOf])
  · cases h
theorem min2A_ok {x y r : AV} (h : min2A x y = some r) {vx vy : Value} (hx : V Γ x vx) (hy : V Γ y vy) : PureOk P (Builtin.min2 vx vy) Γ r := by
  unfold min2A at h
  split at h
  · rw [V_int] at hx hy; subst hx; subst hy; cases h; exact .mk (by simp [Builtin.min2, vOf]) (by simp [V, V0, vOf])
  · cases h
inductive VA (Γ : G) : List AV → List Value → Prop
  | nil : VA Γ [] []
  | cons {x : AV} {v : Value} {xs : List AV} {vs : List Value} : V Γ x v → VA Γ xs vs → VA Γ (x :: xs) (v :: vs)
theorem foldA_ok {f : AV → AV → Option AV} {g : Value → Value → Sem Value} (hf : ∀ x y r vx vy, f x y = some r → V Γ x vx → V Γ y vy → PureOk P (g vx vy) Γ r) :
    ∀ (ys : List AV) (vs : List Value) (x r : AV) (v : Value), VA Γ ys vs → foldA f x ys = some r → V Γ x v → PureOk P (vs.foldlM g v) Γ r
  | [], _, x, r, v, hv, h, hx => by
    cases hv; simp [foldA] at h; subst h; exact ⟨v, rfl, hx⟩
  | y :: ys, _, x, r, v, hv, h, hx => by
    cases hv with
    | cons hy hys =>
      simp only [foldA, Option.bind_eq_some_iff] at h
      obtain ⟨z, h1, h2⟩ := h
      obtain ⟨u, h3, h4⟩ := hf _ _ _ _ _ h1 hx hy
      obtain ⟨u', h5, h6⟩ := foldA_ok hf ys _ z r u hys h2 h4
      exact ⟨u', by simp only [List.foldlM_cons, Sem.run_bind, h3, Result.andThen_ok]; exact h5, h6⟩
end
end Go.Ab

/- Operations that read memory, or make a row that stays: they yield what the abstract ones tell. No conditions. -/
namespace Go.Ab
section
variable {P : Program} {Γ : G}

theorem esz_info {t n : Nat} (h : esz P t = some n) : ∃ i, P.info? t = some i ∧ i.size = n ∧ 0 < n := by
  unfold esz at h
  split at h
  · rename_i i hi
    split at h
    · rename_i h0; cases h; exact ⟨i, hi, rfl, h0⟩
    · cases h
  · cases h
theorem run_esz {t n : Nat} (h : esz P t = some n) (w : World) : (sizeOf t).run P w = .ok n w := by
  obtain ⟨i, hi, hs, _⟩ := esz_info h
  simp [sizeOf, typeInfo, hi, hs]
theorem shOf_run {t n : Nat} {b : Bool} (h : shOf P t = some (b, n)) (w : World) : (isAgg t).run P w = .ok b w ∧ (sizeOf t).run P w = .ok n w := by
  unfold shOf at h
  split at h
  · rename_i d i hd hi
    cases h
    exact ⟨run_isAgg hd w, by simp [sizeOf, typeInfo, hi]⟩
  · cases h

theorem V_tree {x : AV} {v : Value} (hx : isTree x = true) : V Γ x v ↔ V0 Γ.S Γ.w x v := ⟨fun h => h.to0 hx, fun h => .of0 h hx⟩

theorem V0_isTree {S : Nat → Nat → Prop} {w : World} {x : AV} {v : Value} (h : V0 S w x v) : isTree x = true := by
  cases x <;> simp [isTree, V0] at h ⊢
  rename_i g
  cases g with
  | tok p t =>
    obtain ⟨_, _, _, _, _, h, _⟩ := h
    simp [Grip.isTok] at h
  | _ => rfl
theorem V_cell {x : AV} {v : Value} (h : V0 Γ.S Γ.w x v) : V Γ x v := .of0 h (V0_isTree h)

def Reads (Γ : G) (xs : List AV) (b o : Nat) : Prop :=
  ∀ (i : Nat) (x : AV), xs[i]? = some x → ∃ v, Γ.w.cell? ⟨b, o + i, none⟩ = some v ∧ v.oneCell' = true ∧ V0 Γ.S Γ.w x v
theorem Reads.ofVC {xs : List AV} {b o : Nat} (h : VC Γ.S Γ.w xs b o) : Reads Γ xs b o := fun i x hx => ((VC_iff _ _ _).1 h i x hx).2
theorem Reads.drop {xs : List AV} {b o : Nat} (h : Reads Γ xs b o) (k : Nat) : Reads Γ (xs.drop k) b (o + k) := fun i x hx => by
  have := h (k + i) x (by simpa [List.getElem?_drop] using hx)
  rwa [← Nat.add_assoc] at this
theorem Reads.take {xs : List AV} {b o : Nat} (h : Reads Γ xs b o) (k : Nat) : Reads Γ (xs.take k) b o := fun i x hx => h i x (by
  rw [List.getElem?_take] at hx; split at hx
  · exact hx
  · cases hx)
theorem Reads.vals {xs : List AV} {b o : Nat} (h : Reads Γ xs b o) : ∃ vs : List Value, VL Γ.S Γ.w xs vs ∧ ∀ (i : Nat) (v : Value), vs[i]? = some v → Γ.w.cell? ⟨b, o + i, none⟩ = some v := by
  induction xs generalizing o with
  | nil => exact ⟨[], VL.nil, by simp⟩
  | cons x xs ih =>
    obtain ⟨v, hv, ho, h0⟩ := h 0 x rfl
    obtain ⟨vs, hl, hc⟩ := ih (o := o + 1) (fun i y hy => by
      have := h (i + 1) y (by simpa using hy)
      rwa [show o + (i + 1) = o + 1 + i by omega] at this)
    refine ⟨v :: vs, by simp only [VL]; exact ⟨v, vs, rfl, ho, h0, hl⟩, fun i u hu => ?_⟩
    cases i with
    | zero => simp at hu; subst hu; exact hv
    | succ i =>
      have := hc i u (by simpa using hu)
      rwa [show o + 1 + i = o + (i + 1) by omega] at this
theorem Reads.load {xs : List AV} {b o : Nat} (h : Reads Γ xs b o) : ∃ vs : List Value, VL Γ.S Γ.w xs vs ∧ (loadCells ⟨b, o, none⟩ xs.length).run P Γ.w = .ok vs.toArray Γ.w := by
  obtain ⟨vs, h1, h2⟩ := h.vals
  refine ⟨vs, h1, ?_⟩
  rw [((VL_iff _ _).1 h1).1]
  exact run_loadCells_list Γ.w ⟨b, o, none⟩ vs (fun j v hj => by rw [add_eq]; exact h2 j v hj)

theorem loadVar_ok {t off : Nat} {xs : List AV} {r : AV} (h : partA P t xs off = some r) {b o : Nat} (hc : Reads Γ xs b o) : PureOk P (loadVar t ⟨b, o + off, none⟩) Γ r := by
  unfold partA at h
  split at h
  · rename_i n hs
    obtain ⟨h1, h2⟩ := shOf_run hs Γ.w
    split at h
    · rename_i hl
      cases h
      obtain ⟨vs, hv, hrun⟩ := ((hc.drop off).take n).load (P := P)
      have e : ((xs.drop off).take n).length = n := by simp; omega
      rw [e] at hrun
      refine ⟨.agg vs.toArray, ?_, (V_tree rfl).2 ⟨vs, rfl, hv⟩⟩
      simp only [loadVar, Sem.run_bind, h1, Result.andThen_ok, if_true, h2, hrun]; rfl
    · cases h
  · rename_i n hs
    obtain ⟨h1, _⟩ := shOf_run hs Γ.w
    obtain ⟨v, h2, h3, h4⟩ := hc off r h
    refine ⟨v, ?_, V_cell h4⟩
    simp only [loadVar, Sem.run_bind, h1, Result.andThen_ok, Bool.false_eq_true, if_false, run_load, h2]
  · cases h

theorem part_ok {t off : Nat} {xs : List AV} {r : AV} (h : partA P t xs off = some r) {vs : List Value} (hv : VL Γ.S Γ.w xs vs) : PureOk P (part t vs.toArray off) Γ r := by
  unfold partA at h
  have hlen := ((VL_iff _ _).1 hv).1
  split at h
  · rename_i n hs
    obtain ⟨h1, h2⟩ := shOf_run hs Γ.w
    split at h
    · rename_i hl
      cases h
      refine ⟨.agg (vs.toArray.extract off (off + n)), ?_, (V_tree rfl).2 ⟨(vs.drop off).take n, ?_, (hv.drop off).take n⟩⟩
      · simp only [part, Sem.run_bind, h1, Result.andThen_ok, if_true, h2]; rfl
      · congr 1; simp
    · cases h
  · rename_i n hs
    obtain ⟨h1, _⟩ := shOf_run hs Γ.w
    obtain ⟨v, h2, h3, h4⟩ := ((VL_iff _ _).1 hv).2 off r h
    refine ⟨v, ?_, V_cell h4⟩
    simp [part, h1, h2]
  · cases h
end
end Go.Ab
