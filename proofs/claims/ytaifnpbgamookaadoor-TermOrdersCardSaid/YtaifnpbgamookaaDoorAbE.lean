/- The abstract evaluator: Go code run over trees of values instead of a heap; definitions only, no conditions. -/
import Derived.Calls
import Derived.Tactics
import Derived.Laws.Sem
namespace Go.Ab

/-- What is known of the room behind a slice: none; not known; it is nil; it is ours alone while entry p has serial t. -/
inductive Grip where
  | tight | loose | nil | tok (p t : Nat)
  deriving DecidableEq, Inhabited

def Grip.isTok : Grip → Bool
  | .tok _ _ => true
  | _ => false

inductive AV where
  | undef
  | int (k : IntKind) (n : Int)
  | bool (b : Bool)
  | str (s : List UInt8)
  | agg (xs : List AV)
  | tup (xs : List AV)
  | sl (xs : List AV) (len : Nat) (g : Grip)
  | own (p t off len e : Nat)
  | ptr (p t off : Nat)
  | rptr (xs : List AV)
  | nilp
  | fn (f : FuncId) (caps : List AV)
  | iface (t : TypeId) (v : AV)
  | nili
  deriving Inhabited

inductive Cell where
  | dead | buf (xs : List AV) | frz (xs : List AV) | tok (e : Nat)
  deriving Inhabited

structure Ent where
  t : Nat
  c : Cell
  deriving Inhabited

abbrev St := Nat → Ent
abbrev Env := Nat → AV
def upd {α : Type} (f : Nat → α) (i : Nat) (v : α) : Nat → α := fun j => if j = i then v else f j

/-- What a call is handed: a tree; a block that it may write (by a pointer into it, or a slice of it); a slice with the room behind it. -/
inductive Arg where
  | tree (v : AV) | ptr (xs : List AV) (off : Nat) | own (xs : List AV) (off len e : Nat) | tok (xs : List AV) (len e : Nat)
  deriving Inhabited
inductive Res where
  | tree (v : AV) | newp (xs : List AV) | own (xs : List AV) (len e : Nat) | tok (xs : List AV) (len e : Nat)
  deriving Inhabited
abbrev Out := Res × List (List AV)

structure Cfg where
  lin : FuncId → Nat → Bool
  keep : FuncId → Bool
  /-- What is known of functions that are not run. -/
  prim : FuncId → List Arg → Option Out

def ofV1 : Value → AV
  | .int k n => .int k n
  | .bool b => .bool b
  | .string s => .str s.data.toList
  | .slice none 0 0 => .sl [] 0 .nil
  | .pointer none => .nilp
  | .nilIface => .nili
  | .func (.func f) ⟨[]⟩ ⟨[]⟩ => .fn f []
  | _ => .undef
def ofV : Value → AV
  | .agg cs => if cs.toList.all (fun v => v.oneCell') then .agg (cs.toList.map ofV1) else .undef
  | v => ofV1 v

section
variable (P : Program) (cfg : Cfg)

def szOf (t : TypeId) : Nat := ((P.info? t).map (·.size)).getD 0
def byOf (t : TypeId) : Nat := ((P.info? t).map (·.bytes)).getD 0
def aggOf (t : TypeId) : Bool := match P.underlying t with | some (.struct _) | some (.array _ _) => true | _ => false
/-- A type's shape: of several parts? how many cells. -/
def shOf (t : TypeId) : Option (Bool × Nat) := match P.underlying t, P.info? t with
  | some _, some i => some (aggOf P t, i.size)
  | _, _ => none
/-- The size of an element, some cell at least. -/
def esz (t : TypeId) : Option Nat := match P.info? t with
  | some i => if 0 < i.size then some i.size else none
  | none => none
def zeroOf (t : TypeId) : Option (List AV) := match (P.info? t).bind (·.zero) with | some z => if z.cells.toList.all (fun v => v.oneCell') then some (z.cells.toList.map ofV1) else none | none => none
inductive TK where
  | int (k : IntKind) | bool | str | sl (e : TypeId) | arr (n : Nat) (e : TypeId) | st | ptr | fn | ifc | other
def tkOf (t : TypeId) : TK := match P.underlying t with
  | some (.int k) => .int k | some .bool => .bool | some .string => .str | some (.slice e) => .sl e | some (.array n e) => .arr n e
  | some (.struct _) => .st | some (.pointer _) => .ptr | some (.func _ _ _) => .fn | some (.interface _) => .ifc | _ => .other
/-- A field: its type, its offset. -/
def fieldOf (t : TypeId) (i : Nat) : Option (TypeId × Nat) := match P.underlying t with
  | some (.struct fs) => (fs[i]?).map fun f => (f.type, f.offset)
  | _ => none

def ev (env : Env) : Operand → AV
  | .tmp t => env t
  | .const v => ofV v
  | .global _ => .undef
  | .func f => .fn f []

def intA (op : BinOp) (k : IntKind) (a b : Int) : Option AV :=
  match op with
  | .add => some (.int k (k.wrap (a + b)))
  | .sub => some (.int k (k.wrap (a - b)))
  | .mul => some (.int k (k.wrap (a * b)))
  | .quo => if b = 0 then none else some (.int k (k.wrap (a.tdiv b)))
  | .rem => if b = 0 then none else some (.int k (a.tmod b))
  | .and => some (.int k (k.wrap (BitVec.ofInt k.bits a &&& BitVec.ofInt k.bits b).toNat))
  | .or => some (.int k (k.wrap (BitVec.ofInt k.bits a ||| BitVec.ofInt k.bits b).toNat))
  | .xor => some (.int k (k.wrap (BitVec.ofInt k.bits a ^^^ BitVec.ofInt k.bits b).toNat))
  | .andNot => some (.int k (k.wrap (BitVec.ofInt k.bits a &&& ~~~ BitVec.ofInt k.bits b).toNat))
  | .eql => some (.bool (a == b))
  | .neq => some (.bool (a != b))
  | .lss => some (.bool (decide (a < b)))
  | .leq => some (.bool (decide (a ≤ b)))
  | .gtr => some (.bool (decide (a > b)))
  | .geq => some (.bool (decide (a ≥ b)))
  | _ => none

def shA (op : BinOp) (k : IntKind) (a b : Int) : Option AV :=
  if b < 0 then none else
  match op with
  | .shl => some (.int k (k.wrap (a * 2 ^ (min b.toNat k.bits))))
  | .shr => some (.int k (a.fdiv (2 ^ (min b.toNat k.bits))))
  | _ => none

def strA (op : BinOp) (a b : List UInt8) : Option AV :=
  match op with
  | .add => if a.length + b.length ≤ 9223372036854775807 then some (.str (a ++ b)) else none
  | .eql => some (.bool (a == b))
  | .neq => some (.bool (!(a == b)))
  | .lss => some (.bool (Op.bytesLess a b))
  | .leq => some (.bool (Op.bytesLess a b || a == b))
  | .gtr => some (.bool (!(Op.bytesLess a b || a == b)))
  | .geq => some (.bool (!Op.bytesLess a b))
  | _ => none

/-- Is it nil? -/
def nilA : AV → Option Bool
  | .sl _ _ .nil => some true
  | .sl _ len _ => if 0 < len then some false else none
  | .rptr _ => some false
  | .nilp => some true
  | _ => none
def eqA (op : BinOp) (b : Option Bool) : Option AV := match op with
  | .eql => b.map .bool
  | .neq => b.map fun b => .bool (!b)
  | _ => none
def binA (op : BinOp) (t : TypeId) (x y : AV) : Option AV :=
  match x, y with
  | .int k a, .int k' b =>
    match op with
    | .shl | .shr => shA op k a b
    | _ => if k = k' then intA op k a b else none
  | .str a, .str b => strA op a b
  | .bool a, .bool b => match tkOf P t, op with
    | .bool, .eql => some (.bool (a == b))
    | .bool, .neq => some (.bool (!(a == b)))
    | _, _ => none
  | x, .sl [] 0 .nil => match tkOf P t, x with
    | .sl _, .sl .. => eqA op (nilA x)
    | _, _ => none
  | x, .nilp => match tkOf P t, x with
    | .ptr, .rptr _ | .ptr, .nilp => eqA op (nilA x)
    | _, _ => none
  | _, _ => none

def unA (op : UnOp) (x : AV) : Option AV :=
  match op, x with
  | .neg, .int k n => some (.int k (k.wrap (0 - n)))
  | .xor, .int k n => some (.int k (k.wrap (BitVec.ofInt k.bits (if k.signed then -1 else k.max) ^^^ BitVec.ofInt k.bits n).toNat))
  | .not, .bool b => some (.bool (!b))
  | _, _ => none

/-- The bytes of cells. -/
def bytesOf : List AV → Option (List UInt8)
  | [] => some []
  | .int .u8 n :: r => (bytesOf r).map (UInt8.ofNat n.toNat :: ·)
  | _ => none
def cellsOfBytes (l : List UInt8) : List AV := l.map fun b => .int .u8 b.toNat

/-- A block's cells, to be read. -/
def cellsAt (s : St) (p t : Nat) : Option (List AV) :=
  match s p with
  | ⟨t', .buf xs⟩ => if t' = t then some xs else none
  | ⟨t', .frz xs⟩ => if t' = t then some xs else none
  | _ => none

/-- Is a handle good? -/
def live (s : St) (p t : Nat) : Bool := (cellsAt s p t).isSome

def convA (src dst : TypeId) (s : St) (x : AV) : Option AV :=
  match tkOf P src, tkOf P dst, x with
  | .int _, .int k, .int _ n => some (.int k (k.wrap n))
  | .str, .str, .str b => some (.str b)
  | .str, .sl e, .str b => match tkOf P e with
    | .int .u8 => if b.length ≤ 140737488355328 then some (.sl (cellsOfBytes b) b.length .loose) else none
    | _ => none
  | .sl e, .str, .sl xs len _ => match tkOf P e with
    | .int .u8 => if xs.length = len then (bytesOf xs).map .str else none
    | _ => none
  | .sl e, .str, .own p t off len _ => match tkOf P e with
    | .int .u8 => (cellsAt s p t).bind fun xs => if off + len ≤ xs.length then (bytesOf ((xs.drop off).take len)).map .str else none
    | _ => none
  | _, _, _ => none

/-- A part of cells, of a type. -/
def partA (t : TypeId) (xs : List AV) (off : Nat) : Option AV :=
  match shOf P t with
  | some (true, n) => if off + n ≤ xs.length then some (.agg ((xs.drop off).take n)) else none
  | some (false, _) => xs[off]?
  | none => none

def loadA (t : TypeId) (s : St) (a : AV) : Option AV :=
  match a with
  | .rptr xs => partA P t xs 0
  | .ptr p i off => (cellsAt s p i).bind fun xs => partA P t xs off
  | _ => none

def cellOk : AV → Bool
  | .agg _ | .tup _ | .undef | .own .. | .ptr .. | .fn .. => false
  | _ => true

/-- A value as a tree that may be kept: a block of its own that it shows may not be written any more. -/
def settle (s : St) (v : AV) : Option (AV × St) :=
  match v with
  | .own p t off len e => match s p with
    | ⟨t', .buf xs⟩ => if t' = t ∧ off + len * e ≤ xs.length then some (.sl ((xs.drop off).take (len * e)) len .loose, upd s p ⟨t', .frz xs⟩) else none
    | ⟨t', .frz xs⟩ => if t' = t ∧ off + len * e ≤ xs.length then some (.sl ((xs.drop off).take (len * e)) len .loose, s) else none
    | _ => none
  | .sl xs len (.tok _ _) => some (.sl xs len .loose, s)
  | .ptr .. => none
  | v => some (v, s)

/-- The same, where nothing has to be settled. -/
def settled (v : AV) : Option AV :=
  match v with
  | .own .. | .ptr .. => none
  | .sl xs len (.tok _ _) => some (.sl xs len .loose)
  | v => some v

def splice (xs : List AV) (off : Nat) (ys : List AV) : List AV := xs.take off ++ ys ++ xs.drop (off + ys.length)

def storeA (t : TypeId) (s : St) (a v : AV) : Option St :=
  match a with
  | .ptr p i off => (settle s v).bind fun (v, s) => match s p with
    | ⟨t', .buf xs⟩ =>
      if t' = i then
        match v with
        | .agg ys => if esz P t = some ys.length ∧ off + ys.length ≤ xs.length then some (upd s p ⟨t', .buf (splice xs off ys)⟩) else none
        | v => if cellOk v ∧ esz P t = some 1 ∧ off < xs.length then some (upd s p ⟨t', .buf (xs.set off v)⟩) else none
      else none
    | _ => none
  | _ => none

def fieldAddrA (t : TypeId) (s : St) (x : AV) (i : Nat) : Option AV :=
  match fieldOf P t i with
  | some (ft, o) => match esz P ft, x with
    | some _, .ptr p k off => if live s p k then some (.ptr p k (off + o)) else none
    | some _, .rptr xs => some (.rptr (xs.drop o))
    | _, _ => none
  | none => none
def fieldA (t : TypeId) (x : AV) (i : Nat) : Option AV :=
  match fieldOf P t i, x with
  | some (ft, o), .agg xs => partA P ft xs o
  | _, _ => none

def indexAddrA (t : TypeId) (s : St) (x ix : AV) : Option AV :=
  match tkOf P t, x, ix with
  | .sl e, .sl xs len _, .int _ i => (esz P e).bind fun n => if 0 ≤ i ∧ i < len then some (.rptr (xs.drop (i.toNat * n))) else none
  | .sl e, .own p k off len _, .int _ i => (esz P e).bind fun n => if live s p k = true ∧ 0 ≤ i ∧ i < len then some (.ptr p k (off + i.toNat * n)) else none
  | .arr m e, .ptr p k off, .int _ i => (esz P e).bind fun n => if live s p k = true ∧ 0 ≤ i ∧ i < m then some (.ptr p k (off + i.toNat * n)) else none
  | .arr m e, .rptr xs, .int _ i => (esz P e).bind fun n => if 0 ≤ i ∧ i < m then some (.rptr (xs.drop (i.toNat * n))) else none
  | _, _, _ => none
def indexA (t : TypeId) (x ix : AV) : Option AV :=
  match tkOf P t, x, ix with
  | .arr m e, .agg xs, .int _ i => (esz P e).bind fun n => if 0 ≤ i ∧ i < m then partA P e xs (i.toNat * n) else none
  | .str, .str b, .int _ i => if 0 ≤ i ∧ i < b.length then some (.int .u8 (b.getD i.toNat 0).toNat) else none
  | _, _, _ => none

def boundA (x : Option AV) (d : Nat) (y : Nat) : Option Nat :=
  match x with
  | none => some d
  | some (.int _ i) => if 0 ≤ i ∧ i ≤ y then some i.toNat else none
  | some _ => none
/-- A slice expression. -/
def sliceA (t : TypeId) (s : St) (x : AV) (lo hi mx : Option AV) : Option AV :=
  match tkOf P t, x with
  | .str, .str b => if mx.isSome then none else
    (boundA hi b.length b.length).bind fun h => (boundA lo 0 h).bind fun l => some (.str ((b.take h).drop l))
  | .sl e, .sl xs len g =>
    if mx.isSome ∧ hi.isNone then none else
    (boundA mx len len).bind fun m => (boundA hi len m).bind fun h => (boundA lo 0 h).bind fun l => (esz P e).bind fun n =>
      if xs.length = len * n then
      some (.sl ((xs.take (h * n)).drop (l * n)) (h - l) (if (mx.isSome ∧ m = h) ∨ (mx = none ∧ (g = .tight ∨ g = .nil) ∧ h = len) then .tight else .loose)) else none
  | .sl e, .own p k off len e' =>
    if mx.isSome ∨ live s p k = false then none else
    (boundA hi len len).bind fun h => (boundA lo 0 h).bind fun l => (esz P e).bind fun n =>
      if e' = n ∧ l < len then some (.own p k (off + l * n) (h - l) n) else none
  | .arr m e, .ptr p k off =>
    if mx.isSome then none else
    (boundA hi m m).bind fun h => (boundA lo 0 h).bind fun l => (esz P e).bind fun n => (cellsAt s p k).bind fun xs =>
      if l < m ∧ off + m * n ≤ xs.length then some (.own p k (off + l * n) (h - l) n) else none
  | _, _ => none

def lenA (t : TypeId) (s : St) (x : AV) : Option AV :=
  match tkOf P t, x with
  | .str, .str b => some (.int .i64 b.length)
  | .sl _, .sl _ len _ => some (.int .i64 len)
  | .sl _, .own p t _ len _ => if live s p t then some (.int .i64 len) else none
  | .arr n _, _ => some (.int .i64 n)
  | _, _ => none

def cellsOf : AV → Option (List AV)
  | .agg xs => some xs
  | v => if cellOk v then some [v] else none

def fillA (place : Nat → Option (Nat × Nat)) (cs : List AV) : List (Nat × AV) → Option (List AV)
  | [] => some cs
  | (i, v) :: r => match place i, (settled v).bind cellsOf with
    | some (off, size), some ys => if ys.length = size ∧ off + size ≤ cs.length then fillA place (splice cs off ys) r else none
    | _, _ => none
/-- Where the fields of a struct lie, and how many cells they have. -/
def placesA (t : TypeId) : Option (List (Nat × Nat)) := match P.underlying t with
  | some (.struct fs) => fs.toList.mapM fun f => (P.info? f.type).map fun i => (f.offset, i.size)
  | _ => none
def rep (n : Nat) (z : List AV) : List AV := (List.replicate n z).flatten

def max2A : AV → AV → Option AV
  | .int k x, .int _ y => some (.int k (if y > x then y else x))
  | _, _ => none
def min2A : AV → AV → Option AV
  | .int k x, .int _ y => some (.int k (if y < x then y else x))
  | _, _ => none
def foldA (f : AV → AV → Option AV) : AV → List AV → Option AV
  | x, [] => some x
  | x, y :: r => (f x y).bind fun z => foldA f z r

/-- Whose room is behind a slice: its cells, its length, and the store with that room taken. -/
def baseA (e : Nat) (s : St) (x : AV) : Option (List AV × Nat × St) :=
  match x with
  | .sl xs len .tight | .sl xs len .nil => if xs.length = len * e then some (xs, len, s) else none
  | .sl xs len (.tok p t) => match s p with
    | ⟨t', .tok e'⟩ => if t' = t ∧ e' = e ∧ xs.length = len * e then some (xs, len, upd s p ⟨t', .dead⟩) else none
    | _ => none
  | .own p t off len e' => match s p with
    | ⟨t', .buf xs⟩ => if t' = t ∧ e' = e ∧ off + len * e = xs.length then some (xs.drop off, len, upd s p ⟨t', .frz xs⟩) else none
    | _ => none
  | _ => none
/-- What is put behind: cells, and how many elements. -/
def moreA (el : TypeId) (n : Nat) (ty : Option TypeId) (s : St) (x : AV) : Option (List AV × Nat) :=
  match ty.map (tkOf P), x with
  | some (.int _), .int .i64 k => (zeroOf P el).bind fun z => if 0 ≤ k ∧ k < 2147483648 ∧ byOf P el ≤ 65536 ∧ z.length = n then some (rep k.toNat z, k.toNat) else none
  | some (.sl _), .sl xs len _ => if xs.length = len * n then some (xs, len) else none
  | some (.sl _), .own p t off len e => (cellsAt s p t).bind fun xs => if e = n ∧ off + len * n ≤ xs.length then some ((xs.drop off).take (len * n), len) else none
  | some .str, .str b => if n = 1 then some (cellsOfBytes b, b.length) else none
  | _, _ => none
def appendA (at_ : Array TypeId) (d : Nat) (s : St) (x y : AV) : Option (AV × St) :=
  match (at_[0]?).map (tkOf P) with
  | some (.sl el) => (esz P el).bind fun e => (moreA P el e at_[1]? s y).bind fun (ys, n) => (baseA e s x).bind fun (xs, len, s) =>
    if (len + n) * byOf P el ≤ 140737488355328 ∧ len + n ≤ 9223372036854775807 ∧ (zeroOf P el).map List.length = some e then
      some (.sl (xs ++ ys) (len + n) (.tok d ((s d).t + 1)), upd s d ⟨(s d).t + 1, .tok e⟩) else none
  | _ => none
def copyA (at_ : Array TypeId) (s : St) (x y : AV) : Option (AV × St) :=
  match (at_[0]?).map (tkOf P), at_[1]?.map (tkOf P), x with
  | some (.sl el), some k, .own p t off len e => (esz P el).bind fun n => (match k with | .sl _ | .str => moreA P el n at_[1]? s y | _ => none).bind fun (ys, m) => match s p with
    | ⟨t', .buf xs⟩ => if t' = t ∧ e = n ∧ off + len * e ≤ xs.length then
        some (.int .i64 (Nat.min m len : Nat), upd s p ⟨t', .buf (splice xs off (ys.take (Nat.min m len * e)))⟩) else none
    | _ => none
  | _, _, _ => none

def makeA (t : TypeId) (d : Nat) (s : St) (l c : AV) : Option (AV × St) :=
  match tkOf P t, l, c with
  | .sl e, .int .i64 l, .int .i64 c => (esz P e).bind fun n => (zeroOf P e).bind fun z =>
    if 0 ≤ l ∧ l ≤ c ∧ c ≤ 2147483648 ∧ byOf P e ≤ 65536 ∧ z.length = n then
      some (.own d ((s d).t + 1) 0 l.toNat n, upd s d ⟨(s d).t + 1, .buf (rep l.toNat z)⟩) else none
  | _, _, _ => none

/-! ### Calls -/
def argA (f : FuncId) (s : St) (j : Nat) (v : AV) : Option Arg :=
  match v with
  | .ptr p t off => match s p with
    | ⟨t', .buf xs⟩ => if t' = t then some (.ptr xs off) else none
    | ⟨t', .frz xs⟩ => if t' = t then some (.tree (.rptr (xs.drop off))) else none
    | _ => none
  | .own p t off len e => (cellsAt s p t).bind fun xs => if off + len * e ≤ xs.length then
      (if cfg.lin f j then (match (s p).c with | .buf _ => some (.own xs off len e) | _ => none) else some (.tree (.sl ((xs.drop off).take (len * e)) len .loose))) else none
  | .sl xs len (.tok p t) => if cfg.lin f j then match s p with
      | ⟨t', .tok e⟩ => if t' = t ∧ xs.length = len * e then some (.tok xs len e) else none
      | _ => none
    else some (.tree (.sl xs len .loose))
  | v => some (.tree v)
def argsA (f : FuncId) (s : St) : Nat → List AV → Option (List Arg)
  | _, [] => some []
  | j, v :: r => (argA cfg f s j v).bind fun a => (argsA f s (j + 1) r).map (a :: ·)
/-- Which entry an argument hands over. -/
def givesOf : AV → Arg → Option Nat
  | .ptr p _ _, .ptr .. => some p
  | .own p _ _ _ _, .own .. => some p
  | .sl _ _ (.tok p _), .tok .. => some p
  | _, _ => none
def lendsOf : AV → Arg → Option Nat
  | .own p _ _ _ _, .tree _ => some p
  | _, _ => none
def givesL : List AV → List Arg → List Nat
  | v :: vs, a :: as => match givesOf v a with | some p => p :: givesL vs as | none => givesL vs as
  | _, _ => []
def lendsL : List AV → List Arg → List Nat
  | v :: vs, a :: as => match lendsOf v a with | some p => p :: lendsL vs as | none => lendsL vs as
  | _, _ => []
def flat : AV → Bool
  | .int .. | .bool _ | .str _ | .nilp | .nili => true
  | _ => false
def flatR : Res → Bool
  | .tree (.tup vs) => vs.all flat
  | .tree v => flat v
  | _ => false
def frzAt (s : St) (p : Nat) : St := match s p with
  | ⟨t, .buf xs⟩ => upd s p ⟨t, .frz xs⟩
  | _ => s
/-- The store behind a call: what was handed over holds what was left in it. -/
def backA : St → List AV → List Arg → List (List AV) → Option St
  | s, v :: vs, a :: as, o :: os => match givesOf v a with
    | none => backA s vs as os
    | some p => match a with
      | .tok .. => backA (upd s p ⟨(s p).t, .dead⟩) vs as os
      | _ => backA (upd s p ⟨(s p).t, .buf o⟩) vs as os
  | s, [], [], [] => some s
  | _, _, _, _ => none
def resA (d : Nat) (s : St) : Res → Option (AV × St)
  | .tree v => some (v, s)
  | .newp xs => some (.ptr d ((s d).t + 1) 0, upd s d ⟨(s d).t + 1, .buf xs⟩)
  | .own xs len e => some (.own d ((s d).t + 1) 0 len e, upd s d ⟨(s d).t + 1, .buf xs⟩)
  | .tok xs len e => some (.sl xs len (.tok d ((s d).t + 1)), upd s d ⟨(s d).t + 1, .tok e⟩)
def callA (call : FuncId → List Arg → Option Out) (d : Nat) (s : St) (f : FuncId) (vs : List AV) : Option (AV × St) :=
  (argsA cfg f s 0 vs).bind fun as =>
    if (givesL vs as).Nodup ∧ (∀ p ∈ lendsL vs as, p ∉ givesL vs as) then
      (call f as).bind fun (r, os) => (backA (if flatR r && (givesL vs as).isEmpty then s else (lendsL vs as).foldl frzAt s) vs as os).bind fun s => resA d s r
    else none

def isTree : AV → Bool
  | .own .. | .ptr .. | .sl _ _ (.tok _ _) => false
  | _ => true
/-- A call that leaves the store alone. -/
def callQ (call : FuncId → List Arg → Option Out) (f : FuncId) (vs : List AV) : Option AV :=
  if vs.all isTree then (call f (vs.map .tree)).bind fun (r, _) => match r with
    | .tree v => some v
    | _ => none
  else none

/-- The entry that an operation fills anew, and nothing else: new memory; a call that hands over what it made. -/
def freshD (keep : FuncId → Bool) (o : Oper) : Option Nat :=
  match o.guard with
  | some _ => none
  | none => match o.op with
    | .alloc _ | .makeSlice .. => o.dst
    | .call c => match c.callee with
      | .value (.func f) => if keep f then o.dst else none
      | _ => none
    | _ => none
def killD (s : St) (d : Nat) : St := upd s d ⟨(s d).t, .dead⟩
/-- What is filled anew in a region that draws its order is empty at its beginning. -/
def killF (keep : FuncId → Bool) : List Oper → St → St
  | [], s => s
  | o :: r, s => killF keep r (match freshD keep o with | some d => killD s d | none => s)

def killI (keep : FuncId → Bool) (draw : Bool) (l : List Oper) (s : St) : St := match draw with
  | true => killF keep l s
  | false => s

def opA (call : FuncId → List Arg → Option Out) (quiet : Bool) (o : Oper) (d : Nat) (env : Env) (s : St) : Option (AV × St) :=
  let q (v : Option AV) : Option (AV × St) := v.map (·, s)
  match o.op with
  | .move x | .assign x => some (ev env x, s)
  | .pick c a b => match ev env c with
    | .bool c => some (if c then ev env a else ev env b, s)
    | _ => none
  | .binOp op t x y _ => q (binA P op t (ev env x) (ev env y))
  | .unOp op _ x => q (unA op (ev env x))
  | .convert src dst x => q (convA P src dst s (ev env x))
  | .extract t i => match ev env t with
    | .tup vs => q vs[i]?
    | _ => none
  | .load t a => q (loadA P t s (ev env a))
  | .store t a x => (storeA P t s (ev env a) (ev env x)).map (AV.tup [], ·)
  | .fieldAddr t x i => q (fieldAddrA P t s (ev env x) i)
  | .field t x i => q (fieldA P t (ev env x) i)
  | .indexAddr t x i => q (indexAddrA P t s (ev env x) (ev env i))
  | .index t x i => q (indexA P t (ev env x) (ev env i))
  | .slice t x lo hi mx => q (sliceA P t s (ev env x) (lo.map (ev env)) (hi.map (ev env)) (mx.map (ev env)))
  | .nilCheck x => match ev env x with
    | .ptr p t off => if live s p t then some (.ptr p t off, s) else none
    | .rptr xs => some (.rptr xs, s)
    | _ => none
  | .build t parts => (zeroOf P t).bind fun z => match tkOf P t with
    | .st => (placesA P t).bind fun pl => q ((fillA (fun i => pl[i]?) z (parts.toList.map fun (i, x) => (i, ev env x))).map .agg)
    | .arr _ e => (esz P e).bind fun n => q ((fillA (fun i => some (i * n, n)) z (parts.toList.map fun (i, x) => (i, ev env x))).map .agg)
    | _ => none
  | .buildSlice t len parts => match tkOf P t with
    | .sl e => (esz P e).bind fun n => (zeroOf P e).bind fun z => if z.length = n ∧ len * n ≤ 4096 then
        q ((fillA (fun i => some (i * n, n)) (rep len z) (parts.toList.map fun (i, x) => (i, ev env x))).map (.sl · len .tight)) else none
    | _ => none
  | .makeSlice t l c => makeA P t d s (ev env l) (ev env c)
  | .alloc t => (zeroOf P t).map fun z => (.ptr d ((s d).t + 1) 0, upd s d ⟨(s d).t + 1, .buf z⟩)
  | .box _ x => (settle s (ev env x)).bind fun (v, s) => (cellsOf v).map fun xs => (.ptr d ((s d).t + 1) 0, upd s d ⟨(s d).t + 1, .buf xs⟩)
  | .makeInterface t x => (settled (ev env x)).bind fun v => match tkOf P t with | .ifc | .other => none | _ => some (.iface t v, s)
  | .call c => match c.callee with
    | .builtin .len => match c.args.toList, c.argTypes[0]? with
      | [x], some t => q (lenA P t s (ev env x))
      | _, _ => none
    | .builtin .append => match c.args.toList with
      | [x, y] => appendA P c.argTypes d s (ev env x) (ev env y)
      | _ => none
    | .builtin .copy => match c.args.toList with
      | [x, y] => copyA P c.argTypes s (ev env x) (ev env y)
      | _ => none
    | .builtin .max => match c.args.toList with
      | x :: r => q (foldA max2A (ev env x) (r.map (ev env)))
      | _ => none
    | .builtin .min => match c.args.toList with
      | x :: r => q (foldA min2A (ev env x) (r.map (ev env)))
      | _ => none
    | .value f => match ev env f with
      | .fn f caps => if quiet then (if (freshD cfg.keep o).isSome then (if (c.args.toList.map (ev env) ++ caps).all isTree then callA cfg call d s f (c.args.toList.map (ev env) ++ caps) else none) else q (callQ call f (c.args.toList.map (ev env) ++ caps))) else callA cfg call d s f (c.args.toList.map (ev env) ++ caps)
      | _ => none
    | _ => none
  | _ => none

/-- Operations that turn the store, by their kind. -/
def loudA (o : Oper) : Bool :=
  match o.op with
  | .store .. | .makeSlice .. | .alloc _ | .box .. => true
  | .call c => match c.callee with
    | .builtin .append | .builtin .copy => true
    | _ => false
  | _ => false
def setO (env : Env) (d : Option Tmp) (v : AV) : Env := match d with | some d => upd env d v | none => env
/-- Is an operation carried out? -/
def wantA (ops : Array Oper) (o : Oper) (env : Env) : Option Bool :=
  match o.guard with
  | none => some true
  | some (j, want) => match (ops[j]?).bind (·.dst) with
    | none => none
    | some d => match env d with
      | .bool b => some (b == want)
      | .tup _ => some false
      | _ => none
def opsA (call : FuncId → List Arg → Option Out) (quiet : Bool) (ops : Array Oper) : List Oper → Env → St → Option (Env × St)
  | [], env, s => some (env, s)
  | o :: r, env, s => match wantA ops o env with
    | some true => (opA P cfg call quiet o (o.dst.getD 0) env s).bind fun (v, s) => opsA call quiet ops r (setO env o.dst v) s
    | some false => opsA call quiet ops r (setO env o.dst (.tup [])) s
    | none => none

inductive Ex where
  | normal | exit (id : Nat) | ret

abbrev Kont := Ex → Env → St → Option Out
def loopA (body : Kont → Env → St → Option Out) (K : Kont) : Nat → Env → St → Option Out
  | 0, _, _ => none
  | n + 1, env, s => body (fun e env s => match e with
    | .normal => loopA body K n env s
    | e => K e env s) env s
def den (call : FuncId → List Arg → Option Out) (n : Nat) : Code → Kont → Env → St → Option Out
  | .skip, K => K .normal
  | .label _, K => K .normal
  | .region _ ops draw, K => fun env s => (opsA P cfg call draw ops ops.toList env (killI cfg.keep draw ops.toList s)).bind fun (env, s) => K .normal env s
  | .seq a b, K => den call n a fun e env s => match e with
    | .normal => den call n b K env s
    | e => K e env s
  | .cond c a b, K => fun env s => match ev env c with
    | .bool true => den call n a K env s
    | .bool false => den call n b K env s
    | _ => none
  | .scope a, K => den call n a K
  | .block id a, K => den call n a fun e env s => match e with
    | .exit i => if i = id then K .normal env s else K (.exit i) env s
    | e => K e env s
  | .loop a, K => loopA (den call n a) K n
  | .exit id, K => K (.exit id)
  | .ret, K => K .ret
  | _, _ => fun _ _ => none

def env0 (as : List Arg) : Env := fun j => match as[j]? with
  | some (.tree v) => v
  | some (.ptr _ off) => .ptr j 0 off
  | some (.own _ off len e) => .own j 0 off len e
  | some (.tok xs len _) => .sl xs len (.tok j 0)
  | none => .tup []
def st0 (as : List Arg) : St := fun j => match as[j]? with
  | some (.ptr xs _) => ⟨0, .buf xs⟩
  | some (.own xs _ _ _) => ⟨0, .buf xs⟩
  | some (.tok _ _ e) => ⟨0, .tok e⟩
  | _ => ⟨0, .dead⟩
/-- What is left in what was handed over. -/
def outsA (s : St) : Nat → List Arg → Option (List (List AV))
  | _, [] => some []
  | j, a :: as => (match a with
    | .ptr _ _ | .own .. => match s j with
      | ⟨0, .buf xs⟩ => some xs
      | _ => none
    | _ => some []).bind fun o => (outsA s (j + 1) as).map (o :: ·)
def settleL (s : St) : List AV → Option (List AV × St)
  | [] => some ([], s)
  | v :: vs => (settle s v).bind fun (v, s) => (settleL s vs).map fun (vs, s) => (v :: vs, s)
def finish1 (keep : Bool) (np : Nat) (s : St) (v : AV) : Option (Res × St) :=
  match v with
  | .ptr p t 0 => match s p with
    | ⟨t', .buf xs⟩ => if t' = t ∧ np ≤ p then some (.newp xs, s) else none
    | _ => none
  | .own p t 0 len e => if keep then (match s p with
    | ⟨t', .buf xs⟩ => if t' = t ∧ np ≤ p ∧ len * e ≤ xs.length then some (.own xs len e, s) else none
    | _ => none) else (settle s (.own p t 0 len e)).map fun (v, s) => (.tree v, s)
  | .sl xs len (.tok p t) => if keep then (match s p with
    | ⟨t', .tok e⟩ => if t' = t then some (.tok xs len e, s) else none
    | _ => none) else some (.tree (.sl xs len .loose), s)
  | v => (settle s v).map fun (v, s) => (.tree v, s)
def finish (keep : Bool) (as : List Arg) (rs : Array ResultVar) (env : Env) (s : St) : Option Out :=
  match rs.toList with
  | [.tmp t] => (finish1 keep as.length s (env t)).bind fun (r, s) => (outsA s 0 as).map (r, ·)
  | rs => (rs.mapM fun r => match r with | ResultVar.tmp t => some (env t) | _ => none).bind fun vs => (settleL s vs).bind fun (vs, s) => (outsA s 0 as).map (.tree (.tup vs), ·)

def isTmpR : ResultVar → Bool
  | .tmp _ => true
  | .cell .. => false
def rvA (s : St) (env : Env) : ResultVar → Option AV
  | .tmp t => some (env t)
  | .cell a t => loadA P t s (env a)
/-- The end of a call: results that are temporaries, results that lie in cells. -/
def finishP (keep : Bool) (as : List Arg) (rs : Array ResultVar) (env : Env) (s : St) : Option Out :=
  match rs.toList.all isTmpR with
  | true => finish keep as rs env s
  | false => match rs.toList with
    | [.cell a t] => (loadA P t s (env a)).bind fun v => (settle s v).bind fun (v, s) => (outsA s 0 as).map (.tree v, ·)
    | rs => (rs.mapM (rvA P s env)).bind fun vs => (settleL s vs).bind fun (vs, s) => (outsA s 0 as).map (.tree (.tup vs), ·)

/-! ### Regions that draw their order -/
def tmpsOf (xs : Array Operand) : List Tmp := xs.toList.filterMap fun | .tmp t => some t | _ => none
def readsOf (ops : Array Oper) (o : Oper) : List Tmp := tmpsOf o.op.operands ++ (match o.guard with | some (j, _) => ((ops[j]?).bind (·.dst)).toList | none => [])
def namesOf (ops : Array Oper) (o : Oper) : List Tmp := o.dst.toList ++ readsOf ops o
/-- Does operation i wait for operation k? -/
def waitsFor (ops : Array Oper) : Nat → Nat → Nat → Bool
  | 0, _, _ => false
  | f + 1, i, k => match ops[i]? with
    | none => false
    | some o => o.after.toList.any (fun e => Region.binds .any e && e.on == k) || o.after.toList.any (fun e => Region.binds .any e && waitsFor ops f e.on k)
def touches (ops : Array Oper) (x y : Oper) : Bool := (match x.dst with | some d => (namesOf ops y).contains d | none => false) || (match y.dst with | some d => (namesOf ops x).contains d | none => false)
def loudB (keep : FuncId → Bool) (o : Oper) : Bool := loudA o && (freshD keep o).isNone
def sameD (keep : FuncId → Bool) (x y : Oper) : Bool := match freshD keep x, freshD keep y with | some a, some b => a == b | _, _ => false
/-- Operations that do not ask the store. -/
def inertA (o : Oper) : Bool := match o.op with
  | .move _ | .assign _ | .pick .. | .binOp .. | .unOp .. | .extract .. | .field .. | .index .. => true
  | _ => false
def drawOk (keep : FuncId → Bool) (ops : Array Oper) : Bool :=
  let m := ops.toList.findIdx (loudB keep)
  (List.range ops.size).all fun i => match ops[i]? with
    | none => false
    | some o => (o.after.toList.all fun e => !Region.binds .any e || decide (e.on < i)) &&
      (List.range i).all fun k => match ops[k]? with
        | none => false
        | some p => (!(touches ops p o || (decide (m ≤ i) && !inertA o && !inertA p)) || waitsFor ops ops.size i k) && !sameD keep p o
/-- Every temporary that is written is there; regions that draw their order may. -/
def dstOk (keep : FuncId → Bool) (m : Nat) : Code → Bool
  | .region _ ops draw => (ops.toList.all fun o => match o.dst with | some d => decide (d < m) | none => true) && (!draw || drawOk keep ops)
  | .seq a b => dstOk keep m a && dstOk keep m b
  | .cond _ a b => dstOk keep m a && dstOk keep m b
  | .block _ a => dstOk keep m a
  | .loop a => dstOk keep m a
  | .scope a => dstOk keep m a
  | _ => true
def evalFn (n : Nat) : Nat → FuncId → List Arg → Option Out
  | 0, _, _ => none
  | d + 1, f, as => match cfg.prim f as with
    | some o => some o
    | none => match P.funcs[f]? with
    | none => none
    | some fn => match fn.body with
      | none => none
      | some c => if fn.name ≠ "runtime.NumGoroutine" ∧ as.length ≤ fn.ntmps ∧ dstOk cfg.keep fn.ntmps c = true then
          den P cfg (evalFn n d) n c (fun e env s => match e with
            | .normal => finishP P (cfg.keep f) as fn.results env s
            | .ret => finishP P (cfg.keep f) as fn.results env s
            | _ => none) (env0 as) (st0 as) else none
end
end Go.Ab
