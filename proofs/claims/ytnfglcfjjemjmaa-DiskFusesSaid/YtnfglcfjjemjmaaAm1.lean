/- A small machine over plain data: values whose addresses are numbers of its own, a memory that is a list of blocks, and what the program's operations do to them. Definitions alone. No condition. -/
import Derived.WalkKit
namespace Go.Proofs.Ytnfglcfjjemjmaa
open Go Go.RowKit

/-- A value of one cell that names no block; 'junk': one of which nothing is known. -/
inductive SV where
  | junk
  | bool (b : Bool)
  | int (k : IntKind) (n : Int)
  | str (s : List UInt8)
  | flt (b : Nat)

/-- A value of the small machine. 'junk' stands for a value of which nothing is known. -/
inductive AV where
  | junk
  | bool (b : Bool)
  | int (k : IntKind) (n : Int)
  | str (s : List UInt8)
  | ptr (i off : Nat)
  | nilp
  | sl (i off base len esz : Nat) (lim : Option Nat)
  | nilsl
  | fn (f : FuncId) (first cap : List AV)
  | nilfn
  | nilif
  | agg (l : List AV)
  | nums (k : IntKind) (l : List Int)
  | tup (l : List AV)
  | at (o : Nat) (c : AV)
  | flt (b : Nat)
  | flat (l : List SV)

inductive BK where
  | dead | ro | own | grow
deriving DecidableEq

structure Blk where
  cells : AV
  kind : BK
  dirty : Bool

abbrev Mem := List Blk

def SV.av : SV → AV
  | .junk => .junk
  | .bool b => .bool b
  | .int k n => .int k n
  | .str s => .str s
  | .flt b => .flt b
def SV.live : SV → Bool
  | .junk => false
  | _ => true
def allS : List SV → Bool
  | [] => true
  | s :: l => s.live && allS l
def toSV : AV → Option SV
  | .bool b => some (.bool b)
  | .int k n => some (.int k n)
  | .str s => some (.str s)
  | .flt b => some (.flt b)
  | _ => none
def toSVs : List AV → Option (List SV)
  | [] => some []
  | v :: l => match toSV v, toSVs l with
    | some s, some r => some (s :: r)
    | _, _ => none
def toIntsS (k : IntKind) : List SV → Option (List Int)
  | [] => some []
  | .int k' n :: r => if k' = k then (match toIntsS k r with | some l => some (n :: l) | none => none) else none
  | _ :: _ => none
/-- 'at o c': the cells of c, behind o cells of which nothing is known. -/
def AV.cells : AV → List AV
  | .agg l => l
  | .nums k l => l.map (.int k)
  | .flat l => l.map SV.av
  | .at o c => List.replicate o .junk ++ c.cells
  | v => [v]
def AV.csize : AV → Nat
  | .agg l => l.length
  | .nums _ l => l.length
  | .flat l => l.length
  | .at o c => o + c.csize
  | _ => 1
/-- The value of one cell. -/
def AV.one : AV → Bool
  | .agg _ | .nums _ _ | .tup _ | .junk | .at _ _ | .flat _ => false
  | _ => true
def AV.isAgg : AV → Bool
  | .agg _ | .nums _ _ | .flat _ => true
  | _ => false
/-- What a variable of this value holds. -/
def AV.block : AV → Option AV
  | .agg l => some (.agg l)
  | .nums k l => some (.nums k l)
  | .flat l => some (.flat l)
  | .tup _ | .junk | .at _ _ => none
  | v => some (.agg [v])
def AV.get? : AV → Nat → Option AV
  | .agg l, i => l[i]?
  | .nums k l, i => match l[i]? with
    | some n => some (.int k n)
    | none => none
  | .flat l, i => match l[i]? with
    | some s => some s.av
    | none => none
  | .at o c, i => bif Nat.ble o i then c.get? (i - o) else none
  | _, _ => none
def toInts (k : IntKind) : List AV → Option (List Int)
  | [] => some []
  | .int k' n :: r => if k' = k then (match toInts k r with | some l => some (n :: l) | none => none) else none
  | _ :: _ => none
def AV.sub (c : AV) (off n : Nat) (ck : Option IntKind) : Option AV :=
  match c with
  | .nums k l => if Nat.ble (off + n) l.length then some (.nums k ((l.drop off).take n)) else none
  | .agg l => if Nat.ble (off + n) l.length then
      (match ck with
      | none => some (.agg ((l.drop off).take n))
      | some k => match toInts k ((l.drop off).take n) with
        | some r => some (.nums k r)
        | none => none)
    else none
  | .flat l => if Nat.ble (off + n) l.length then
      (match ck with
      | none => some (.flat ((l.drop off).take n))
      | some k => match toIntsS k ((l.drop off).take n) with
        | some r => some (.nums k r)
        | none => none)
    else none
  | .at o c => bif Nat.ble o off then c.sub (off - o) n ck else none
  | _ => none
/-- A part of the cells, or one of them. -/
def AV.part (c : AV) (off : Nat) : Option (Nat × Option IntKind) → Option AV
  | none => c.get? off
  | some (n, ck) => c.sub off n ck
def allOne : List AV → Bool
  | [] => true
  | v :: r => v.one && allOne r
/-- Values that hold one cell, or several. -/
def AV.plain : AV → Bool
  | .agg l => allOne l
  | .nums _ _ => true
  | .flat l => allS l
  | v => v.one
def AV.putR (c : AV) (off : Nat) (v : AV) : Option AV :=
  match c, v with
  | .nums k l, .int k' n => if k = k' then (if Nat.blt off l.length then some (.nums k (l.set off n)) else none) else none
  | .nums k l, .nums k' l' => if k = k' then (if Nat.ble (off + l'.length) l.length then some (.nums k (l.take off ++ (l' ++ l.drop (off + l'.length)))) else none) else none
  | .agg l, .nums k' l' => if Nat.ble (off + l'.length) l.length then some (.agg (l.take off ++ (l'.map (.int k') ++ l.drop (off + l'.length)))) else none
  | .agg l, .agg l' => if allOne l' && Nat.ble (off + l'.length) l.length then some (.agg (l.take off ++ (l' ++ l.drop (off + l'.length)))) else none
  | .agg l, .flat l' => if allS l' && Nat.ble (off + l'.length) l.length then some (.agg (l.take off ++ (l'.map SV.av ++ l.drop (off + l'.length)))) else none
  | .agg l, v => if v.one && Nat.blt off l.length then some (.agg (l.set off v)) else none
  | .flat l, .nums k' l' => if Nat.ble (off + l'.length) l.length then some (.flat (l.take off ++ (l'.map (.int k') ++ l.drop (off + l'.length)))) else none
  | .flat l, .flat l' => if allS l' && Nat.ble (off + l'.length) l.length then some (.flat (l.take off ++ (l' ++ l.drop (off + l'.length)))) else none
  | .flat l, .agg l' => if allOne l' && Nat.ble (off + l'.length) l.length then some (.agg ((l.map SV.av).take off ++ (l' ++ (l.map SV.av).drop (off + l'.length)))) else none
  | .flat l, v => if v.one && Nat.blt off l.length then (match toSV v with
      | some s => some (.flat (l.set off s))
      | none => some (.agg ((l.map SV.av).set off v))) else none
  | _, _ => none
/-- Cells behind cells. -/
def AV.join : AV → AV → Option AV
  | .nums k l, .nums k' l' => if k = k' then some (.nums k (l ++ l')) else none
  | .agg l, .agg l' => some (.agg (l ++ l'))
  | .agg l, .nums k' l' => some (.agg (l ++ l'.map (.int k')))
  | .nums k l, .agg l' => some (.agg (l.map (.int k) ++ l'))
  | .flat l, .flat l' => some (.flat (l ++ l'))
  | .flat l, .nums k' l' => some (.flat (l ++ l'.map (.int k')))
  | .nums k l, .flat l' => some (.flat (l.map (.int k) ++ l'))
  | .flat l, .agg l' => some (.agg (l.map SV.av ++ l'))
  | .agg l, .flat l' => some (.agg (l ++ l'.map SV.av))
  | _, _ => none
def AV.rep (z : AV) (n : Nat) : Option AV :=
  match z with
  | .nums k l => some (.nums k (List.replicate n l).flatten)
  | .agg l => some (.agg (List.replicate n l).flatten)
  | .flat l => some (.flat (List.replicate n l).flatten)
  | _ => none

/-! ### Which blocks a value names; the same value under other numbers -/
mutual
def AV.refs : AV → List Nat
  | .ptr i _ => [i]
  | .sl i _ _ _ _ _ => [i]
  | .fn _ a c => refsL a ++ refsL c
  | .agg l => refsL l
  | .tup l => refsL l
  | .at _ c => c.refs
  | _ => []
def refsL : List AV → List Nat
  | [] => []
  | v :: l => v.refs ++ refsL l
end
mutual
def AV.ren (s : Nat → Option Nat) : AV → Option AV
  | .ptr i o => match s i with
    | some j => some (.ptr j o)
    | none => none
  | .sl i o b n e lim => match s i with
    | some j => some (.sl j o b n e lim)
    | none => none
  | .fn f a c => match renL s a, renL s c with
    | some a', some c' => some (.fn f a' c')
    | _, _ => none
  | .agg l => match renL s l with
    | some l' => some (.agg l')
    | none => none
  | .tup l => match renL s l with
    | some l' => some (.tup l')
    | none => none
  | .at o c => match c.ren s with
    | some c' => some (.at o c')
    | none => none
  | .junk => some .junk
  | .bool b => some (.bool b)
  | .int k n => some (.int k n)
  | .str x => some (.str x)
  | .nilp => some .nilp
  | .nilsl => some .nilsl
  | .nilfn => some .nilfn
  | .nilif => some .nilif
  | .flt b => some (.flt b)
  | .nums k l => some (.nums k l)
  | .flat l => some (.flat l)
def renL (s : Nat → Option Nat) : List AV → Option (List AV)
  | [] => some []
  | v :: l => match v.ren s, renL s l with
    | some v', some l' => some (v' :: l')
    | _, _ => none
end
/-- A block under other numbers; a dead one has no cells. -/
def Blk.ren (s : Nat → Option Nat) (b : Blk) : Option Blk :=
  match b.kind with
  | .dead => some ⟨.junk, .dead, b.dirty⟩
  | _ => match b.cells.ren s with
    | some c => some { b with cells := c }
    | none => none
def renM (s : Nat → Option Nat) : List Blk → Option (List Blk)
  | [] => some []
  | b :: l => match b.ren s, renM s l with
    | some b', some l' => some (b' :: l')
    | _, _ => none
def memN (i : Nat) : List Nat → Bool
  | [] => false
  | j :: l => Nat.beq i j || memN i l
/-- The place of i in l. -/
def placeOf (i : Nat) : List Nat → Option Nat
  | [] => none
  | j :: l => bif Nat.beq i j then some 0 else (match placeOf i l with | some k => some (k + 1) | none => none)
def Blk.refs (b : Blk) : List Nat := match b.kind with
  | .dead => []
  | _ => b.cells.refs
/-- The blocks that may be reached, from n0 on, in the order in which they are met. -/
def reach (n0 : Nat) (M : Mem) : Nat → List Nat → List Nat → List Nat
  | 0, _, acc => acc
  | _ + 1, [], acc => acc
  | f + 1, i :: todo, acc =>
    bif Nat.blt i n0 || memN i acc then reach n0 M f todo acc
    else match M[i]? with
      | some b => reach n0 M f (todo ++ b.refs) (acc ++ [i])
      | none => reach n0 M f todo (acc ++ [i])
def pickM (M : Mem) : List Nat → Option (List Blk)
  | [] => some []
  | i :: l => match M[i]?, pickM M l with
    | some b, some r => some (b :: r)
    | _, _ => none
def allLt (n : Nat) : List Nat → Bool
  | [] => true
  | i :: l => Nat.blt i n && allLt n l
/-- The blocks that were there: one that nobody wrote stays as it is. -/
def renH (n0 : Nat) (s : Nat → Option Nat) : List Blk → Option (List Blk)
  | [] => some []
  | b :: l => match (bif b.dirty then b.ren s else bif allLt n0 b.refs then some b else none), renH n0 s l with
    | some b', some l' => some (b' :: l')
    | _, _ => none
/-- Only the first n0 blocks, and those of the others that may still be reached, by new numbers. -/
def refsM : List Blk → List Nat
  | [] => []
  | b :: l => b.refs ++ refsM l
def nodupN : List Nat → Bool
  | [] => true
  | i :: l => !memN i l && nodupN l
def allGe (n : Nat) : List Nat → Bool
  | [] => true
  | i :: l => Nat.ble n i && allGe n l
def crampBy (n0 : Nat) (fr : List AV) (M : Mem) (order : List Nat) : Option (List AV × Mem) :=
  let s : Nat → Option Nat := fun i => bif Nat.blt i n0 then some i else (match placeOf i order with | some k => some (n0 + k) | none => none)
  match renL s fr, renH n0 s (M.take n0), pickM M order with
  | some fr', some A, some l => match renM s l with
    | some A' => bif nodupN order && allGe n0 order then some (fr', A ++ A') else none
    | none => none
  | _, _, _ => none
def cramp (n0 : Nat) (fr : List AV) (M : Mem) : Option (List AV × Mem) :=
  crampBy n0 fr M (reach n0 M 10000 (refsL fr ++ refsM (M.take n0)) [])

/-! ### Operations -/
inductive EqS where
  | cells (n : Nat)
  | bool | ptr | slice | func
inductive Prim where
  | mov | pick
  | alloc (z : AV) | box
  | build (z : AV) (parts : List (Nat × Nat))
  | buildSl (z : AV) (esz len : Nat) (parts : List (Nat × Nat))
  | load (k : Option (Nat × Option IntKind))
  | store (n : Nat)
  | padd (n : Nat) | nilchk
  | field (off : Nat) (k : Option (Nat × Option IntKind))
  | idxA (len esz : Nat) | idxS (esz : Nat) | idxV (len esz : Nat) (k : Option (Nat × Option IntKind)) | idxStr
  | bin (op : BinOp) | eqv (neg : Bool) (s : EqS)
  | un (op : UnOp)
  | conv (k : IntKind) | convId | s2b | b2s | s2ap (n : Nat)
  | mkfn (f : FuncId) (nf : Nat)
  | mksl (z : AV) (esz bytes : Nat)
  | slA (n esz : Nat) (lo hi : Bool) | slS (esz : Nat) (lo hi : Bool) | slStr (lo hi : Bool)
  | extr (i : Nat)
  | callf (f : FuncId) | callv | add64 | sub64
  | i2f | f2i (k : IntKind) | fext (e : Nat) | mark
  | mknz | slS3 (esz : Nat)
  | lenC (n : Nat) | len (str : Bool) | append (esz bytes : Nat) | copy (esz : Nat) | min | max

structure Foot where
  reads : List Nat
  writes : List Nat
  eff : Bool
  /-- It makes one block that names no other. -/
  fresh : Bool

/-- What the functions do: on the blocks that the arguments reach, by numbers of their own; new blocks behind. -/
abbrev Orc := FuncId → List AV → Mem → Option (AV × Mem)

def undefA : AV := .tup []
def inR (n : Int) (len : Nat) : Option Nat :=
  match n with
  | .ofNat m => bif Nat.blt m len then some m else none
  | .negSucc _ => none
def inB (n : Int) (len : Nat) : Option Nat :=
  match n with
  | .ofNat m => bif Nat.ble m len then some m else none
  | .negSucc _ => none
def quiet (v : AV) (M : Mem) : Option (AV × Mem × Foot) := some (v, M, ⟨[], [], false, false⟩)
def made (v : AV) (M : Mem) : Option (AV × Mem × Foot) := some (v, M, ⟨[], [], true, false⟩)
def noneOf (l : List Nat) : Bool := match l with
  | [] => true
  | _ => false
def newB (v : AV) (M : Mem) (c : AV) (k : BK) : Option (AV × Mem × Foot) := some (v, M ++ [⟨c, k, false⟩], ⟨[], [], true, noneOf c.refs⟩)
def shiftA (op : BinOp) (k : IntKind) (x y : Int) : Option AV :=
  match y with
  | .negSucc _ => none
  | .ofNat m => match op with
    | .shl => some (.int k (k.wrap (x * 2 ^ (Nat.min m k.bits))))
    | .shr => some (.int k (x.fdiv (2 ^ (Nat.min m k.bits))))
    | _ => none
def bitsA (op : BinOp) (k : IntKind) (x y : Int) : Option AV :=
  match op with
  | .and => some (.int k (k.wrap (BitVec.ofInt k.bits x &&& BitVec.ofInt k.bits y).toNat))
  | .or => some (.int k (k.wrap (BitVec.ofInt k.bits x ||| BitVec.ofInt k.bits y).toNat))
  | .xor => some (.int k (k.wrap (BitVec.ofInt k.bits x ^^^ BitVec.ofInt k.bits y).toNat))
  | .andNot => some (.int k (k.wrap (BitVec.ofInt k.bits x &&& ~~~(BitVec.ofInt k.bits y)).toNat))
  | _ => none
def intBin (op : BinOp) (k : IntKind) (x y : Int) : Option AV :=
  match op with
  | .add => some (.int k (k.wrap (x + y)))
  | .sub => some (.int k (k.wrap (x - y)))
  | .mul => some (.int k (k.wrap (x * y)))
  | .quo => if y = 0 then none else some (.int k (k.wrap (x.tdiv y)))
  | .rem => if y = 0 then none else some (.int k (x.tmod y))
  | .eql => some (.bool (x == y))
  | .neq => some (.bool (x != y))
  | .lss => some (.bool (decide (x < y)))
  | .leq => some (.bool (decide (x ≤ y)))
  | .gtr => some (.bool (decide (x > y)))
  | .geq => some (.bool (decide (x ≥ y)))
  | op => bitsA op k x y
def isShift : BinOp → Bool
  | .shl | .shr => true
  | _ => false
def fltO : Option Nat → Option AV
  | some r => some (.flt r)
  | none => none
def fltBin (op : BinOp) (x y : Nat) : Option AV :=
  match op with
  | .add => fltO (Ieee.double.add x y)
  | .sub => fltO (Ieee.double.sub x y)
  | .mul => fltO (Ieee.double.mul x y)
  | .quo => fltO (Ieee.double.div x y)
  | .eql => some (.bool (Ieee.double.order x y == some .eq))
  | .neq => some (.bool (Ieee.double.order x y != some .eq))
  | .lss => some (.bool (Ieee.double.order x y == some .lt))
  | .leq => some (.bool (Ieee.double.order x y == some .lt || Ieee.double.order x y == some .eq))
  | .gtr => some (.bool (Ieee.double.order x y == some .gt))
  | .geq => some (.bool (Ieee.double.order x y == some .gt || Ieee.double.order x y == some .eq))
  | _ => none
def binA (op : BinOp) : List AV → Option AV
  | [.int k x, .int k' y] => bif isShift op then shiftA op k x y else (if k = k' then intBin op k x y else none)
  | [.str s, .str t] => match op with
    | .add => bif Nat.ble (s.length + t.length) 9223372036854775807 then some (.str (s ++ t)) else none
    | .eql => some (.bool (s == t))
    | .neq => some (.bool (!(s == t)))
    | _ => none
  | [.flt x, .flt y] => fltBin op x y
  | _ => none
def eqA (s : EqS) : List AV → Option Bool
  | [.nums k l, .nums k' l'] => match s with
    | .cells n => if k = k' then (bif Nat.beq l.length n && Nat.beq l'.length n then some (l == l') else none) else none
    | _ => none
  | [.bool a, .bool b] => match s with | .bool => some (a == b) | _ => none
  | [.nilp, .nilp] => match s with | .ptr => some true | _ => none
  | [.nilp, .ptr _ _] => match s with | .ptr => some false | _ => none
  | [.ptr _ _, .nilp] => match s with | .ptr => some false | _ => none
  | [.nilsl, .nilsl] => match s with | .slice => some true | _ => none
  | [.nilsl, .sl ..] => match s with | .slice => some false | _ => none
  | [.sl .., .nilsl] => match s with | .slice => some false | _ => none
  | [.nilfn, .nilfn] => match s with | .func => some true | _ => none
  | [.nilfn, .fn ..] => match s with | .func => some false | _ => none
  | [.fn .., .nilfn] => match s with | .func => some false | _ => none
  | _ => none
def unA (op : UnOp) : List AV → Option AV
  | [.int k n] => match op with
    | .neg => some (.int k (k.wrap (0 - n)))
    | .xor => bitsA .xor k (if k.signed then -1 else k.max) n
    | _ => none
  | [.bool b] => match op with
    | .not => some (.bool (!b))
    | _ => none
  | [.flt b] => match op with
    | .neg => some (.flt (Op.negFloat .f64 b))
    | _ => none
  | _ => none
def fillA (z : AV) : List (Nat × Nat) → List AV → Option AV
  | [], [] => some z
  | (o, n) :: ps, v :: vs => bif Nat.beq v.csize n && v.plain then (match z.putR o v with | some z' => fillA z' ps vs | none => none) else none
  | _, _ => none
def liveB (M : Mem) (i : Nat) : Option Blk :=
  match M[i]? with
  | some b => match b.kind with
    | .dead => none
    | _ => some b
  | none => none
def ownB (M : Mem) (i : Nat) : Option Blk :=
  match M[i]? with
  | some b => match b.kind with
    | .dead | .ro => none
    | _ => some b
  | none => none
/-- The cells of a slice, of a string's bytes: the first n. -/
def srcA (esz n : Nat) (M : Mem) : AV → Option (AV × List Nat)
  | .sl i off _ len e _ => bif Nat.beq e esz && Nat.ble n len then
      (match liveB M i with
      | some b => match b.cells.sub off (n * esz) none with
        | some c => some (c, [i])
        | none => none
      | none => none) else none
  | .nilsl => bif Nat.beq n 0 then some (.agg [], []) else none
  | .str s => bif Nat.beq esz 1 && Nat.ble n s.length then some (.nums .u8 ((s.take n).map fun b => (b.toNat : Int)), []) else none
  | _ => none
def lenA : AV → Option Nat
  | .sl _ _ _ len _ _ => some len
  | .nilsl => some 0
  | .str s => some s.length
  | _ => none
/-- A bound of what grows. -/
def roomA (n esz bytes : Nat) : Bool := Nat.ble (n * (bytes + esz)) 68719476736
def joinD (d c : AV) : Option AV := match c, d with
  | .agg [], d => some d
  | c, .agg [] => some c
  | c, d => d.join c
/-- What is added goes into room that is there. -/
def inplA (esz n i off base len : Nat) (lim : Option Nat) (M : Mem) (c : AV) : Option (AV × Mem × Foot) :=
  bif Nat.beq n 0 then made (.sl i off base len esz lim) M
  else match ownB M i with
  | some b => bif Nat.ble (off + (len + n) * esz) (lim.getD b.cells.csize) then
      (match b.cells.putR (off + len * esz) c with
      | some c' => some (.sl i off base (len + n) esz lim, M.set i ⟨c', b.kind, true⟩, ⟨[], [i], true, false⟩)
      | none => none)
    else none
  | none => none
def appendA (esz bytes : Nat) (M : Mem) (d x : AV) : Option (AV × Mem × Foot) :=
  match lenA x with
  | none => none
  | some n => match srcA esz n M x with
    | none => none
    | some (c, _) =>
      match d with
      | .nilsl =>
        bif Nat.beq n 0 then made .nilsl M
        else bif roomA n esz bytes then some (.sl M.length 0 0 n esz none, M ++ [⟨c, .grow, false⟩], ⟨[], [], true, false⟩) else none
      | .sl i off base len e lim =>
        bif Nat.beq e esz && roomA (len + n) esz bytes then
          match liveB M i, lim with
          | some b, none =>
            (match b.kind with
            | .grow =>
              bif Nat.beq off 0 && Nat.beq (len * esz) b.cells.csize && (b.cells.isAgg && c.plain) then
                (match joinD b.cells c with
                | some c' => some (.sl M.length 0 base (len + n) esz none, M.set i ⟨.junk, .dead, true⟩ ++ [⟨c', .grow, false⟩], ⟨[], [i], true, false⟩)
                | none => none)
              else inplA esz n i off base len none M c
            | .own =>
              bif Nat.beq (off + len * esz) b.cells.csize then
                bif Nat.beq n 0 then made (.sl i off base len e lim) M
                else
                  (match b.cells.sub off (len * esz) none with
                  | some c0 => match joinD c0 c with
                    | some c' => some (.sl M.length 0 0 (len + n) esz none, M ++ [⟨c', .grow, false⟩], ⟨[i], [], true, false⟩)
                    | none => none
                  | none => none)
              else inplA esz n i off base len none M c
            | _ => none)
          | some b, some l =>
            bif Nat.beq (off + len * esz) l then
              bif Nat.beq n 0 then made (.sl i off base len e lim) M
              else
                (match b.cells.sub off (len * esz) none with
                | some c0 => match joinD c0 c with
                  | some c' => some (.sl M.length 0 0 (len + n) esz none, M ++ [⟨c', .grow, false⟩], ⟨[i], [], true, false⟩)
                  | none => none
                | none => none)
            else inplA esz n i off base len (some l) M c
          | none, _ => none
        else none
      | _ => none
def copyA (esz : Nat) (M : Mem) (d x : AV) : Option (AV × Mem × Foot) :=
  match lenA x, d with
  | some m, .sl i off _ len e _ =>
    let n := Nat.min m len
    (bif Nat.beq n 0 then made (.int .i64 0) M else bif Nat.beq e esz then
      match srcA esz n M x, ownB M i with
      | some (c, _), some b => match b.cells.putR off c with
        | some c' => some (.int .i64 n, M.set i ⟨c', b.kind, true⟩, ⟨[], [i], true, false⟩)
        | none => none
      | _, _ => none
    else none)
  | some _, .nilsl => made (.int .i64 0) M
  | _, _ => none
def minA : List AV → Option AV
  | [] => none
  | .int k x :: r => go k x r
  | _ => none
where go (k : IntKind) (x : Int) : List AV → Option AV
  | [] => some (.int k x)
  | .int _ y :: r => go k (if y < x then y else x) r
  | _ => none
def maxA : List AV → Option AV
  | [] => none
  | .int k x :: r => go k x r
  | _ => none
where go (k : IntKind) (x : Int) : List AV → Option AV
  | [] => some (.int k x)
  | .int _ y :: r => go k (if y > x then y else x) r
  | _ => none
/-- The blocks of M that the callee had, as it left them. -/
def backM (M : Mem) (is : List Nat) (l : List Blk) : Option Mem :=
  match is, l with
  | [], _ => some M
  | i :: is, b :: l => bif b.dirty then backM (M.set i b) is l else backM M is l
  | _ :: _, [] => none
def dirtyOf : List Nat → List Blk → List Nat
  | i :: is, b :: l => bif b.dirty then i :: dirtyOf is l else dirtyOf is l
  | _, _ => []
def cleanM : List Blk → List Blk
  | [] => []
  | b :: l => { b with dirty := false } :: cleanM l
def BK.isDead : BK → Bool
  | .dead => true
  | _ => false
def BK.isRo : BK → Bool
  | .ro => true
  | _ => false
/-- Who was dead is dead; what is new is not one that may only be read. -/
def kindsOK : List Blk → List Blk → Bool
  | [], [] => true
  | [], b :: m => !b.kind.isRo && kindsOK [] m
  | a :: l, b :: m => (!a.kind.isDead || b.kind.isDead) && kindsOK l m
  | _ :: _, [] => false
/-- A call, on the blocks is. -/
def callOn (C : Orc) (f : FuncId) (args : List AV) (M : Mem) (is : List Nat) : Option (AV × Mem × Foot) :=
  match renL (fun i => placeOf i is) args, pickM M is with
  | some a', some l => match renM (fun i => placeOf i is) (cleanM l) with
    | some l' => match C f a' l' with
      | some (v, m) =>
        let n := M.length
        let d := is.length
        let s : Nat → Option Nat := fun k => bif Nat.blt k d then is[k]? else some (n + (k - d))
        (match v.ren s, renM s m with
        | some v', some m' => match backM M is m' with
          | some M' => bif nodupN is && kindsOK l m' then some (v', M' ++ m'.drop d, ⟨is, dirtyOf is m', true, false⟩) else none
          | none => none
        | _, _ => none)
      | none => none
    | none => none
  | _, _ => none
def callA (C : Orc) (f : FuncId) (args : List AV) (M : Mem) : Option (AV × Mem × Foot) :=
  match refsL args with
  | [] => match C f args [] with
    | some (v, []) => match v.refs with
      | [] => quiet v M
      | _ => none
    | _ => callOn C f args M []
  | rs => callOn C f args M (reach 0 M 10000 rs [])
def boundsA (lo hi : Bool) (d : Nat) (vs : List AV) : Option (Nat × Nat) :=
  match lo, hi, vs with
    | false, false, [] => some (0, d)
    | true, false, [.int _ a] => match inB a d with
      | some l => some (l, d)
      | none => none
    | false, true, [.int _ b] => match inB b d with
      | some h => some (0, h)
      | none => none
    | true, true, [.int _ a, .int _ b] => match inB b d with
      | some h => match inB a h with
        | some l => some (l, h)
        | none => none
      | none => none
    | _, _, _ => none

def psem (C : Orc) (p : Prim) (vs : List AV) (M : Mem) : Option (AV × Mem × Foot) :=
  match p with
  | .mov => (match vs with
    | [v] => quiet v M
    | _ => none)
  | .pick => (match vs with
    | [.bool c, a, b] => quiet (bif c then a else b) M
    | _ => none)
  | .alloc z => (match vs with
    | [] => match z.block with
      | some c => newB (.ptr M.length 0) M c .own
      | none => none
    | _ => none)
  | .box => (match vs with
    | [v] => match v.block with
      | some c => newB (.ptr M.length 0) M c .own
      | none => none
    | _ => none)
  | .build z ps => match fillA z ps vs with
    | some v => quiet v M
    | none => none
  | .buildSl z esz len ps => match fillA z ps vs with
    | some c => newB (.sl M.length 0 0 len esz none) M c .own
    | none => none
  | .load k => (match vs with
    | [.ptr i off] => match liveB M i with
      | some b => match b.cells.part off k with
        | some v => some (v, M, ⟨[i], [], false, false⟩)
        | none => none
      | none => none
    | _ => none)
  | .store n => (match vs with
    | [.ptr i off, v] => match ownB M i with
      | some b => bif Nat.beq v.csize n && v.plain then
          (match b.cells.putR off v with
          | some c => some (undefA, M.set i ⟨c, b.kind, true⟩, ⟨[], [i], true, false⟩)
          | none => none)
        else none
      | none => none
    | _ => none)
  | .padd n => (match vs with
    | [.ptr i off] => quiet (.ptr i (off + n)) M
    | _ => none)
  | .nilchk => (match vs with
    | [.ptr i off] => quiet (.ptr i off) M
    | [.fn f a c] => quiet (.fn f a c) M
    | _ => none)
  | .field off k => (match vs with
    | [c] => bif c.isAgg then (match c.part off k with
      | some v => quiet v M
      | none => none) else none
    | _ => none)
  | .idxA len esz => (match vs with
    | [.ptr i off, .int _ n] => match inR n len with
      | some m => quiet (.ptr i (off + m * esz)) M
      | none => none
    | _ => none)
  | .idxS esz => (match vs with
    | [.sl i off _ len e _, .int _ n] => bif Nat.beq e esz then (match inR n len with
      | some m => quiet (.ptr i (off + m * esz)) M
      | none => none) else none
    | _ => none)
  | .idxV len esz k => (match vs with
    | [c, .int _ n] => bif c.isAgg then (match inR n len with
      | some m => match c.part (m * esz) k with
        | some v => quiet v M
        | none => none
      | none => none) else none
    | _ => none)
  | .idxStr => (match vs with
    | [.str s, .int _ n] => match inR n s.length with
      | some m => match s[m]? with
        | some b => quiet (.int .u8 b.toNat) M
        | none => none
      | none => none
    | _ => none)
  | .bin op => match binA op vs with
    | some v => quiet v M
    | none => none
  | .eqv neg s => match eqA s vs with
    | some b => quiet (.bool (bif neg then !b else b)) M
    | none => none
  | .un op => match unA op vs with
    | some v => quiet v M
    | none => none
  | .conv k => (match vs with
    | [.int _ n] => quiet (.int k (k.wrap n)) M
    | _ => none)
  | .convId => (match vs with
    | [.str s] => quiet (.str s) M
    | _ => none)
  | .s2b => (match vs with
    | [.str s] => newB (.sl M.length 0 0 s.length 1 none) M (.nums .u8 (s.map fun b => (b.toNat : Int))) .grow
    | _ => none)
  | .b2s => (match vs with
    | [.nilsl] => quiet (.str []) M
    | [.sl i off _ len e _] => bif Nat.beq e 1 then
        (match liveB M i with
        | some b => match b.cells.sub off len (some .u8) with
          | some (.nums .u8 l) => some (.str (l.map fun n => UInt8.ofNat n.toNat), M, ⟨[i], [], false, false⟩)
          | _ => none
        | none => none) else none
    | _ => none)
  | .s2ap n => (match vs with
    | [.sl i off _ len _ _] => bif Nat.ble n len && Nat.blt 0 n then quiet (.ptr i off) M else none
    | _ => none)
  | .mkfn f nf => quiet (.fn f (vs.take nf) (vs.drop nf)) M
  | .mksl z esz bytes => (match vs with
    | [.int _ l, .int _ c] => match l, c with
      | .ofNat l, .ofNat c => bif Nat.ble l c && Nat.ble (c * bytes) 140737488355328 && Nat.ble c 9223372036854775807 then
          (match z.rep c with
          | some cs => newB (.sl M.length 0 0 l esz none) M cs .own
          | none => none) else none
      | _, _ => none
    | _ => none)
  | .slA n esz lo hi => (match vs with
    | .ptr i off :: bs => match boundsA lo hi n bs with
      | some (l, h) => quiet (.sl i (off + l * esz) off (h - l) esz (some (off + n * esz))) M
      | none => none
    | _ => none)
  | .slS esz lo hi => (match vs with
    | .sl i off base len e lim :: bs => bif Nat.beq e esz then (match boundsA lo hi len bs with
      | some (l, h) => quiet (.sl i (off + l * esz) (bif Nat.beq l 0 then base else off) (h - l) esz lim) M
      | none => none) else none
    | .nilsl :: bs => match boundsA lo hi 0 bs with
      | some _ => quiet .nilsl M
      | none => none
    | _ => none)
  | .mknz => (match vs with
    | [.int .i64 n] => match inB n 68719476736 with
      | some n => some (.sl M.length 0 0 n 1 none, M ++ [⟨.flat (List.replicate n .junk), .grow, false⟩], ⟨[], [], true, true⟩)
      | none => none
    | _ => none)
  | .slS3 esz => (match vs with
    | [.sl i off base len e lim, .int _ h, .int _ m] => bif Nat.beq e esz && Nat.beq base off then (match inB m len with
      | some m => match inB h m with
        | some h => quiet (.sl i off base h esz (some (off + m * esz))) M
        | none => none
      | none => none) else none
    | _ => none)
  | .slStr lo hi => (match vs with
    | .str s :: bs => match boundsA lo hi s.length bs with
      | some (l, h) => quiet (.str ((s.take h).drop l)) M
      | none => none
    | _ => none)
  | .extr i => (match vs with
    | [.tup l] => match l[i]? with
      | some v => quiet v M
      | none => none
    | _ => none)
  | .callf f => callA C f vs M
  | .callv => (match vs with
    | .fn f a c :: vs => callA C f (a ++ vs ++ c) M
    | _ => none)
  | .add64 => (match vs with
    | [.int _ x, .int _ y, .int _ c] => bif Nat.ble c.toNat 1 then
        quiet (.tup [.int .u64 (((x.toNat + y.toNat + c.toNat) % 18446744073709551616 : Nat) : Int), .int .u64 (((x.toNat + y.toNat + c.toNat) / 18446744073709551616 : Nat) : Int)]) M else none
    | _ => none)
  | .sub64 => (match vs with
    | [.int _ x, .int _ y, .int _ c] => bif Nat.ble c.toNat 1 then
        quiet (.tup [.int .u64 (((x.toNat + 18446744073709551616 - y.toNat - c.toNat) % 18446744073709551616 : Nat) : Int), .int .u64 ((if x.toNat < y.toNat + c.toNat then 1 else 0 : Nat) : Int)]) M else none
    | _ => none)
  | .i2f => (match vs with
    | [.int _ n] => quiet (.flt (FloatKind.f64.nearest n)) M
    | _ => none)
  | .f2i k => (match vs with
    | [.flt b] => match (FloatKind.f64.decode b).toInt .zero with
      | some n => if k.min ≤ n ∧ n ≤ k.max then quiet (.int k n) M else none
      | none => none
    | _ => none)
  | .fext e => (match e, vs with
    | 0, [.flt b] => match FloatKind.f64.format.sqrt b with
      | some r => quiet (.flt r) M
      | none => none
    | 1, [.flt b] => quiet (.int .u64 b) M
    | 2, [.int .u64 n] => quiet (.flt n.toNat) M
    | _, _ => none)
  | .mark => (match vs with
    | [.sl i off base len esz lim] => match ownB M i with
      | some b => bif b.cells.isAgg then some (.sl i off base len esz lim, M.set i ⟨b.cells, b.kind, true⟩, ⟨[], [i], true, false⟩) else none
      | none => none
    | _ => none)
  | .lenC n => (match vs with
    | [_] => quiet (.int .i64 n) M
    | _ => none)
  | .len true => (match vs with
    | [.str s] => quiet (.int .i64 s.length) M
    | _ => none)
  | .len false => (match vs with
    | [.sl _ _ _ n _ _] => quiet (.int .i64 n) M
    | [.nilsl] => quiet (.int .i64 0) M
    | _ => none)
  | .append esz bytes => (match vs with
    | [d, x] => appendA esz bytes M d x
    | _ => none)
  | .copy esz => (match vs with
    | [d, x] => copyA esz M d x
    | _ => none)
  | .min => match minA vs with
    | some v => quiet v M
    | none => none
  | .max => match maxA vs with
    | some v => quiet v M
    | none => none

/-! ### Code -/
inductive AOpd where
  | tmp (t : Nat)
  | val (v : AV)
structure AOper where
  dst : Option Nat
  prim : Prim
  args : List AOpd
  guard : Option (Nat × Bool)
  after : List Nat
inductive ACode where
  | skip
  | ops (l : List AOper) (drawn : Bool)
  | seq (a b : ACode)
  | cond (c : AOpd) (t e : ACode)
  | block (id : Nat) (b : ACode)
  | loop (id : Nat) (dead : Option (List Nat)) (b : ACode)
  | exit (id : Nat)
  | ret
inductive Ex where
  | norm | exit (id : Nat) | ret
structure St where
  fr : List AV
  mem : Mem

def evalA (fr : List AV) : AOpd → AV
  | .tmp t => fr.getD t undefA
  | .val v => v
def putA (fr : List AV) (d : Option Nat) (v : AV) : List AV :=
  match d with
  | some d => fr.set d v
  | none => fr
/-- Whether the operation is carried out; none: that is not known. -/
def wantedA (fr : List AV) : Option (Nat × Bool) → Option Bool
  | none => some true
  | some (t, want) => match fr[t]? with
    | some (.bool b) => some (b == want)
    | some (.tup []) => some false
    | _ => none
def stepA (C : Orc) (o : AOper) (s : St) : Option (St × Foot) :=
  match wantedA s.fr o.guard with
  | some true => match psem C o.prim (o.args.map (evalA s.fr)) s.mem with
    | some (v, m, ft) => some (⟨putA s.fr o.dst v, m⟩, ft)
    | none => none
  | some false => some (⟨putA s.fr o.dst undefA, s.mem⟩, ⟨[], [], false, false⟩)
  | none => none
def opsA (C : Orc) : List AOper → St → Option (St × List (Foot × Nat))
  | [], s => some (s, [])
  | o :: l, s => match stepA C o s with
    | some (s', ft) => match opsA C l s' with
      | some (s'', fs) => some (s'', (ft, s.mem.length) :: fs)
      | none => none
    | none => none
/-! Where the order is drawn, a new block has a place of its own from the start on. -/
def Prim.isNew : Prim → Bool
  | .alloc _ => true
  | .box => true
  | .buildSl _ _ _ _ => true
  | .s2b => true
  | .mksl _ _ _ => true
  | .mknz => true
  | _ => false
def newN : List AOper → Nat
  | [] => 0
  | o :: l => bif o.prim.isNew then newN l + 1 else newN l
def reV (r : Nat) : AV → AV
  | .ptr _ off => .ptr r off
  | .sl _ off base len e lim => .sl r off base len e lim
  | v => v
def deadB : Blk := ⟨.junk, .dead, true⟩
def stepD (C : Orc) (o : AOper) (r : Nat) (s : St) : Option (St × Foot) :=
  match wantedA s.fr o.guard with
  | some true => match psem C o.prim (o.args.map (evalA s.fr)) s.mem with
    | some (v, m, ft) => bif ft.fresh then (bif o.prim.isNew then (match m[s.mem.length]? with
        | some b => some (⟨putA s.fr o.dst (reV r v), s.mem.set r ⟨b.cells, b.kind, true⟩⟩, ⟨[], [r], true, true⟩)
        | none => none) else none) else some (⟨putA s.fr o.dst v, m⟩, ft)
    | none => none
  | some false => some (⟨putA s.fr o.dst undefA, s.mem⟩, ⟨[], [], false, false⟩)
  | none => none
def opsD (C : Orc) : List AOper → Nat → St → Option (St × List (Foot × Nat))
  | [], _, s => some (s, [])
  | o :: l, r, s => match stepD C o r s with
    | some (s', ft) => match opsD C l (bif o.prim.isNew then r + 1 else r) s' with
      | some (s'', fs) => some (s'', (ft, s.mem.length) :: fs)
      | none => none
    | none => none
def padM (M : Mem) : Nat → Mem
  | 0 => M
  | n + 1 => padM (M ++ [deadB]) n
/-! That the order that is drawn does not matter. -/
def insAll : List Nat → List Nat → List Nat
  | [], acc => acc
  | i :: l, acc => insAll l (bif memN i acc then acc else i :: acc)
/-- The operations that come before each one: the lists of the earlier ones are at hand. -/
def ancs : List AOper → List (List Nat) → List (List Nat)
  | [], acc => acc
  | o :: l, acc => ancs l (acc ++ [o.after.foldl (fun s e => insAll (e :: acc.getD e []) s) []])
def dstsA : List AOper → List (Option Nat)
  | [] => []
  | o :: l => o.dst :: dstsA l
def tmpsOf : List AOpd → List Nat
  | [] => []
  | .tmp t :: l => t :: tmpsOf l
  | .val _ :: l => tmpsOf l
def AOper.uses (o : AOper) : List Nat := (match o.guard with | some (t, _) => [t] | none => []) ++ tmpsOf o.args
def sepN : List Nat → List Nat → Bool
  | [], _ => true
  | i :: l, m => !memN i m && sepN l m
/-- Whoever writes slot t is among those that come before i, or comes behind it. -/
def usesOK (i : Nat) (an : List Nat) (anL : List (List Nat)) (t : Nat) : Nat → List (Option Nat) → Bool
  | _, [] => true
  | j, d :: l => (match d with
    | some d => !Nat.beq d t || memN j an || (Nat.blt i j && memN i (anL.getD j []))
    | none => true) && usesOK i an anL t (j + 1) l
def allUses (i : Nat) (an : List Nat) (anL : List (List Nat)) (ds : List (Option Nat)) : List Nat → Bool
  | [] => true
  | t :: l => usesOK i an anL t 0 ds && allUses i an anL ds l
def nodupD : List (Option Nat) → Bool
  | [] => true
  | none :: l => nodupD l
  | some d :: l => go d l && nodupD l
where go (d : Nat) : List (Option Nat) → Bool
  | [] => true
  | some e :: l => !Nat.beq d e && go d l
  | none :: l => go d l
/-- Against every other operation j: two that have an effect stand in an order; one that reads reads what the other does not write. -/
def pairOK (i : Nat) (an : List Nat) (ft : Foot) (anL : List (List Nat)) : Nat → List (Foot × Nat) → Bool
  | _, [] => true
  | j, (ft', n') :: l =>
    (Nat.beq i j || !ft'.eff || (bif Nat.blt j i then memN j an || (!ft.eff && sepN ft.reads ft'.writes && (ft'.fresh || allLt n' ft.reads)) || (ft.fresh && ft'.fresh)
      else (memN i (anL.getD j []) || (!ft.eff && sepN ft.reads ft'.writes) || (ft.fresh && ft'.fresh)) && (!ft'.fresh || (sepN ft.reads ft'.writes && sepN ft.writes ft'.writes)))) && pairOK i an ft anL (j + 1) l
def pairsOK (anL : List (List Nat)) (fs : List (Foot × Nat)) : Nat → List (Foot × Nat) → Bool
  | _, [] => true
  | i, (ft, _) :: l => pairOK i (anL.getD i []) ft anL 0 fs && pairsOK anL fs (i + 1) l
def opsUses (anL : List (List Nat)) (ds : List (Option Nat)) : Nat → List AOper → Bool
  | _, [] => true
  | i, o :: l => allUses i (anL.getD i []) anL ds o.uses && allLt i o.after && opsUses anL ds (i + 1) l
def drawnSlow (l : List AOper) (fs : List (Foot × Nat)) : Bool :=
  let anL := ancs l []
  let ds := dstsA l
  nodupD ds && opsUses anL ds 0 l && pairsOK anL fs 0 fs
/-! The same, by bits. -/
def bitN (j m : Nat) : Bool := Nat.beq (Nat.land (Nat.shiftRight m j) 1) 1
def ancM : List AOper → List Nat → List Nat
  | [], acc => acc
  | o :: l, acc => ancM l (acc ++ [o.after.foldl (fun s e => Nat.lor (Nat.lor (Nat.shiftLeft 1 e) (acc.getD e 0)) s) 0])
def usesM (i an : Nat) (anL : List Nat) (t : Nat) : Nat → List (Option Nat) → Bool
  | _, [] => true
  | j, d :: l => (match d with
    | some d => !Nat.beq d t || bitN j an || (Nat.blt i j && bitN i (anL.getD j 0))
    | none => true) && usesM i an anL t (j + 1) l
def allUsesM (i an : Nat) (anL : List Nat) (ds : List (Option Nat)) : List Nat → Bool
  | [] => true
  | t :: l => usesM i an anL t 0 ds && allUsesM i an anL ds l
def pairM (i an : Nat) (ft : Foot) (anL : List Nat) : Nat → List (Foot × Nat) → Bool
  | _, [] => true
  | j, (ft', n') :: l =>
    (Nat.beq i j || !ft'.eff || (bif Nat.blt j i then bitN j an || (!ft.eff && sepN ft.reads ft'.writes && (ft'.fresh || allLt n' ft.reads)) || (ft.fresh && ft'.fresh)
      else (bitN i (anL.getD j 0) || (!ft.eff && sepN ft.reads ft'.writes) || (ft.fresh && ft'.fresh)) && (!ft'.fresh || (sepN ft.reads ft'.writes && sepN ft.writes ft'.writes)))) && pairM i an ft anL (j + 1) l
def pairsM (anL : List Nat) (fs : List (Foot × Nat)) : Nat → List (Foot × Nat) → Bool
  | _, [] => true
  | i, (ft, _) :: l => pairM i (anL.getD i 0) ft anL 0 fs && pairsM anL fs (i + 1) l
def opsUsesM (anL : List Nat) (ds : List (Option Nat)) : Nat → List AOper → Bool
  | _, [] => true
  | i, o :: l => allUsesM i (anL.getD i 0) anL ds o.uses && allLt i o.after && opsUsesM anL ds (i + 1) l
def drawnOK (l : List AOper) (fs : List (Foot × Nat)) : Bool :=
  let anL := ancM l []
  let ds := dstsA l
  nodupD ds && opsUsesM anL ds 0 l && pairsM anL fs 0 fs
def junkAll : List Nat → List AV → List AV
  | [], fr => fr
  | t :: l, fr => junkAll l (fr.set t .junk)
def scrub (n0 : Nat) (dead : Option (List Nat)) (s : St) : Option St :=
  match dead with
  | none => some s
  | some dead => match cramp n0 (junkAll dead s.fr) s.mem with
    | some (fr, m) => some ⟨fr, m⟩
    | none => none
def iterA (f : St → Option (Ex × St)) (h : St → Option St) : Nat → St → Option (Ex × St)
  | 0, _ => none
  | n + 1, s => match h s with
    | some s' => match f s' with
      | some (.norm, s'') => iterA f h n s''
      | r => r
    | none => none
/-- What is said of a loop: by its number. -/
abbrev LOrc := Nat → St → Option (Ex × St)
def noL : LOrc := fun _ _ => none
def exec (C : Orc) (L : LOrc) (n0 N : Nat) : ACode → St → Option (Ex × St)
  | .skip, s => some (.norm, s)
  | .ops l drawn, s => bif drawn then (match opsD C l s.mem.length ⟨s.fr, padM s.mem (newN l)⟩ with
      | some (s', fs) => bif drawnOK l fs then some (.norm, s') else none
      | none => none) else (match opsA C l s with
      | some (s', _) => some (.norm, s')
      | none => none)
  | .seq a b, s => match exec C L n0 N a s with
    | some (.norm, s') => exec C L n0 N b s'
    | r => r
  | .cond c t e, s => match evalA s.fr c with
    | .bool b => bif b then exec C L n0 N t s else exec C L n0 N e s
    | _ => none
  | .block id b, s => match exec C L n0 N b s with
    | some (.exit i, s') => bif Nat.beq i id then some (.norm, s') else some (.exit i, s')
    | r => r
  | .loop id dead b, s => match L id s with
    | some r => some r
    | none => iterA (exec C L n0 N b) (scrub n0 dead) N s
  | .exit id, s => some (.exit id, s)
  | .ret, s => some (.ret, s)

inductive ARes where
  | tmp (t : Nat)
  | cell (t : Nat) (k : Option (Nat × Option IntKind))
structure AFun where
  code : ACode
  ntmps : Nat
  results : List ARes
def resA (s : St) : ARes → Option AV
  | .tmp t => some (s.fr.getD t undefA)
  | .cell t k => match s.fr.getD t undefA with
    | .ptr i off => match liveB s.mem i with
      | some b => b.cells.part off k
      | none => none
    | _ => none
def resAll (s : St) : List ARes → Option (List AV)
  | [] => some []
  | r :: l => match resA s r, resAll s l with
    | some v, some vs => some (v :: vs)
    | _, _ => none
def oneA : List AV → AV
  | [v] => v
  | l => .tup l
def frame0 (fn : AFun) (args : List AV) : List AV := args ++ List.replicate (fn.ntmps - args.length) undefA
def runF (C : Orc) (L : LOrc) (N : Nat) (fn : AFun) (args : List AV) (M : Mem) : Option (AV × Mem) :=
  match exec C L M.length N fn.code ⟨frame0 fn args, M⟩ with
  | some (.norm, s) | some (.ret, s) => match resAll s fn.results with
    | some vs =>
      (match cramp M.length vs s.mem with
      | some (vs', m) => some (oneA vs', m)
      | none => none)
    | none => none
  | _ => none
end Go.Proofs.Ytnfglcfjjemjmaa
