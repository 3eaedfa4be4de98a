/- A small machine over plain data: values whose addresses are numbers of its own, a memory that is a list of blocks, and what the program's operations do to them. Definitions alone. No condition. -/
import Derived.WalkKit
import Derived.Laws.Rows
import Derived.Laws.StructEq
import Derived.Laws.MakeOwn
import Derived.Laws.BytesString
import Derived.Laws.Externs
import Derived.Shelf.Spec.BitsCarry
import Derived.KernelRfl
namespace Go.Proofs.Ytfdhfhgljhnhlaa
open Go Go.RowKit

/-- A value of the small machine. 'junk' stands for a value of which nothing is known. -/
inductive AV where
  | junk
  | bool (b : Bool)
  | int (k : IntKind) (n : Int)
  | str (s : List UInt8)
  | ptr (i off : Nat)
  | nilp
  | sl (i off base len esz : Nat) (lim : Option Nat)
  | nilsl
  | fn (f : FuncId) (first cap : List AV)
  | nilfn
  | nilif
  | agg (l : List AV)
  | nums (k : IntKind) (l : List Int)
  | tup (l : List AV)
  | at (o : Nat) (c : AV)

inductive BK where
  | dead | ro | own | grow
deriving DecidableEq

structure Blk where
  cells : AV
  kind : BK
  dirty : Bool

abbrev Mem := List Blk

/-- 'at o c': the cells of c, behind o cells of which nothing is known. -/
def AV.cells : AV → List AV
  | .agg l => l
  | .nums k l => l.map (.int k)
  | .at o c => List.replicate o .junk ++ c.cells
  | v => [v]
def AV.csize : AV → Nat
  | .agg l => l.length
  | .nums _ l => l.length
  | .at o c => o + c.csize
  | _ => 1
/-- The value of one cell. -/
def AV.one : AV → Bool
  | .agg _ | .nums _ _ | .tup _ | .junk | .at _ _ => false
  | _ => true
def AV.isAgg : AV → Bool
  | .agg _ | .nums _ _ => true
  | _ => false
/-- What a variable of this value holds. -/
def AV.block : AV → Option AV
  | .agg l => some (.agg l)
  | .nums k l => some (.nums k l)
  | .tup _ | .junk | .at _ _ => none
  | v => some (.agg [v])
def AV.get? : AV → Nat → Option AV
  | .agg l, i => l[i]?
  | .nums k l, i => match l[i]? with
    | some n => some (.int k n)
    | none => none
  | .at o c, i => bif Nat.ble o i then c.get? (i - o) else none
  | _, _ => none
def toInts (k : IntKind) : List AV → Option (List Int)
  | [] => some []
  | .int k' n :: r => if k' = k then (match toInts k r with | some l => some (n :: l) | none => none) else none
  | _ :: _ => none
def AV.sub (c : AV) (off n : Nat) (ck : Option IntKind) : Option AV :=
  match c with
  | .nums k l => if Nat.ble (off + n) l.length then some (.nums k ((l.drop off).take n)) else none
  | .agg l => if Nat.ble (off + n) l.length then
      (match ck with
      | none => some (.agg ((l.drop off).take n))
      | some k => match toInts k ((l.drop off).take n) with
        | some r => some (.nums k r)
        | none => none)
    else none
  | .at o c => bif Nat.ble o off then c.sub (off - o) n ck else none
  | _ => none
/-- A part of the cells, or one of them. -/
def AV.part (c : AV) (off : Nat) : Option (Nat × Option IntKind) → Option AV
  | none => c.get? off
  | some (n, ck) => c.sub off n ck
def allOne : List AV → Bool
  | [] => true
  | v :: r => v.one && allOne r
/-- Values that hold one cell, or several. -/
def AV.plain : AV → Bool
  | .agg l => allOne l
  | .nums _ _ => true
  | v => v.one
def AV.putR (c : AV) (off : Nat) (v : AV) : Option AV :=
  match c, v with
  | .nums k l, .int k' n => if k = k' then (if Nat.blt off l.length then some (.nums k (l.set off n)) else none) else none
  | .nums k l, .nums k' l' => if k = k' then (if Nat.ble (off + l'.length) l.length then some (.nums k (l.take off ++ (l' ++ l.drop (off + l'.length)))) else none) else none
  | .agg l, .nums k' l' => if Nat.ble (off + l'.length) l.length then some (.agg (l.take off ++ (l'.map (.int k') ++ l.drop (off + l'.length)))) else none
  | .agg l, .agg l' => if allOne l' && Nat.ble (off + l'.length) l.length then some (.agg (l.take off ++ (l' ++ l.drop (off + l'.length)))) else none
  | .agg l, v => if v.one && Nat.blt off l.length then some (.agg (l.set off v)) else none
  | _, _ => none
/-- Cells behind cells. -/
def AV.join : AV → AV → Option AV
  | .nums k l, .nums k' l' => if k = k' then some (.nums k (l ++ l')) else none
  | .agg l, .agg l' => some (.agg (l ++ l'))
  | .agg l, .nums k' l' => some (.agg (l ++ l'.map (.int k')))
  | .nums k l, .agg l' => some (.agg (l.map (.int k) ++ l'))
  | _, _ => none
def AV.rep (z : AV) (n : Nat) : Option AV :=
  match z with
  | .nums k l => some (.nums k (List.replicate n l).flatten)
  | .agg l => some (.agg (List.replicate n l).flatten)
  | _ => none

/-! ### Which blocks a value names; the same value under other numbers -/
mutual
def AV.refs : AV → List Nat
  | .ptr i _ => [i]
  | .sl i _ _ _ _ _ => [i]
  | .fn _ a c => refsL a ++ refsL c
  | .agg l => refsL l
  | .tup l => refsL l
  | .at _ c => c.refs
  | _ => []
def refsL : List AV → List Nat
  | [] => []
  | v :: l => v.refs ++ refsL l
end
mutual
def AV.ren (s : Nat → Option Nat) : AV → Option AV
  | .ptr i o => match s i with
    | some j => some (.ptr j o)
    | none => none
  | .sl i o b n e lim => match s i with
    | some j => some (.sl j o b n e lim)
    | none => none
  | .fn f a c => match renL s a, renL s c with
    | some a', some c' => some (.fn f a' c')
    | _, _ => none
  | .agg l => match renL s l with
    | some l' => some (.agg l')
    | none => none
  | .tup l => match renL s l with
    | some l' => some (.tup l')
    | none => none
  | .at o c => match c.ren s with
    | some c' => some (.at o c')
    | none => none
  | .junk => some .junk
  | .bool b => some (.bool b)
  | .int k n => some (.int k n)
  | .str x => some (.str x)
  | .nilp => some .nilp
  | .nilsl => some .nilsl
  | .nilfn => some .nilfn
  | .nilif => some .nilif
  | .nums k l => some (.nums k l)
def renL (s : Nat → Option Nat) : List AV → Option (List AV)
  | [] => some []
  | v :: l => match v.ren s, renL s l with
    | some v', some l' => some (v' :: l')
    | _, _ => none
end
/-- A block under other numbers; a dead one has no cells. -/
def Blk.ren (s : Nat → Option Nat) (b : Blk) : Option Blk :=
  match b.kind with
  | .dead => some ⟨.junk, .dead, b.dirty⟩
  | _ => match b.cells.ren s with
    | some c => some { b with cells := c }
    | none => none
def renM (s : Nat → Option Nat) : List Blk → Option (List Blk)
  | [] => some []
  | b :: l => match b.ren s, renM s l with
    | some b', some l' => some (b' :: l')
    | _, _ => none
def memN (i : Nat) : List Nat → Bool
  | [] => false
  | j :: l => Nat.beq i j || memN i l
/-- The place of i in l. -/
def placeOf (i : Nat) : List Nat → Option Nat
  | [] => none
  | j :: l => bif Nat.beq i j then some 0 else (match placeOf i l with | some k => some (k + 1) | none => none)
def Blk.refs (b : Blk) : List Nat := match b.kind with
  | .dead => []
  | _ => b.cells.refs
/-- The blocks that may be reached, from n0 on, in the order in which they are met. -/
def reach (n0 : Nat) (M : Mem) : Nat → List Nat → List Nat → List Nat
  | 0, _, acc => acc
  | _ + 1, [], acc => acc
  | f + 1, i :: todo, acc =>
    bif Nat.blt i n0 || memN i acc then reach n0 M f todo acc
    else match M[i]? with
      | some b => reach n0 M f (todo ++ b.refs) (acc ++ [i])
      | none => reach n0 M f todo (acc ++ [i])
def pickM (M : Mem) : List Nat → Option (List Blk)
  | [] => some []
  | i :: l => match M[i]?, pickM M l with
    | some b, some r => some (b :: r)
    | _, _ => none
def allLt (n : Nat) : List Nat → Bool
  | [] => true
  | i :: l => Nat.blt i n && allLt n l
/-- The blocks that were there: one that nobody wrote stays as it is. -/
def renH (n0 : Nat) (s : Nat → Option Nat) : List Blk → Option (List Blk)
  | [] => some []
  | b :: l => match (bif b.dirty then b.ren s else bif allLt n0 b.refs then some b else none), renH n0 s l with
    | some b', some l' => some (b' :: l')
    | _, _ => none
/-- Only the first n0 blocks, and those of the others that may still be reached, by new numbers. -/
def refsM : List Blk → List Nat
  | [] => []
  | b :: l => b.refs ++ refsM l
def nodupN : List Nat → Bool
  | [] => true
  | i :: l => !memN i l && nodupN l
def allGe (n : Nat) : List Nat → Bool
  | [] => true
  | i :: l => Nat.ble n i && allGe n l
def crampBy (n0 : Nat) (fr : List AV) (M : Mem) (order : List Nat) : Option (List AV × Mem) :=
  let s : Nat → Option Nat := fun i => bif Nat.blt i n0 then some i else (match placeOf i order with | some k => some (n0 + k) | none => none)
  match renL s fr, renH n0 s (M.take n0), pickM M order with
  | some fr', some A, some l => match renM s l with
    | some A' => bif nodupN order && allGe n0 order then some (fr', A ++ A') else none
    | none => none
  | _, _, _ => none
def cramp (n0 : Nat) (fr : List AV) (M : Mem) : Option (List AV × Mem) :=
  crampBy n0 fr M (reach n0 M 10000 (refsL fr ++ refsM (M.take n0)) [])

/-! ### Operations -/
inductive EqS where
  | cells (n : Nat)
  | bool | ptr | slice | func
inductive Prim where
  | mov | pick
  | alloc (z : AV) | box
  | build (z : AV) (parts : List (Nat × Nat))
  | buildSl (z : AV) (esz len : Nat) (parts : List (Nat × Nat))
  | load (k : Option (Nat × Option IntKind))
  | store (n : Nat)
  | padd (n : Nat) | nilchk
  | field (off : Nat) (k : Option (Nat × Option IntKind))
  | idxA (len esz : Nat) | idxS (esz : Nat) | idxV (len esz : Nat) (k : Option (Nat × Option IntKind)) | idxStr
  | bin (op : BinOp) | eqv (neg : Bool) (s : EqS)
  | un (op : UnOp)
  | conv (k : IntKind) | convId | s2b | b2s | s2ap (n : Nat)
  | mkfn (f : FuncId) (nf : Nat)
  | mksl (z : AV) (esz bytes : Nat)
  | slA (n esz : Nat) (lo hi : Bool) | slS (esz : Nat) (lo hi : Bool) | slStr (lo hi : Bool)
  | extr (i : Nat)
  | callf (f : FuncId) | callv | add64 | sub64
  | lenC (n : Nat) | len (str : Bool) | append (esz bytes : Nat) | copy (esz : Nat) | min | max

structure Foot where
  reads : List Nat
  writes : List Nat
  eff : Bool
  /-- It makes one block that names no other. -/
  fresh : Bool

/-- What the functions do: on the blocks that the arguments reach, by numbers of their own; new blocks behind. -/
abbrev Orc := FuncId → List AV → Mem → Option (AV × Mem)

def undefA : AV := .tup []
def inR (n : Int) (len : Nat) : Option Nat :=
  match n with
  | .ofNat m => bif Nat.blt m len then some m else none
  | .negSucc _ => none
def inB (n : Int) (len : Nat) : Option Nat :=
  match n with
  | .ofNat m => bif Nat.ble m len then some m else none
  | .negSucc _ => none
def quiet (v : AV) (M : Mem) : Option (AV × Mem × Foot) := some (v, M, ⟨[], [], false, false⟩)
def made (v : AV) (M : Mem) : Option (AV × Mem × Foot) := some (v, M, ⟨[], [], true, false⟩)
def noneOf (l : List Nat) : Bool := match l with
  | [] => true
  | _ => false
def newB (v : AV) (M : Mem) (c : AV) (k : BK) : Option (AV × Mem × Foot) := some (v, M ++ [⟨c, k, false⟩], ⟨[], [], true, noneOf c.refs⟩)
def shiftA (op : BinOp) (k : IntKind) (x y : Int) : Option AV :=
  match y with
  | .negSucc _ => none
  | .ofNat m => match op with
    | .shl => some (.int k (k.wrap (x * 2 ^ (Nat.min m k.bits))))
    | .shr => some (.int k (x.fdiv (2 ^ (Nat.min m k.bits))))
    | _ => none
def bitsA (op : BinOp) (k : IntKind) (x y : Int) : Option AV :=
  match op with
  | .and => some (.int k (k.wrap (BitVec.ofInt k.bits x &&& BitVec.ofInt k.bits y).toNat))
  | .or => some (.int k (k.wrap (BitVec.ofInt k.bits x ||| BitVec.ofInt k.bits y).toNat))
  | .xor => some (.int k (k.wrap (BitVec.ofInt k.bits x ^^^ BitVec.ofInt k.bits y).toNat))
  | .andNot => some (.int k (k.wrap (BitVec.ofInt k.bits x &&& ~~~(BitVec.ofInt k.bits y)).toNat))
  | _ => none
def intBin (op : BinOp) (k : IntKind) (x y : Int) : Option AV :=
  match op with
  | .add => some (.int k (k.wrap (x + y)))
  | .sub => some (.int k (k.wrap (x - y)))
  | .mul => some (.int k (k.wrap (x * y)))
  | .quo => if y = 0 then none else some (.int k (k.wrap (x.tdiv y)))
  | .rem => if y = 0 then none else some (.int k (x.tmod y))
  | .eql => some (.bool (x == y))
  | .neq => some (.bool (x != y))
  | .lss => some (.bool (decide (x < y)))
  | .leq => some (.bool (decide (x ≤ y)))
  | .gtr => some (.bool (decide (x > y)))
  | .geq => some (.bool (decide (x ≥ y)))
  | op => bitsA op k x y
def isShift : BinOp → Bool
  | .shl | .shr => true
  | _ => false
def binA (op : BinOp) : List AV → Option AV
  | [.int k x, .int k' y] => bif isShift op then shiftA op k x y else (if k = k' then intBin op k x y else none)
  | [.str s, .str t] => match op with
    | .add => bif Nat.ble (s.length + t.length) 9223372036854775807 then some (.str (s ++ t)) else none
    | .eql => some (.bool (s == t))
    | .neq => some (.bool (!(s == t)))
    | _ => none
  | _ => none
def eqA (s : EqS) : List AV → Option Bool
  | [.nums k l, .nums k' l'] => match s with
    | .cells n => if k = k' then (bif Nat.beq l.length n && Nat.beq l'.length n then some (l == l') else none) else none
    | _ => none
  | [.bool a, .bool b] => match s with | .bool => some (a == b) | _ => none
  | [.nilp, .nilp] => match s with | .ptr => some true | _ => none
  | [.nilp, .ptr _ _] => match s with | .ptr => some false | _ => none
  | [.ptr _ _, .nilp] => match s with | .ptr => some false | _ => none
  | [.nilsl, .nilsl] => match s with | .slice => some true | _ => none
  | [.nilsl, .sl ..] => match s with | .slice => some false | _ => none
  | [.sl .., .nilsl] => match s with | .slice => some false | _ => none
  | [.nilfn, .nilfn] => match s with | .func => some true | _ => none
  | [.nilfn, .fn ..] => match s with | .func => some false | _ => none
  | [.fn .., .nilfn] => match s with | .func => some false | _ => none
  | _ => none
def unA (op : UnOp) : List AV → Option AV
  | [.int k n] => match op with
    | .neg => some (.int k (k.wrap (0 - n)))
    | .xor => bitsA .xor k (if k.signed then -1 else k.max) n
    | _ => none
  | [.bool b] => match op with
    | .not => some (.bool (!b))
    | _ => none
  | _ => none
def fillA (z : AV) : List (Nat × Nat) → List AV → Option AV
  | [], [] => some z
  | (o, n) :: ps, v :: vs => bif Nat.beq v.csize n && v.plain then (match z.putR o v with | some z' => fillA z' ps vs | none => none) else none
  | _, _ => none
def liveB (M : Mem) (i : Nat) : Option Blk :=
  match M[i]? with
  | some b => match b.kind with
    | .dead => none
    | _ => some b
  | none => none
def ownB (M : Mem) (i : Nat) : Option Blk :=
  match M[i]? with
  | some b => match b.kind with
    | .dead | .ro => none
    | _ => some b
  | none => none
/-- The cells of a slice, of a string's bytes: the first n. -/
def srcA (esz n : Nat) (M : Mem) : AV → Option (AV × List Nat)
  | .sl i off _ len e _ => bif Nat.beq e esz && Nat.ble n len then
      (match liveB M i with
      | some b => match b.cells.sub off (n * esz) none with
        | some c => some (c, [i])
        | none => none
      | none => none) else none
  | .nilsl => bif Nat.beq n 0 then some (.agg [], []) else none
  | .str s => bif Nat.beq esz 1 && Nat.ble n s.length then some (.nums .u8 ((s.take n).map fun b => (b.toNat : Int)), []) else none
  | _ => none
def lenA : AV → Option Nat
  | .sl _ _ _ len _ _ => some len
  | .nilsl => some 0
  | .str s => some s.length
  | _ => none
/-- A bound of what grows. -/
def roomA (n esz bytes : Nat) : Bool := Nat.ble (n * (bytes + esz)) 68719476736
def joinD (d c : AV) : Option AV := match c, d with
  | .agg [], d => some d
  | c, .agg [] => some c
  | c, d => d.join c
def appendA (esz bytes : Nat) (M : Mem) (d x : AV) : Option (AV × Mem × Foot) :=
  match lenA x with
  | none => none
  | some n => match srcA esz n M x with
    | none => none
    | some (c, _) =>
      match d with
      | .nilsl =>
        bif Nat.beq n 0 then made .nilsl M
        else bif roomA n esz bytes then some (.sl M.length 0 0 n esz none, M ++ [⟨c, .grow, false⟩], ⟨[], [], true, false⟩) else none
      | .sl i off base len e lim =>
        bif Nat.beq e esz && roomA (len + n) esz bytes then
          match liveB M i, lim with
          | some b, none =>
            (match b.kind with
            | .grow =>
              bif Nat.beq off 0 && Nat.beq (len * esz) b.cells.csize && (b.cells.isAgg && c.plain) then
                (match joinD b.cells c with
                | some c' => some (.sl M.length 0 base (len + n) esz none, M.set i ⟨.junk, .dead, true⟩ ++ [⟨c', .grow, false⟩], ⟨[], [i], true, false⟩)
                | none => none)
              else none
            | .own =>
              bif Nat.beq (off + len * esz) b.cells.csize then
                bif Nat.beq n 0 then made (.sl i off base len e lim) M
                else
                  (match b.cells.sub off (len * esz) none with
                  | some c0 => match joinD c0 c with
                    | some c' => some (.sl M.length 0 0 (len + n) esz none, M ++ [⟨c', .grow, false⟩], ⟨[i], [], true, false⟩)
                    | none => none
                  | none => none)
              else none
            | _ => none)
          | some b, some l =>
            bif Nat.beq (off + len * esz) l then
              bif Nat.beq n 0 then made (.sl i off base len e lim) M
              else
                (match b.cells.sub off (len * esz) none with
                | some c0 => match joinD c0 c with
                  | some c' => some (.sl M.length 0 0 (len + n) esz none, M ++ [⟨c', .grow, false⟩], ⟨[i], [], true, false⟩)
                  | none => none
                | none => none)
            else none
          | none, _ => none
        else none
      | _ => none
def copyA (esz : Nat) (M : Mem) (d x : AV) : Option (AV × Mem × Foot) :=
  match lenA x, d with
  | some m, .sl i off _ len e _ =>
    let n := Nat.min m len
    (bif Nat.beq n 0 then made (.int .i64 0) M else bif Nat.beq e esz then
      match srcA esz n M x, ownB M i with
      | some (c, _), some b => match b.cells.putR off c with
        | some c' => some (.int .i64 n, M.set i ⟨c', b.kind, true⟩, ⟨[], [i], true, false⟩)
        | none => none
      | _, _ => none
    else none)
  | some _, .nilsl => made (.int .i64 0) M
  | _, _ => none
def minA : List AV → Option AV
  | [] => none
  | .int k x :: r => go k x r
  | _ => none
where go (k : IntKind) (x : Int) : List AV → Option AV
  | [] => some (.int k x)
  | .int _ y :: r => go k (if y < x then y else x) r
  | _ => none
def maxA : List AV → Option AV
  | [] => none
  | .int k x :: r => go k x r
  | _ => none
where go (k : IntKind) (x : Int) : List AV → Option AV
  | [] => some (.int k x)
  | .int _ y :: r => go k (if y > x then y else x) r
  | _ => none
/-- The blocks of M that the callee had, as it left them. -/
def backM (M : Mem) (is : List Nat) (l : List Blk) : Option Mem :=
  match is, l with
  | [], _ => some M
  | i :: is, b :: l => bif b.dirty then backM (M.set i b) is l else backM M is l
  | _ :: _, [] => none
def dirtyOf : List Nat → List Blk → List Nat
  | i :: is, b :: l => bif b.dirty then i :: dirtyOf is l else dirtyOf is l
  | _, _ => []
def cleanM : List Blk → List Blk
  | [] => []
  | b :: l => { b with dirty := false } :: cleanM l
def BK.isDead : BK → Bool
  | .dead => true
  | _ => false
def BK.isRo : BK → Bool
  | .ro => true
  | _ => false
/-- Who was dead is dead; what is new is not one that may only be read. -/
def kindsOK : List Blk → List Blk → Bool
  | [], [] => true
  | [], b :: m => !b.kind.isRo && kindsOK [] m
  | a :: l, b :: m => (!a.kind.isDead || b.kind.isDead) && kindsOK l m
  | _ :: _, [] => false
/-- A call, on the blocks is. -/
def callOn (C : Orc) (f : FuncId) (args : List AV) (M : Mem) (is : List Nat) : Option (AV × Mem × Foot) :=
  match renL (fun i => placeOf i is) args, pickM M is with
  | some a', some l => match renM (fun i => placeOf i is) (cleanM l) with
    | some l' => match C f a' l' with
      | some (v, m) =>
        let n := M.length
        let d := is.length
        let s : Nat → Option Nat := fun k => bif Nat.blt k d then is[k]? else some (n + (k - d))
        (match v.ren s, renM s m with
        | some v', some m' => match backM M is m' with
          | some M' => bif nodupN is && kindsOK l m' then some (v', M' ++ m'.drop d, ⟨is, dirtyOf is m', true, false⟩) else none
          | none => none
        | _, _ => none)
      | none => none
    | none => none
  | _, _ => none
def callA (C : Orc) (f : FuncId) (args : List AV) (M : Mem) : Option (AV × Mem × Foot) :=
  match refsL args with
  | [] => match C f args [] with
    | some (v, []) => match v.refs with
      | [] => quiet v M
      | _ => none
    | _ => callOn C f args M []
  | rs => callOn C f args M (reach 0 M 10000 rs [])
def boundsA (lo hi : Bool) (d : Nat) (vs : List AV) : Option (Nat × Nat) :=
  match lo, hi, vs with
    | false, false, [] => some (0, d)
    | true, false, [.int _ a] => match inB a d with
      | some l => some (l, d)
      | none => none
    | false, true, [.int _ b] => match inB b d with
      | some h => some (0, h)
      | none => none
    | true, true, [.int _ a, .int _ b] => match inB b d with
      | some h => match inB a h with
        | some l => some (l, h)
        | none => none
      | none => none
    | _, _, _ => none

def psem (C : Orc) (p : Prim) (vs : List AV) (M : Mem) : Option (AV × Mem × Foot) :=
  match p with
  | .mov => (match vs with
    | [v] => quiet v M
    | _ => none)
  | .pick => (match vs with
    | [.bool c, a, b] => quiet (bif c then a else b) M
    | _ => none)
  | .alloc z => (match vs with
    | [] => match z.block with
      | some c => newB (.ptr M.length 0) M c .own
      | none => none
    | _ => none)
  | .box => (match vs with
    | [v] => match v.block with
      | some c => newB (.ptr M.length 0) M c .own
      | none => none
    | _ => none)
  | .build z ps => match fillA z ps vs with
    | some v => quiet v M
    | none => none
  | .buildSl z esz len ps => match fillA z ps vs with
    | some c => newB (.sl M.length 0 0 len esz none) M c .own
    | none => none
  | .load k => (match vs with
    | [.ptr i off] => match liveB M i with
      | some b => match b.cells.part off k with
        | some v => some (v, M, ⟨[i], [], false, false⟩)
        | none => none
      | none => none
    | _ => none)
  | .store n => (match vs with
    | [.ptr i off, v] => match ownB M i with
      | some b => bif Nat.beq v.csize n && v.plain then
          (match b.cells.putR off v with
          | some c => some (undefA, M.set i ⟨c, b.kind, true⟩, ⟨[], [i], true, false⟩)
          | none => none)
        else none
      | none => none
    | _ => none)
  | .padd n => (match vs with
    | [.ptr i off] => quiet (.ptr i (off + n)) M
    | _ => none)
  | .nilchk => (match vs with
    | [.ptr i off] => quiet (.ptr i off) M
    | [.fn f a c] => quiet (.fn f a c) M
    | _ => none)
  | .field off k => (match vs with
    | [c] => bif c.isAgg then (match c.part off k with
      | some v => quiet v M
      | none => none) else none
    | _ => none)
  | .idxA len esz => (match vs with
    | [.ptr i off, .int _ n] => match inR n len with
      | some m => quiet (.ptr i (off + m * esz)) M
      | none => none
    | _ => none)
  | .idxS esz => (match vs with
    | [.sl i off _ len e _, .int _ n] => bif Nat.beq e esz then (match inR n len with
      | some m => quiet (.ptr i (off + m * esz)) M
      | none => none) else none
    | _ => none)
  | .idxV len esz k => (match vs with
    | [c, .int _ n] => bif c.isAgg then (match inR n len with
      | some m => match c.part (m * esz) k with
        | some v => quiet v M
        | none => none
      | none => none) else none
    | _ => none)
  | .idxStr => (match vs with
    | [.str s, .int _ n] => match inR n s.length with
      | some m => match s[m]? with
        | some b => quiet (.int .u8 b.toNat) M
        | none => none
      | none => none
    | _ => none)
  | .bin op => match binA op vs with
    | some v => quiet v M
    | none => none
  | .eqv neg s => match eqA s vs with
    | some b => quiet (.bool (bif neg then !b else b)) M
    | none => none
  | .un op => match unA op vs with
    | some v => quiet v M
    | none => none
  | .conv k => (match vs with
    | [.int _ n] => quiet (.int k (k.wrap n)) M
    | _ => none)
  | .convId => (match vs with
    | [.str s] => quiet (.str s) M
    | _ => none)
  | .s2b => (match vs with
    | [.str s] => newB (.sl M.length 0 0 s.length 1 none) M (.nums .u8 (s.map fun b => (b.toNat : Int))) .grow
    | _ => none)
  | .b2s => (match vs with
    | [.nilsl] => quiet (.str []) M
    | [.sl i off _ len e _] => bif Nat.beq e 1 then
        (match liveB M i with
        | some b => match b.cells.sub off len (some .u8) with
          | some (.nums .u8 l) => some (.str (l.map fun n => UInt8.ofNat n.toNat), M, ⟨[i], [], false, false⟩)
          | _ => none
        | none => none) else none
    | _ => none)
  | .s2ap n => (match vs with
    | [.sl i off _ len _ _] => bif Nat.ble n len && Nat.blt 0 n then quiet (.ptr i off) M else none
    | _ => none)
  | .mkfn f nf => quiet (.fn f (vs.take nf) (vs.drop nf)) M
  | .mksl z esz bytes => (match vs with
    | [.int _ l, .int _ c] => match l, c with
      | .ofNat l, .ofNat c => bif Nat.ble l c && Nat.ble (c * bytes) 140737488355328 && Nat.ble c 9223372036854775807 then
          (match z.rep c with
          | some cs => newB (.sl M.length 0 0 l esz none) M cs .own
          | none => none) else none
      | _, _ => none
    | _ => none)
  | .slA n esz lo hi => (match vs with
    | .ptr i off :: bs => match boundsA lo hi n bs with
      | some (l, h) => quiet (.sl i (off + l * esz) off (h - l) esz (some (off + n * esz))) M
      | none => none
    | _ => none)
  | .slS esz lo hi => (match vs with
    | .sl i off base len e lim :: bs => bif Nat.beq e esz then (match boundsA lo hi len bs with
      | some (l, h) => quiet (.sl i (off + l * esz) (bif Nat.beq l 0 then base else off) (h - l) esz lim) M
      | none => none) else none
    | .nilsl :: bs => match boundsA lo hi 0 bs with
      | some _ => quiet .nilsl M
      | none => none
    | _ => none)
  | .slStr lo hi => (match vs with
    | .str s :: bs => match boundsA lo hi s.length bs with
      | some (l, h) => quiet (.str ((s.take h).drop l)) M
      | none => none
    | _ => none)
  | .extr i => (match vs with
    | [.tup l] => match l[i]? with
      | some v => quiet v M
      | none => none
    | _ => none)
  | .callf f => callA C f vs M
  | .callv => (match vs with
    | .fn f a c :: vs => callA C f (a ++ vs ++ c) M
    | _ => none)
  | .add64 => (match vs with
    | [.int _ x, .int _ y, .int _ c] => bif Nat.ble c.toNat 1 then
        quiet (.tup [.int .u64 (((x.toNat + y.toNat + c.toNat) % 18446744073709551616 : Nat) : Int), .int .u64 (((x.toNat + y.toNat + c.toNat) / 18446744073709551616 : Nat) : Int)]) M else none
    | _ => none)
  | .sub64 => (match vs with
    | [.int _ x, .int _ y, .int _ c] => bif Nat.ble c.toNat 1 then
        quiet (.tup [.int .u64 (((x.toNat + 18446744073709551616 - y.toNat - c.toNat) % 18446744073709551616 : Nat) : Int), .int .u64 ((if x.toNat < y.toNat + c.toNat then 1 else 0 : Nat) : Int)]) M else none
    | _ => none)
  | .lenC n => (match vs with
    | [_] => quiet (.int .i64 n) M
    | _ => none)
  | .len true => (match vs with
    | [.str s] => quiet (.int .i64 s.length) M
    | _ => none)
  | .len false => (match vs with
    | [.sl _ _ _ n _ _] => quiet (.int .i64 n) M
    | [.nilsl] => quiet (.int .i64 0) M
    | _ => none)
  | .append esz bytes => (match vs with
    | [d, x] => appendA esz bytes M d x
    | _ => none)
  | .copy esz => (match vs with
    | [d, x] => copyA esz M d x
    | _ => none)
  | .min => match minA vs with
    | some v => quiet v M
    | none => none
  | .max => match maxA vs with
    | some v => quiet v M
    | none => none

/-! ### Code -/
inductive AOpd where
  | tmp (t : Nat)
  | val (v : AV)
structure AOper where
  dst : Option Nat
  prim : Prim
  args : List AOpd
  guard : Option (Nat × Bool)
  after : List Nat
inductive ACode where
  | skip
  | ops (l : List AOper) (drawn : Bool)
  | seq (a b : ACode)
  | cond (c : AOpd) (t e : ACode)
  | block (id : Nat) (b : ACode)
  | loop (id : Nat) (dead : Option (List Nat)) (b : ACode)
  | exit (id : Nat)
  | ret
inductive Ex where
  | norm | exit (id : Nat) | ret
structure St where
  fr : List AV
  mem : Mem

def evalA (fr : List AV) : AOpd → AV
  | .tmp t => fr.getD t undefA
  | .val v => v
def putA (fr : List AV) (d : Option Nat) (v : AV) : List AV :=
  match d with
  | some d => fr.set d v
  | none => fr
/-- Whether the operation is carried out; none: that is not known. -/
def wantedA (fr : List AV) : Option (Nat × Bool) → Option Bool
  | none => some true
  | some (t, want) => match fr[t]? with
    | some (.bool b) => some (b == want)
    | some (.tup []) => some false
    | _ => none
def stepA (C : Orc) (o : AOper) (s : St) : Option (St × Foot) :=
  match wantedA s.fr o.guard with
  | some true => match psem C o.prim (o.args.map (evalA s.fr)) s.mem with
    | some (v, m, ft) => some (⟨putA s.fr o.dst v, m⟩, ft)
    | none => none
  | some false => some (⟨putA s.fr o.dst undefA, s.mem⟩, ⟨[], [], false, false⟩)
  | none => none
def opsA (C : Orc) : List AOper → St → Option (St × List (Foot × Nat))
  | [], s => some (s, [])
  | o :: l, s => match stepA C o s with
    | some (s', ft) => match opsA C l s' with
      | some (s'', fs) => some (s'', (ft, s.mem.length) :: fs)
      | none => none
    | none => none
/-! Where the order is drawn, a new block has a place of its own from the start on. -/
def Prim.isNew : Prim → Bool
  | .alloc _ => true
  | .box => true
  | .buildSl _ _ _ _ => true
  | .s2b => true
  | .mksl _ _ _ => true
  | _ => false
def newN : List AOper → Nat
  | [] => 0
  | o :: l => bif o.prim.isNew then newN l + 1 else newN l
def reV (r : Nat) : AV → AV
  | .ptr _ off => .ptr r off
  | .sl _ off base len e lim => .sl r off base len e lim
  | v => v
def deadB : Blk := ⟨.junk, .dead, true⟩
def stepD (C : Orc) (o : AOper) (r : Nat) (s : St) : Option (St × Foot) :=
  match wantedA s.fr o.guard with
  | some true => match psem C o.prim (o.args.map (evalA s.fr)) s.mem with
    | some (v, m, ft) => bif ft.fresh then (bif o.prim.isNew then (match m[s.mem.length]? with
        | some b => some (⟨putA s.fr o.dst (reV r v), s.mem.set r ⟨b.cells, b.kind, true⟩⟩, ⟨[], [r], true, true⟩)
        | none => none) else none) else some (⟨putA s.fr o.dst v, m⟩, ft)
    | none => none
  | some false => some (⟨putA s.fr o.dst undefA, s.mem⟩, ⟨[], [], false, false⟩)
  | none => none
def opsD (C : Orc) : List AOper → Nat → St → Option (St × List (Foot × Nat))
  | [], _, s => some (s, [])
  | o :: l, r, s => match stepD C o r s with
    | some (s', ft) => match opsD C l (bif o.prim.isNew then r + 1 else r) s' with
      | some (s'', fs) => some (s'', (ft, s.mem.length) :: fs)
      | none => none
    | none => none
def padM (M : Mem) : Nat → Mem
  | 0 => M
  | n + 1 => padM (M ++ [deadB]) n
/-! That the order that is drawn does not matter. -/
def insAll : List Nat → List Nat → List Nat
  | [], acc => acc
  | i :: l, acc => insAll l (bif memN i acc then acc else i :: acc)
/-- The operations that come before each one: the lists of the earlier ones are at hand. -/
def ancs : List AOper → List (List Nat) → List (List Nat)
  | [], acc => acc
  | o :: l, acc => ancs l (acc ++ [o.after.foldl (fun s e => insAll (e :: acc.getD e []) s) []])
def dstsA : List AOper → List (Option Nat)
  | [] => []
  | o :: l => o.dst :: dstsA l
def tmpsOf : List AOpd → List Nat
  | [] => []
  | .tmp t :: l => t :: tmpsOf l
  | .val _ :: l => tmpsOf l
def AOper.uses (o : AOper) : List Nat := (match o.guard with | some (t, _) => [t] | none => []) ++ tmpsOf o.args
def sepN : List Nat → List Nat → Bool
  | [], _ => true
  | i :: l, m => !memN i m && sepN l m
/-- Whoever writes slot t is among those that come before i, or comes behind it. -/
def usesOK (i : Nat) (an : List Nat) (anL : List (List Nat)) (t : Nat) : Nat → List (Option Nat) → Bool
  | _, [] => true
  | j, d :: l => (match d with
    | some d => !Nat.beq d t || memN j an || (Nat.blt i j && memN i (anL.getD j []))
    | none => true) && usesOK i an anL t (j + 1) l
def allUses (i : Nat) (an : List Nat) (anL : List (List Nat)) (ds : List (Option Nat)) : List Nat → Bool
  | [] => true
  | t :: l => usesOK i an anL t 0 ds && allUses i an anL ds l
def nodupD : List (Option Nat) → Bool
  | [] => true
  | none :: l => nodupD l
  | some d :: l => go d l && nodupD l
where go (d : Nat) : List (Option Nat) → Bool
  | [] => true
  | some e :: l => !Nat.beq d e && go d l
  | none :: l => go d l
/-- Against every other operation j: two that have an effect stand in an order; one that reads reads what the other does not write. -/
def pairOK (i : Nat) (an : List Nat) (ft : Foot) (anL : List (List Nat)) : Nat → List (Foot × Nat) → Bool
  | _, [] => true
  | j, (ft', n') :: l =>
    (Nat.beq i j || !ft'.eff || (bif Nat.blt j i then memN j an || (!ft.eff && sepN ft.reads ft'.writes && (ft'.fresh || allLt n' ft.reads)) || (ft.fresh && ft'.fresh)
      else (memN i (anL.getD j []) || (!ft.eff && sepN ft.reads ft'.writes) || (ft.fresh && ft'.fresh)) && (!ft'.fresh || (sepN ft.reads ft'.writes && sepN ft.writes ft'.writes)))) && pairOK i an ft anL (j + 1) l
def pairsOK (anL : List (List Nat)) (fs : List (Foot × Nat)) : Nat → List (Foot × Nat) → Bool
  | _, [] => true
  | i, (ft, _) :: l => pairOK i (anL.getD i []) ft anL 0 fs && pairsOK anL fs (i + 1) l
def opsUses (anL : List (List Nat)) (ds : List (Option Nat)) : Nat → List AOper → Bool
  | _, [] => true
  | i, o :: l => allUses i (anL.getD i []) anL ds o.uses && allLt i o.after && opsUses anL ds (i + 1) l
def drawnSlow (l : List AOper) (fs : List (Foot × Nat)) : Bool :=
  let anL := ancs l []
  let ds := dstsA l
  nodupD ds && opsUses anL ds 0 l && pairsOK anL fs 0 fs
/-! The same, by bits. -/
def bitN (j m : Nat) : Bool := Nat.beq (Nat.land (Nat.shiftRight m j) 1) 1
def ancM : List AOper → List Nat → List Nat
  | [], acc => acc
  | o :: l, acc => ancM l (acc ++ [o.after.foldl (fun s e => Nat.lor (Nat.lor (Nat.shiftLeft 1 e) (acc.getD e 0)) s) 0])
def usesM (i an : Nat) (anL : List Nat) (t : Nat) : Nat → List (Option Nat) → Bool
  | _, [] => true
  | j, d :: l => (match d with
    | some d => !Nat.beq d t || bitN j an || (Nat.blt i j && bitN i (anL.getD j 0))
    | none => true) && usesM i an anL t (j + 1) l
def allUsesM (i an : Nat) (anL : List Nat) (ds : List (Option Nat)) : List Nat → Bool
  | [] => true
  | t :: l => usesM i an anL t 0 ds && allUsesM i an anL ds l
def pairM (i an : Nat) (ft : Foot) (anL : List Nat) : Nat → List (Foot × Nat) → Bool
  | _, [] => true
  | j, (ft', n') :: l =>
    (Nat.beq i j || !ft'.eff || (bif Nat.blt j i then bitN j an || (!ft.eff && sepN ft.reads ft'.writes && (ft'.fresh || allLt n' ft.reads)) || (ft.fresh && ft'.fresh)
      else (bitN i (anL.getD j 0) || (!ft.eff && sepN ft.reads ft'.writes) || (ft.fresh && ft'.fresh)) && (!ft'.fresh || (sepN ft.reads ft'.writes && sepN ft.writes ft'.writes)))) && pairM i an ft anL (j + 1) l
def pairsM (anL : List Nat) (fs : List (Foot × Nat)) : Nat → List (Foot × Nat) → Bool
  | _, [] => true
  | i, (ft, _) :: l => pairM i (anL.getD i 0) ft anL 0 fs && pairsM anL fs (i + 1) l
def opsUsesM (anL : List Nat) (ds : List (Option Nat)) : Nat → List AOper → Bool
  | _, [] => true
  | i, o :: l => allUsesM i (anL.getD i 0) anL ds o.uses && allLt i o.after && opsUsesM anL ds (i + 1) l
def drawnOK (l : List AOper) (fs : List (Foot × Nat)) : Bool :=
  let anL := ancM l []
  let ds := dstsA l
  nodupD ds && opsUsesM anL ds 0 l && pairsM anL fs 0 fs
def junkAll : List Nat → List AV → List AV
  | [], fr => fr
  | t :: l, fr => junkAll l (fr.set t .junk)
def scrub (n0 : Nat) (dead : Option (List Nat)) (s : St) : Option St :=
  match dead with
  | none => some s
  | some dead => match cramp n0 (junkAll dead s.fr) s.mem with
    | some (fr, m) => some ⟨fr, m⟩
    | none => none
def iterA (f : St → Option (Ex × St)) (h : St → Option St) : Nat → St → Option (Ex × St)
  | 0, _ => none
  | n + 1, s => match h s with
    | some s' => match f s' with
      | some (.norm, s'') => iterA f h n s''
      | r => r
    | none => none
/-- What is said of a loop: by its number. -/
abbrev LOrc := Nat → St → Option (Ex × St)
def noL : LOrc := fun _ _ => none
def exec (C : Orc) (L : LOrc) (n0 N : Nat) : ACode → St → Option (Ex × St)
  | .skip, s => some (.norm, s)
  | .ops l drawn, s => bif drawn then (match opsD C l s.mem.length ⟨s.fr, padM s.mem (newN l)⟩ with
      | some (s', fs) => bif drawnOK l fs then some (.norm, s') else none
      | none => none) else (match opsA C l s with
      | some (s', _) => some (.norm, s')
      | none => none)
  | .seq a b, s => match exec C L n0 N a s with
    | some (.norm, s') => exec C L n0 N b s'
    | r => r
  | .cond c t e, s => match evalA s.fr c with
    | .bool b => bif b then exec C L n0 N t s else exec C L n0 N e s
    | _ => none
  | .block id b, s => match exec C L n0 N b s with
    | some (.exit i, s') => bif Nat.beq i id then some (.norm, s') else some (.exit i, s')
    | r => r
  | .loop id dead b, s => match L id s with
    | some r => some r
    | none => iterA (exec C L n0 N b) (scrub n0 dead) N s
  | .exit id, s => some (.exit id, s)
  | .ret, s => some (.ret, s)

inductive ARes where
  | tmp (t : Nat)
  | cell (t : Nat) (k : Option (Nat × Option IntKind))
structure AFun where
  code : ACode
  ntmps : Nat
  results : List ARes
def resA (s : St) : ARes → Option AV
  | .tmp t => some (s.fr.getD t undefA)
  | .cell t k => match s.fr.getD t undefA with
    | .ptr i off => match liveB s.mem i with
      | some b => b.cells.part off k
      | none => none
    | _ => none
def resAll (s : St) : List ARes → Option (List AV)
  | [] => some []
  | r :: l => match resA s r, resAll s l with
    | some v, some vs => some (v :: vs)
    | _, _ => none
def oneA : List AV → AV
  | [v] => v
  | l => .tup l
def frame0 (fn : AFun) (args : List AV) : List AV := args ++ List.replicate (fn.ntmps - args.length) undefA
def runF (C : Orc) (L : LOrc) (N : Nat) (fn : AFun) (args : List AV) (M : Mem) : Option (AV × Mem) :=
  match exec C L M.length N fn.code ⟨frame0 fn args, M⟩ with
  | some (.norm, s) | some (.ret, s) => match resAll s fn.results with
    | some vs =>
      (match cramp M.length vs s.mem with
      | some (vs', m) => some (oneA vs', m)
      | none => none)
    | none => none
  | _ => none
end Go.Proofs.Ytfdhfhgljhnhlaa
/- The program's functions as the small machine takes them. Definitions alone. No condition. -/
namespace Go.Proofs.Ytfdhfhgljhnhlaa
open Go Go.RowKit

def scal : Value → Option AV
  | .bool b => some (.bool b)
  | .int k n => some (.int k n)
  | .string s => some (.str s.data.toList)
  | .pointer none => some .nilp
  | .slice none 0 0 => some .nilsl
  | .nilFunc => some .nilfn
  | .nilIface => some .nilif
  | _ => none
def scalL : List Value → Option (List AV)
  | [] => some []
  | v :: l => match scal v, scalL l with
    | some a, some r => some (a :: r)
    | _, _ => none
def aggOf (l : List AV) : AV :=
  match l with
  | .int k n :: r => match toInts k (.int k n :: r) with
    | some q => .nums k q
    | none => .agg l
  | _ => .agg l
def ofVal : Value → Option AV
  | .agg cs => match scalL cs.toList with
    | some l => some (aggOf l)
    | none => none
  | v => scal v
def isAggD : TypeDesc → Bool
  | .struct _ | .array _ _ => true
  | _ => false
def kindA (z : AV) : Option IntKind :=
  match z with
  | .nums k _ => some k
  | _ => none
/-- A type's size and, if all its cells are integers of one kind, that kind; none: it has one cell. -/
def kindT (P : Program) (t : TypeId) : Option (Option (Nat × Option IntKind)) :=
  match P.underlying t, P.info? t with
  | some d, some i => bif isAggD d then (match i.zero with
    | some z => match ofVal z with
      | some a => some (some (i.size, kindA a))
      | none => none
    | none => none) else some none
  | _, _ => none
def zeroT (P : Program) (t : TypeId) : Option AV :=
  match P.info? t with
  | some i => match i.zero with
    | some z => ofVal z
    | none => none
  | none => none
def sizeT (P : Program) (t : TypeId) : Option Nat :=
  match P.info? t with
  | some i => some i.size
  | none => none
def bytesT (P : Program) (t : TypeId) : Option Nat :=
  match P.info? t with
  | some i => some i.bytes
  | none => none
def compX : Operand → Option AOpd
  | .tmp t => some (.tmp t)
  | .const v => match ofVal v with
    | some a => some (.val a)
    | none => none
  | .func f => some (.val (.fn f [] []))
  | .global _ => none
def compXs : List Operand → Option (List AOpd)
  | [] => some []
  | x :: l => match compX x, compXs l with
    | some a, some r => some (a :: r)
    | _, _ => none
def aggBlock (z : AV) : AV := match z with
  | .int k n => .nums k [n]
  | z => match z.block with
    | some b => b
    | none => .agg []
/-- The places of a struct's or an array's parts. -/
def placesS (P : Program) (fs : Array Field) : List Nat → Option (List (Nat × Nat))
  | [] => some []
  | i :: l => match fs[i]? with
    | some f => match sizeT P f.type, placesS P fs l with
      | some n, some r => some ((f.offset, n) :: r)
      | _, _ => none
    | none => none
def sizesOK (P : Program) : List Field → Bool
  | [] => true
  | f :: l => (sizeT P f.type).isSome && sizesOK P l
def placesA (size : Nat) : List Nat → List (Nat × Nat)
  | [] => []
  | i :: l => (i * size, size) :: placesA size l
def eqShape (P : Program) (t : TypeId) : Option EqS :=
  match P.underlying t with
  | some .bool => some .bool
  | some (.pointer _) => some .ptr
  | some (.slice _) => some .slice
  | some (.func _ _ _) => some .func
  | some (.array n e) => match P.underlying e, sizeT P e with
    | some (.int _), some s => bif Nat.beq s 1 then some (.cells n) else none
    | _, _ => none
  | _ => none
def isEq : BinOp → Option Bool
  | .eql => some false
  | .neq => some true
  | _ => none
def compB (op : BinOp) (P : Program) (t : TypeId) : Option Prim :=
  match P.underlying t with
  | some (.int _) => some (.bin op)
  | some .string => some (.bin op)
  | _ => match isEq op, eqShape P t with
    | some neg, some s => some (.eqv neg s)
    | _, _ => none
def flagged (o : Option Operand) : Bool := o.isSome
def externOf (n : String) : Option Prim :=
  if n = "math/bits.Add64" then some .add64 else if n = "math/bits.Sub64" then some .sub64 else none
def compCall (P : Program) (c : Call) : Option (Prim × List Operand) :=
  match c.callee with
  | .value (.func f) => match P.funcs[f]? with
    | some fn => match fn.body with
      | some _ => some (.callf f, c.args.toList)
      | none => match (if fn.origin = "" then externOf fn.name else none) with
        | some p => some (p, c.args.toList)
        | none => none
    | none => none
  | .value (.tmp t) => some (.callv, .tmp t :: c.args.toList)
  | .builtin .len => match c.argTypes[0]? with
    | some t => match P.underlying t with
      | some (.array n _) => some (.lenC n, c.args.toList)
      | some .string => some (.len true, c.args.toList)
      | some (.slice _) => some (.len false, c.args.toList)
      | _ => none
    | none => none
  | .builtin .append => match c.argTypes[0]?, c.argTypes[1]? with
    | some t, some u => match P.underlying t, P.underlying u with
      | some (.slice _), some (.int _) => none
      | some (.slice e), some _ => match sizeT P e, bytesT P e, zeroT P e with
        | some s, some b, some z => bif Nat.blt 0 s && Nat.blt 0 b && Nat.beq c.args.size 2 && Nat.beq (aggBlock z).csize s then some (.append s b, c.args.toList) else none
        | _, _, _ => none
      | _, _ => none
    | _, _ => none
  | .builtin .copy => match c.argTypes[0]? with
    | some t => match P.underlying t with
      | some (.slice e) => match sizeT P e with
        | some s => bif Nat.blt 0 s && Nat.beq c.args.size 2 then some (.copy s, c.args.toList) else none
        | none => none
      | _ => none
    | none => none
  | .builtin .min => some (.min, c.args.toList)
  | .builtin .max => some (.max, c.args.toList)
  | _ => none
def compOp (P : Program) (o : Op) : Option (Prim × List Operand) :=
  match o with
  | .move x => some (.mov, [x])
  | .assign x => some (.mov, [x])
  | .pick c a b => some (.pick, [c, a, b])
  | .alloc t => match zeroT P t with
    | some z => some (.alloc z, [])
    | none => none
  | .box _ x => some (.box, [x])
  | .build t ps => match zeroT P t, P.underlying t with
    | some z, some (.struct fs) => match placesS P fs (ps.toList.map (·.1)) with
      | some pl => bif z.isAgg && sizesOK P fs.toList then some (.build z pl, ps.toList.map (·.2)) else none
      | none => none
    | some z, some (.array _ e) => match sizeT P e with
      | some s => bif z.isAgg then some (.build z (placesA s (ps.toList.map (·.1))), ps.toList.map (·.2)) else none
      | none => none
    | _, _ => none
  | .buildSlice t n ps => match P.underlying t with
    | some (.slice e) => match zeroT P e, sizeT P e with
      | some z, some s => bif Nat.blt 0 s && Nat.ble (n * s) 16777216 && Nat.beq (aggBlock z).csize s then (match (aggBlock z).rep n with
        | some c => some (.buildSl c s n (placesA s (ps.toList.map (·.1))), ps.toList.map (·.2))
        | none => none) else none
      | _, _ => none
    | _ => none
  | .load t x => match kindT P t with
    | some k => some (.load k, [x])
    | none => none
  | .store t a v => match sizeT P t with
    | some n => some (.store n, [a, v])
    | none => none
  | .fieldAddr t x i => match P.underlying t with
    | some (.struct fs) => match fs[i]? with
      | some f => match sizeT P f.type with
        | some s => bif Nat.blt 0 s then some (.padd f.offset, [x]) else none
        | none => none
      | none => none
    | _ => none
  | .nilCheck x => some (.nilchk, [x])
  | .field t x i => match P.underlying t with
    | some (.struct fs) => match fs[i]? with
      | some f => match kindT P f.type with
        | some k => some (.field f.offset k, [x])
        | none => none
      | none => none
    | _ => none
  | .indexAddr t x i => match P.underlying t with
    | some (.array n e) => match sizeT P e with
      | some s => some (.idxA n s, [x, i])
      | none => none
    | some (.slice e) => match sizeT P e with
      | some s => some (.idxS s, [x, i])
      | none => none
    | _ => none
  | .index t x i => match P.underlying t with
    | some (.array n e) => match sizeT P e, kindT P e with
      | some s, some k => some (.idxV n s k, [x, i])
      | _, _ => none
    | some .string => some (.idxStr, [x, i])
    | _ => none
  | .binOp op t x y _ => match compB op P t with
    | some p => some (p, [x, y])
    | none => none
  | .unOp op _ x => some (.un op, [x])
  | .convert s d x => match P.underlying s, P.underlying d with
    | some (.int _), some (.int k) => some (.conv k, [x])
    | some .string, some .string => some (.convId, [x])
    | some .string, some (.slice e) => match P.underlying e with
      | some (.int .u8) => some (.s2b, [x])
      | _ => none
    | some (.slice e), some .string => match P.underlying e with
      | some (.int .u8) => some (.b2s, [x])
      | _ => none
    | _, _ => none
  | .sliceToArrayPointer t x => match P.underlying t with
    | some (.array n _) => some (.s2ap n, [x])
    | _ => none
  | .makeFunc (.func f) a c => some (.mkfn f a.size, a.toList ++ c.toList)
  | .makeSlice t l c => match P.underlying t with
    | some (.slice e) => match zeroT P e, sizeT P e, bytesT P e with
      | some z, some s, some b => bif Nat.blt 0 s && Nat.beq (aggBlock z).csize s then some (.mksl (aggBlock z) s b, [l, c]) else none
      | _, _, _ => none
    | _ => none
  | .slice t x lo hi none => match P.underlying t with
    | some (.array n e) => match sizeT P e with
      | some s => bif Nat.blt 0 s then some (.slA n s (flagged lo) (flagged hi), x :: (lo.toList ++ hi.toList)) else none
      | none => none
    | some (.slice e) => match sizeT P e with
      | some s => some (.slS s (flagged lo) (flagged hi), x :: (lo.toList ++ hi.toList))
      | none => none
    | some .string => some (.slStr (flagged lo) (flagged hi), x :: (lo.toList ++ hi.toList))
    | _ => none
  | .extract x i => some (.extr i, [x])
  | .call c => compCall P c
  | _ => none
def edgesOf : List Edge → List Nat
  | [] => []
  | e :: l => match e.ground with
    | .textOnly _ | .gcOnly _ => edgesOf l
    | _ => e.on :: edgesOf l
/-- A guard, by the slot of the operation that it names. -/
def guardOf (ops : Array Oper) : Option (Nat × Bool) → Option (Option (Nat × Bool))
  | none => some none
  | some (j, b) => match ops[j]? with
    | some o => match o.dst with
      | some d => some (some (d, b))
      | none => none
    | none => none
def compOper (P : Program) (ops : Array Oper) (o : Oper) : Option AOper :=
  match compOp P o.op, guardOf ops o.guard with
  | some (p, xs), some g => match compXs xs with
    | some ys => some ⟨o.dst, p, ys, g, edgesOf o.after.toList⟩
    | none => none
  | _, _ => none
def compOps (P : Program) (ops : Array Oper) : List Oper → Option (List AOper)
  | [] => some []
  | o :: l => match compOper P ops o, compOps P ops l with
    | some a, some r => some (a :: r)
    | _, _ => none
/-- D: of each loop, by its number, the slots that are written ahead of every reading in it. -/
def comp (P : Program) (D : Nat → Option (List Nat)) : Code → Nat → Option (ACode × Nat)
  | .skip, n => some (.skip, n)
  | .region _ ops d, n => match compOps P ops ops.toList with
    | some l => some (.ops l d, n)
    | none => none
  | .seq a b, n => match comp P D a n with
    | some (a', n') => match comp P D b n' with
      | some (b', n'') => some (.seq a' b', n'')
      | none => none
    | none => none
  | .cond c t e, n => match compX c, comp P D t n with
    | some c', some (t', n') => match comp P D e n' with
      | some (e', n'') => some (.cond c' t' e', n'')
      | none => none
    | _, _ => none
  | .block id b, n => match comp P D b n with
    | some (b', n') => some (.block id b', n')
    | none => none
  | .loop b, n => match comp P D b (n + 1) with
    | some (b', n') => some (.loop n (D n) b', n')
    | none => none
  | .exit id, n => some (.exit id, n)
  | .ret, n => some (.ret, n)
  | _, _ => none
def compRes (P : Program) : List ResultVar → Option (List ARes)
  | [] => some []
  | .tmp t :: l => match compRes P l with
    | some r => some (.tmp t :: r)
    | none => none
  | .cell t ty :: l => match kindT P ty, compRes P l with
    | some k, some r => some (.cell t k :: r)
    | _, _ => none
def compFn (P : Program) (D : Nat → Option (List Nat)) (f : FuncId) : Option AFun :=
  match P.funcs[f]? with
  | some fn => match fn.body with
    | some c => match comp P D c 0, compRes P fn.results.toList with
      | some (c', _), some r => if fn.name = "runtime.NumGoroutine" then none else some ⟨c', fn.ntmps, r⟩
      | _, _ => none
    | none => none
  | none => none
end Go.Proofs.Ytfdhfhgljhnhlaa
/- How the small machine's values and blocks stand to the program's memory; how that fares under new blocks, stores and new numbers. No condition. -/
namespace Go.Proofs.Ytfdhfhgljhnhlaa
open Go Go.RowKit

/-- Of each block: its number in memory, and how many cells it has there. -/
abbrev FM := Nat → Option (Nat × Nat)
/-- What f knows g knows. -/
def Sub (f g : FM) : Prop := ∀ (i : Nat) (x : Nat × Nat), f i = some x → g i = some x
theorem Sub.refl (f : FM) : Sub f f := fun _ _ h => h
theorem Sub.trans {f g h : FM} (a : Sub f g) (b : Sub g h) : Sub f h := fun i x hx => b i x (a i x hx)
def noF : FM := fun _ => none
def upd (f : FM) (i : Nat) (x : Nat × Nat) : FM := fun j => if j = i then some x else f j
theorem upd_same (f : FM) (i : Nat) (x : Nat × Nat) : upd f i x i = some x := by simp [upd]
theorem upd_ne (f : FM) {i j : Nat} (x : Nat × Nat) (h : j ≠ i) : upd f i x j = f j := by simp [upd, h]
theorem upd_sub {f : FM} {i : Nat} {x : Nat × Nat} (h : f i = none) : Sub f (upd f i x) := fun j y hy => by
  by_cases e : j = i
  · subst e; rw [h] at hy; cases hy
  · rw [upd_ne _ _ e]; exact hy
mutual
def VRel (f : FM) : AV → Value → Prop
  | .junk, _ => True
  | .bool b, V => V = .bool b
  | .int k n, V => V = .int k n
  | .str s, V => V = .string ⟨s.toArray⟩
  | .ptr i off, V => ∃ x, f i = some x ∧ V = .pointer (some ⟨x.1, off, none⟩)
  | .nilp, V => V = .pointer none
  | .sl i off base len esz lim, V => ∃ x cap, f i = some x ∧ 0 < esz ∧ off + cap * esz = lim.getD x.2 ∧ len ≤ cap ∧ V = .slice (some ⟨x.1, if cap = 0 then base else off, none⟩) len cap
  | .nilsl, V => V = .slice none 0 0
  | .fn g a c, V => ∃ A D, V = .func (.func g) A D ∧ VRels f a A.toList ∧ VRels f c D.toList
  | .nilfn, V => V = .nilFunc
  | .nilif, V => V = .nilIface
  | .agg l, V => ∃ A, V = .agg A ∧ VRels f l A.toList
  | .nums k l, V => V = .agg ((l.map (Value.int k)).toArray)
  | .tup l, V => ∃ A, V = .tuple A ∧ VRels f l A.toList
  | .at _ _, _ => False
def VRels (f : FM) : List AV → List Value → Prop
  | [], Vs => Vs = []
  | v :: l, Vs => ∃ V r, Vs = V :: r ∧ VRel f v V ∧ VRels f l r
end

def AV.mem3 : AV → Bool
  | .agg _ | .nums _ _ | .at _ _ => true
  | _ => false
theorem isAgg_mem3 {v : AV} (h : v.isAgg = true) : v.mem3 = true := by
  cases v <;> first | rfl | cases h
theorem AV.cellInd {motive : AV → Prop} (agg : ∀ l, motive (.agg l)) (nums : ∀ k l, motive (.nums k l)) («at» : ∀ o c, motive c → motive (.at o c)) (other : ∀ c, c.mem3 = false → motive c) : ∀ c, motive c
  | .agg l => agg l
  | .nums k l => nums k l
  | .at o c => «at» o c (AV.cellInd agg nums «at» other c)
  | .junk => other _ rfl
  | .bool _ => other _ rfl
  | .int _ _ => other _ rfl
  | .str _ => other _ rfl
  | .ptr _ _ => other _ rfl
  | .nilp => other _ rfl
  | .sl .. => other _ rfl
  | .nilsl => other _ rfl
  | .fn .. => other _ rfl
  | .nilfn => other _ rfl
  | .nilif => other _ rfl
  | .tup _ => other _ rfl
section
variable {f g : FM} {l l' : List AV} {Vs Ws : List Value}
theorem VRels.nil : VRels f [] [] := by simp [VRels]
theorem VRels.cons {v V} (h : VRel f v V) (h' : VRels f l Vs) : VRels f (v :: l) (V :: Vs) := by
  rw [VRels]; exact ⟨V, Vs, rfl, h, h'⟩
theorem VRels.cons_iff {v V} : VRels f (v :: l) (V :: Vs) ↔ VRel f v V ∧ VRels f l Vs := by
  rw [VRels]
  constructor
  · rintro ⟨V', r, h, h1, h2⟩
    obtain ⟨rfl, rfl⟩ := List.cons.inj h
    exact ⟨h1, h2⟩
  · rintro ⟨h1, h2⟩; exact ⟨V, Vs, rfl, h1, h2⟩
theorem VRels.length : ∀ {l : List AV} {Vs : List Value}, VRels f l Vs → l.length = Vs.length
  | [], Vs, h => by rw [VRels] at h; subst h; rfl
  | v :: l, Vs, h => by
    rw [VRels] at h
    obtain ⟨V, r, rfl, _, h2⟩ := h
    simp [VRels.length h2]
theorem VRels.get : ∀ {l : List AV} {Vs : List Value} (i : Nat) {v : AV}, VRels f l Vs → l[i]? = some v → ∃ V, Vs[i]? = some V ∧ VRel f v V
  | [], Vs, i, v, h, hi => by simp at hi
  | u :: l, Vs, i, v, h, hi => by
    rw [VRels] at h
    obtain ⟨V, r, rfl, h1, h2⟩ := h
    cases i with
    | zero => simp at hi; subst hi; exact ⟨V, by simp, h1⟩
    | succ i => simp at hi; obtain ⟨V', h3, h4⟩ := VRels.get i h2 hi; exact ⟨V', by simpa using h3, h4⟩
theorem VRels.app : ∀ {l : List AV} {Vs : List Value}, VRels f l Vs → VRels f l' Ws → VRels f (l ++ l') (Vs ++ Ws)
  | [], Vs, h, h' => by rw [VRels] at h; subst h; simpa using h'
  | v :: l, Vs, h, h' => by
    rw [VRels] at h
    obtain ⟨V, r, rfl, h1, h2⟩ := h
    exact VRels.cons h1 (VRels.app h2 h')
theorem VRels.take : ∀ (n : Nat) {l : List AV} {Vs : List Value}, VRels f l Vs → VRels f (l.take n) (Vs.take n)
  | 0, l, Vs, _ => by simp [VRels]
  | n + 1, [], Vs, h => by rw [VRels] at h; subst h; simp [VRels]
  | n + 1, v :: l, Vs, h => by
    rw [VRels] at h
    obtain ⟨V, r, rfl, h1, h2⟩ := h
    exact VRels.cons h1 (VRels.take n h2)
theorem VRels.drop : ∀ (n : Nat) {l : List AV} {Vs : List Value}, VRels f l Vs → VRels f (l.drop n) (Vs.drop n)
  | 0, l, Vs, h => by simpa using h
  | n + 1, [], Vs, h => by rw [VRels] at h; subst h; simp [VRels]
  | n + 1, v :: l, Vs, h => by
    rw [VRels] at h
    obtain ⟨V, r, rfl, h1, h2⟩ := h
    exact VRels.drop n h2
theorem VRels.set : ∀ (n : Nat) {l : List AV} {Vs : List Value} {v V}, VRels f l Vs → VRel f v V → VRels f (l.set n v) (Vs.set n V)
  | n, [], Vs, v, V, h, _ => by rw [VRels] at h; subst h; simp [VRels]
  | 0, u :: l, Vs, v, V, h, hv => by
    rw [VRels] at h
    obtain ⟨U, r, rfl, h1, h2⟩ := h
    exact VRels.cons hv h2
  | n + 1, u :: l, Vs, v, V, h, hv => by
    rw [VRels] at h
    obtain ⟨U, r, rfl, h1, h2⟩ := h
    exact VRels.cons h1 (VRels.set n h2 hv)
theorem VRels.rep {v V} (h : VRel f v V) : ∀ n, VRels f (List.replicate n v) (List.replicate n V)
  | 0 => by simp [VRels]
  | n + 1 => VRels.cons h (VRels.rep h n)
theorem VRels.flat_rep (h : VRels f l Vs) : ∀ n, VRels f (List.replicate n l).flatten (List.replicate n Vs).flatten
  | 0 => by simp [VRels]
  | n + 1 => by simpa [List.replicate_succ] using VRels.app h (VRels.flat_rep h n)
theorem VRels.nums (k : IntKind) : ∀ l : List Int, VRels f (l.map (AV.int k)) (l.map (Value.int k))
  | [] => VRels.nil
  | n :: l => VRels.cons (by simp [VRel]) (VRels.nums k l)
theorem VRels.of_nums {k : IntKind} : ∀ {l : List Int} {Vs : List Value}, VRels f (l.map (AV.int k)) Vs → Vs = l.map (Value.int k)
  | [], Vs, h => by simpa [VRels] using h
  | n :: l, Vs, h => by
    simp only [List.map_cons, VRels] at h
    obtain ⟨V, r, rfl, h1, h2⟩ := h
    rw [VRel] at h1
    rw [h1, VRels.of_nums h2]; rfl

/-- Under other numbers, and more blocks. -/
def RenOK (f g : FM) (s : Nat → Option Nat) : Prop := ∀ (i j : Nat) (x : Nat × Nat), s i = some j → f i = some x → g j = some x
mutual
theorem VRel.ren {s : Nat → Option Nat} (hs : RenOK f g s) : ∀ (v : AV) (v' : AV) (V : Value), v.ren s = some v' → VRel f v V → VRel g v' V
  | .junk, v', V, h, _ => by simp only [AV.ren, Option.some.injEq] at h; subst h; simp [VRel]
  | .bool b, v', V, h, hv => by simp only [AV.ren, Option.some.injEq] at h; subst h; simpa [VRel] using hv
  | .int k n, v', V, h, hv => by simp only [AV.ren, Option.some.injEq] at h; subst h; simpa [VRel] using hv
  | .str x, v', V, h, hv => by simp only [AV.ren, Option.some.injEq] at h; subst h; simpa [VRel] using hv
  | .nilp, v', V, h, hv => by simp only [AV.ren, Option.some.injEq] at h; subst h; simpa [VRel] using hv
  | .nilsl, v', V, h, hv => by simp only [AV.ren, Option.some.injEq] at h; subst h; simpa [VRel] using hv
  | .nilfn, v', V, h, hv => by simp only [AV.ren, Option.some.injEq] at h; subst h; simpa [VRel] using hv
  | .nilif, v', V, h, hv => by simp only [AV.ren, Option.some.injEq] at h; subst h; simpa [VRel] using hv
  | .nums k l, v', V, h, hv => by simp only [AV.ren, Option.some.injEq] at h; subst h; simpa [VRel] using hv
  | .ptr i off, v', V, h, hv => by
    simp only [AV.ren] at h
    split at h
    · rename_i j hj
      simp only [Option.some.injEq] at h; subst h
      rw [VRel] at hv ⊢
      obtain ⟨x, h1, h2⟩ := hv
      exact ⟨x, hs i j x hj h1, h2⟩
    · cases h
  | .sl i off base len esz lim, v', V, h, hv => by
    simp only [AV.ren] at h
    split at h
    · rename_i j hj
      simp only [Option.some.injEq] at h; subst h
      rw [VRel] at hv ⊢
      obtain ⟨x, cap, h1, h2⟩ := hv
      exact ⟨x, cap, hs i j x hj h1, h2⟩
    · cases h
  | .fn f' a c, v', V, h, hv => by
    simp only [AV.ren] at h
    split at h
    · rename_i a' c' ha hc
      simp only [Option.some.injEq] at h; subst h
      rw [VRel] at hv ⊢
      obtain ⟨A, D, h1, h2, h3⟩ := hv
      exact ⟨A, D, h1, VRels.ren hs _ _ _ ha h2, VRels.ren hs _ _ _ hc h3⟩
    · cases h
  | .agg l, v', V, h, hv => by
    simp only [AV.ren] at h
    split at h
    · rename_i l' hl
      simp only [Option.some.injEq] at h; subst h
      rw [VRel] at hv ⊢
      obtain ⟨A, h1, h2⟩ := hv
      exact ⟨A, h1, VRels.ren hs _ _ _ hl h2⟩
    · cases h
  | .tup l, v', V, h, hv => by
    simp only [AV.ren] at h
    split at h
    · rename_i l' hl
      simp only [Option.some.injEq] at h; subst h
      rw [VRel] at hv ⊢
      obtain ⟨A, h1, h2⟩ := hv
      exact ⟨A, h1, VRels.ren hs _ _ _ hl h2⟩
    · cases h
theorem VRels.ren {s : Nat → Option Nat} (hs : RenOK f g s) : ∀ (l l' : List AV) (Vs : List Value), renL s l = some l' → VRels f l Vs → VRels g l' Vs
  | [], l', Vs, h, hv => by simp only [renL, Option.some.injEq] at h; subst h; simpa [VRels] using hv
  | v :: l, l', Vs, h, hv => by
    simp only [renL] at h
    split at h
    · rename_i v' r' h1 h2
      simp only [Option.some.injEq] at h; subst h
      rw [VRels] at hv ⊢
      obtain ⟨V, r, rfl, h3, h4⟩ := hv
      exact ⟨V, r, rfl, VRel.ren hs _ _ _ h1 h3, VRels.ren hs _ _ _ h2 h4⟩
    · cases h
end
mutual
theorem VRel.mono (h : ∀ (i : Nat) (x : Nat × Nat), f i = some x → g i = some x) : ∀ (v : AV) (V : Value), VRel f v V → VRel g v V
  | .junk, V, _ => by simp [VRel]
  | .bool b, V, hv => by simpa [VRel] using hv
  | .int k n, V, hv => by simpa [VRel] using hv
  | .str x, V, hv => by simpa [VRel] using hv
  | .nilp, V, hv => by simpa [VRel] using hv
  | .nilsl, V, hv => by simpa [VRel] using hv
  | .nilfn, V, hv => by simpa [VRel] using hv
  | .nilif, V, hv => by simpa [VRel] using hv
  | .nums k l, V, hv => by simpa [VRel] using hv
  | .ptr i off, V, hv => by rw [VRel] at hv ⊢; obtain ⟨x, h1, h2⟩ := hv; exact ⟨x, h _ _ h1, h2⟩
  | .sl i off base len esz lim, V, hv => by rw [VRel] at hv ⊢; obtain ⟨x, cap, h1, h2⟩ := hv; exact ⟨x, cap, h _ _ h1, h2⟩
  | .fn f' a c, V, hv => by rw [VRel] at hv ⊢; obtain ⟨A, D, h1, h2, h3⟩ := hv; exact ⟨A, D, h1, VRels.mono h _ _ h2, VRels.mono h _ _ h3⟩
  | .agg l, V, hv => by rw [VRel] at hv ⊢; obtain ⟨A, h1, h2⟩ := hv; exact ⟨A, h1, VRels.mono h _ _ h2⟩
  | .tup l, V, hv => by rw [VRel] at hv ⊢; obtain ⟨A, h1, h2⟩ := hv; exact ⟨A, h1, VRels.mono h _ _ h2⟩
theorem VRels.mono (h : ∀ (i : Nat) (x : Nat × Nat), f i = some x → g i = some x) : ∀ (l : List AV) (Vs : List Value), VRels f l Vs → VRels g l Vs
  | [], Vs, hv => by simpa [VRels] using hv
  | v :: l, Vs, hv => by
    rw [VRels] at hv ⊢
    obtain ⟨V, r, rfl, h3, h4⟩ := hv
    exact ⟨V, r, rfl, VRel.mono h _ _ h3, VRels.mono h _ _ h4⟩
end
theorem VRel.pre (h : Sub f g) {v V} (hv : VRel f v V) : VRel g v V := VRel.mono h v V hv
theorem VRels.pre (h : Sub f g) (hv : VRels f l Vs) : VRels g l Vs := VRels.mono h l Vs hv

theorem VRel.one {v : AV} {V : Value} (h : VRel f v V) (h1 : v.one = true) : V.oneCell' = true ∧ V.cells = #[V] := by
  cases v <;> simp only [AV.one, Bool.false_eq_true] at h1 <;> rw [VRel] at h
  case bool | int | str | nilp | nilsl | nilfn | nilif => subst h; exact ⟨rfl, rfl⟩
  case ptr => obtain ⟨x, _, rfl⟩ := h; exact ⟨rfl, rfl⟩
  case sl => obtain ⟨x, c, _, _, _, _, rfl⟩ := h; exact ⟨rfl, rfl⟩
  case fn => obtain ⟨A, D, rfl, _, _⟩ := h; exact ⟨rfl, rfl⟩
/-- The cells of a value that is no tuple and no unknown one. -/
theorem VRel.cells {v : AV} {V : Value} (h : VRel f v V) (hv : v.isAgg = true ∨ v.one = true) : VRels f v.cells V.cells.toList := by
  rcases hv with hv | hv
  · cases v <;> simp only [AV.isAgg, Bool.false_eq_true] at hv <;> rw [VRel] at h
    case agg => obtain ⟨A, rfl, h⟩ := h; simpa [AV.cells, Value.cells] using h
    case nums => subst h; simpa [AV.cells, Value.cells] using VRels.nums _ _
  · have h2 := (h.one hv).2
    rw [h2]
    cases v <;> simp only [AV.one, Bool.false_eq_true] at hv <;> exact VRels.cons h VRels.nil
theorem plain_cases {v : AV} (h : v.plain = true) : v.isAgg = true ∨ v.one = true := by
  cases v <;> simp_all [AV.plain, AV.isAgg, AV.one]
theorem csize_cells : ∀ v : AV, v.cells.length = v.csize
  | .at o c => by simp [AV.cells, AV.csize, csize_cells c]
  | .agg _ | .nums _ _ => by simp [AV.cells, AV.csize]
  | .junk | .bool _ | .int _ _ | .str _ | .ptr _ _ | .nilp | .sl .. | .nilsl | .fn .. | .nilfn | .nilif | .tup _ => rfl
theorem allOne_mem : ∀ {l : List AV}, allOne l = true → ∀ (i : Nat) (v : AV), l[i]? = some v → v.one = true
  | [], _, i, v, hi => by simp at hi
  | u :: l, h, i, v, hi => by
    simp only [allOne, Bool.and_eq_true] at h
    cases i with
    | zero => simp at hi; subst hi; exact h.1
    | succ i => simp at hi; exact allOne_mem h.2 i v hi
theorem plain_one {v : AV} (h : v.plain = true) (i : Nat) (u : AV) (hi : v.cells[i]? = some u) : u.one = true := by
  cases v with
  | agg l => exact allOne_mem h i u hi
  | nums k l =>
    simp only [AV.cells, List.getElem?_map, Option.map_eq_some_iff] at hi
    obtain ⟨n, _, rfl⟩ := hi
    rfl
  | «at» o c => simp [AV.plain, AV.one] at h
  | _ =>
    cases i with
    | zero => simp [AV.cells] at hi; subst hi; first | exact h | (simp [AV.plain, AV.one] at h)
    | succ i => simp [AV.cells] at hi
end

/-! ### Blocks -/
def BK.mine : BK → Bool
  | .own | .grow => true
  | _ => false
def BRel (f : FM) (w : World) (b : Blk) (x : Nat × Nat) : Prop :=
  b.kind = .dead ∨ ∃ A t fz, w.heap[x.1]? = some (.cells A t fz) ∧ A.size = x.2 ∧ b.cells.mem3 = true ∧ (b.kind = .own → b.cells.csize = x.2) ∧ b.cells.csize ≤ x.2 ∧
    VRels f b.cells.cells (A.toList.take b.cells.csize) ∧ (b.kind.mine = true → ∀ o, o < x.2 → ¬(fz.1 ≤ o ∧ o < fz.2))
structure MRel (B : Nat) (f : FM) (M : Mem) (w : World) : Prop where
  dom : ∀ (i : Nat) (x : Nat × Nat), f i = some x → i < M.length
  tot : ∀ (i : Nat) (b : Blk), M[i]? = some b → b.kind ≠ .dead → ∃ x, f i = some x
  blk : ∀ (i : Nat) (b : Blk) (x : Nat × Nat), M[i]? = some b → f i = some x → BRel f w b x
  fresh : ∀ (i : Nat) (b : Blk) (x : Nat × Nat), M[i]? = some b → f i = some x → b.kind.mine = true → B ≤ x.1
  inj : ∀ (i j : Nat) (b c : Blk) (x y : Nat × Nat), M[i]? = some b → M[j]? = some c → f i = some x → f j = some y → i ≠ j → b.kind.mine = true → c.kind ≠ .dead → x.1 ≠ y.1
/-- Block b of memory is one that may be written. -/
def Owns (f : FM) (M : Mem) (b : Nat) : Prop := ∃ (i : Nat) (k : Blk) (x : Nat × Nat), M[i]? = some k ∧ k.kind.mine = true ∧ f i = some x ∧ x.1 = b
structure Went (f : FM) (M : Mem) (w : World) (f' : FM) (M' : Mem) (w' : World) : Prop where
  os : w'.os = w.os
  tape : w'.tape = w.tape
  output : w'.output = w.output
  size : w.heap.size ≤ w'.heap.size
  other : ∀ b, b < w.heap.size → ¬ Owns f M b → w'.heap[b]? = w.heap[b]?
  own : ∀ b, Owns f' M' b → Owns f M b ∨ w.heap.size ≤ b

section
variable {B : Nat} {f f' f'' : FM} {M M' M'' : Mem} {w w' w'' : World}
theorem Went.refl : Went f M w f M w := ⟨rfl, rfl, rfl, Nat.le_refl _, fun _ _ _ => rfl, fun _ h => .inl h⟩
theorem Went.trans (h : Went f M w f' M' w') (k : Went f' M' w' f'' M'' w'') : Went f M w f'' M'' w'' :=
  ⟨k.os.trans h.os, k.tape.trans h.tape, k.output.trans h.output, Nat.le_trans h.size k.size,
    fun b hb ho => (k.other b (Nat.lt_of_lt_of_le hb h.size) fun hc => (h.own b hc).elim ho (by omega)).trans (h.other b hb ho),
    fun b hb => (k.own b hb).elim (h.own b) fun hc => .inr (Nat.le_trans h.size hc)⟩
theorem Went.below (h : Went f M w f' M' w') (hm : MRel B f M w) (hB : B ≤ w.heap.size) : Below B w w' :=
  ⟨h.os, h.tape, h.output, h.size, fun b hb => h.other b (by omega) fun ⟨i, k, x, h1, h2, h3, h4⟩ => by have := hm.fresh i k x h1 h3 h2; omega⟩
theorem MRel.none (h : MRel B f M w) : f M.length = none := by
  cases hx : f M.length with
  | none => rfl
  | some x => exact absurd (h.dom _ _ hx) (Nat.lt_irrefl _)
theorem MRel.get (h : MRel B f M w) {i : Nat} {b : Blk} (hi : M[i]? = some b) (hk : b.kind ≠ .dead) : ∃ x, f i = some x ∧ BRel f w b x := by
  obtain ⟨x, hx⟩ := h.tot i b hi hk
  exact ⟨x, hx, h.blk i b x hi hx⟩
theorem MRel.drew (h : MRel B f M w) : MRel B f M w.drew := ⟨h.dom, h.tot, h.blk, h.fresh, h.inj⟩
theorem Went.drew : Went f M w f M w.drew := ⟨rfl, rfl, rfl, Nat.le_refl _, fun _ _ _ => rfl, fun _ h => .inl h⟩

theorem BRel.pre (h : Sub f f') {b x} (hb : BRel f w b x) : BRel f' w b x := by
  rcases hb with hb | ⟨A, t, fz, h1, h2, h3, h4, h5, h6, h7⟩
  · exact .inl hb
  · exact .inr ⟨A, t, fz, h1, h2, h3, h4, h5, h6.pre h, h7⟩
theorem BRel.heap {b x} (hb : BRel f w b x) (h : w'.heap[x.1]? = w.heap[x.1]?) : BRel f w' b x := by
  rcases hb with hb | ⟨A, t, fz, h1, h2⟩
  · exact .inl hb
  · exact .inr ⟨A, t, fz, by rw [h]; exact h1, h2⟩
theorem BRel.lt {b x} (hb : BRel f w b x) (hk : b.kind ≠ .dead) : x.1 < w.heap.size := by
  rcases hb with hb | ⟨A, t, fz, h1, _⟩
  · exact absurd hb hk
  · exact (Array.getElem?_eq_some_iff.1 h1).1

theorem getElem?_snoc {α : Type} {l : List α} {a y : α} {i : Nat} (h : (l ++ [a])[i]? = some y) : l[i]? = some y ∨ (i = l.length ∧ y = a) := by
  rcases Nat.lt_trichotomy i l.length with hi | hi | hi
  · rw [List.getElem?_append_left hi] at h; exact .inl h
  · subst hi; simp at h; exact .inr ⟨rfl, h.symm⟩
  · rw [List.getElem?_eq_none (by simp; omega)] at h; cases h
theorem lt_of_get {α : Type} {l : List α} {y : α} {i : Nat} (h : l[i]? = some y) : i < l.length := (List.getElem?_eq_some_iff.1 h).1
theorem not_dead_of_mine {k : BK} (h : k.mine = true) : k ≠ .dead := by cases k <;> simp_all [BK.mine]

/-- A new block. -/
theorem MRel.alloc (h : MRel B f M w) (hB : B ≤ w.heap.size) {c : AV} {kd : BK} {d : Bool} {A : Array Value} (t : TypeId) (hk : kd = .own ∨ kd = .grow) (ha : c.isAgg = true) (hs : kd = .own → c.csize = A.size) (hle : c.csize ≤ A.size) (hc : VRels f c.cells (A.toList.take c.csize)) :
    MRel B (upd f M.length (w.heap.size, A.size)) (M ++ [⟨c, kd, d⟩]) (w.alloc (.cells A t)) ∧ Went f M w (upd f M.length (w.heap.size, A.size)) (M ++ [⟨c, kd, d⟩]) (w.alloc (.cells A t)) := by
  have hmine : kd.mine = true := by rcases hk with rfl | rfl <;> rfl
  have hpre : Sub f (upd f M.length (w.heap.size, A.size)) := upd_sub h.none
  have old : ∀ (i : Nat) (b : Blk) (x : Nat × Nat), M[i]? = some b → upd f M.length (w.heap.size, A.size) i = some x → f i = some x := by
    intro i b x hi hx
    have := lt_of_get hi
    rwa [upd_ne _ _ (by omega)] at hx
  have new : ∀ (x : Nat × Nat), upd f M.length (w.heap.size, A.size) M.length = some x → x = (w.heap.size, A.size) := by
    intro x hx
    rw [upd_same] at hx
    exact (Option.some.inj hx).symm
  refine ⟨⟨fun i x hx => ?_, fun i b hi hd => ?_, ?_, ?_, ?_⟩, rfl, rfl, rfl, by simp, ?_, ?_⟩
  · by_cases e : i = M.length
    · subst e; simp
    · rw [upd_ne _ _ e] at hx
      have := h.dom i x hx
      simp; omega
  · rcases getElem?_snoc hi with hi | ⟨rfl, rfl⟩
    · obtain ⟨x, hx⟩ := h.tot i b hi hd
      exact ⟨x, hpre i x hx⟩
    · exact ⟨_, upd_same _ _ _⟩
  · intro i b x hi hx
    rcases getElem?_snoc hi with hi | ⟨rfl, rfl⟩
    · have hx' := old i b x hi hx
      have := h.blk i b x hi hx'
      by_cases hd : b.kind = .dead
      · exact .inl hd
      · exact (this.pre hpre).heap (Below.heap_alloc w _ _ (this.lt hd))
    · obtain rfl := new x hx
      exact .inr ⟨A, t, (0, 0), (MapKept.heap_alloc w _).1, rfl, isAgg_mem3 ha, hs, hle, hc.pre hpre, fun _ o _ => by simp⟩
  · intro i b x hi hx hm
    rcases getElem?_snoc hi with hi | ⟨rfl, rfl⟩
    · exact h.fresh i b x hi (old i b x hi hx) hm
    · obtain rfl := new x hx; exact hB
  · intro i j b k x y hi hj hx hy hij hm hd
    rcases getElem?_snoc hi with hi | ⟨rfl, rfl⟩ <;> rcases getElem?_snoc hj with hj | ⟨rfl, rfl⟩
    · exact h.inj i j b k x y hi hj (old i b x hi hx) (old j k y hj hy) hij hm hd
    · obtain rfl := new y hy
      have hx' := old i b x hi hx
      have := (h.blk i b x hi hx').lt (not_dead_of_mine hm)
      exact Nat.ne_of_lt this
    · obtain rfl := new x hx
      have hy' := old j k y hj hy
      have := (h.blk j k y hj hy').lt hd
      exact (Nat.ne_of_lt this).symm
    · exact absurd rfl hij
  · intro b hb _
    exact Below.heap_alloc w _ b hb
  · rintro b ⟨i, k, x, hi, hm, hx, rfl⟩
    rcases getElem?_snoc hi with hi | ⟨rfl, rfl⟩
    · exact .inl ⟨i, k, x, hi, hm, old i k x hi hx, rfl⟩
    · obtain rfl := new x hx; exact .inr (Nat.le_refl _)
end
end Go.Proofs.Ytfdhfhgljhnhlaa
/- The small machine's memory: loads and stores. No condition. -/
namespace Go.Proofs.Ytfdhfhgljhnhlaa
open Go Go.RowKit

theorem toInts_eq {k : IntKind} : ∀ {l : List AV} {r : List Int}, toInts k l = some r → l = r.map (AV.int k)
  | [], r, h => by simp only [toInts, Option.some.injEq] at h; subst h; rfl
  | v :: l, r, h => by
    unfold toInts at h
    split at h
    · simp at *
    · rename_i k' n l' heq
      obtain ⟨rfl, rfl⟩ := List.cons.inj heq
      split at h
      · rename_i hk
        subst hk
        split at h
        · rename_i q hq
          simp only [Option.some.injEq] at h; subst h
          rw [toInts_eq hq]; rfl
        · cases h
      · cases h
    · cases h

section
variable {f : FM}
theorem take_mid {α : Type} (l v : List α) (o n : Nat) (h : o + v.length ≤ n) (hn : n ≤ l.length) : (l.take o ++ (v ++ l.drop (o + v.length))).take n = (l.take n).take o ++ (v ++ (l.take n).drop (o + v.length)) := by
  have h1 : (l.take o).length = o := by simp; omega
  rw [List.take_append, List.take_append, h1, List.take_take, List.take_take, Nat.min_eq_right (by omega), Nat.min_eq_left (by omega),
    List.take_of_length_le (l := v) (by omega), List.drop_take, show n - o - v.length = n - (o + v.length) by omega]
theorem set_mid {α : Type} (l : List α) (o : Nat) (v : α) (h : o < l.length) : l.set o v = l.take o ++ ([v] ++ l.drop (o + 1)) := by
  rw [List.set_eq_take_append_cons_drop]; simp [h]
/-- What a store of a part does to the cells. -/
theorem putR_cells {c v c' : AV} {off : Nat} (h : c.putR off v = some c') :
    c'.isAgg = true ∧ off + v.csize ≤ c.csize ∧ c'.csize = c.csize ∧ c'.cells = c.cells.take off ++ (v.cells ++ c.cells.drop (off + v.csize)) ∧ (∀ (i : Nat) u, v.cells[i]? = some u → u.one = true) ∧ (v.isAgg = true ∨ v.one = true) ∧ c.isAgg = true := by
  cases c with
  | nums k l =>
    cases v with
    | int k' n =>
      simp only [AV.putR] at h
      split at h
      · rename_i hk; subst hk
        split at h
        · rename_i hl
          simp only [Option.some.injEq] at h; subst h
          have hl : off < l.length := by simpa using hl
          refine ⟨rfl, by simp [AV.csize]; omega, by simp [AV.csize], ?_, fun i u hi => plain_one (v := .int k n) rfl i u hi, .inr rfl, rfl⟩
          simp only [AV.cells, AV.csize]
          rw [set_mid l off n hl]; simp
        · cases h
      · cases h
    | nums k' l' =>
      simp only [AV.putR] at h
      split at h
      · rename_i hk; subst hk
        split at h
        · rename_i hl
          simp only [Option.some.injEq] at h; subst h
          have hl : off + l'.length ≤ l.length := by simpa using hl
          refine ⟨rfl, by simpa [AV.csize] using hl, by simp [AV.csize]; omega, by simp [AV.cells, AV.csize], fun i u hi => plain_one (v := .nums k l') rfl i u hi, .inl rfl, rfl⟩
        · cases h
      · cases h
    | _ => simp [AV.putR] at h
  | agg l =>
    have scalar : ∀ v : AV, v.one = true → (if v.one && Nat.blt off l.length then some (AV.agg (l.set off v)) else none) = some c' →
        c'.isAgg = true ∧ off + v.csize ≤ (AV.agg l).csize ∧ c'.csize = (AV.agg l).csize ∧ c'.cells = (AV.agg l).cells.take off ++ (v.cells ++ (AV.agg l).cells.drop (off + v.csize)) ∧ (∀ (i : Nat) u, v.cells[i]? = some u → u.one = true) ∧ (v.isAgg = true ∨ v.one = true) ∧ (AV.agg l).isAgg = true := by
      intro v hv h
      have hvc : v.cells = [v] ∧ v.csize = 1 ∧ v.plain = true := by cases v <;> simp_all [AV.one, AV.cells, AV.csize, AV.plain]
      split at h
      · rename_i hl
        simp only [Option.some.injEq] at h; subst h
        have hl : off < l.length := by simpa [hv] using hl
        refine ⟨rfl, by rw [hvc.2.1]; simp [AV.csize]; omega, by simp [AV.csize], ?_, plain_one hvc.2.2, .inr hv, rfl⟩
        rw [hvc.1, hvc.2.1]
        simp only [AV.cells]
        exact set_mid l off v hl
      · cases h
    cases v with
    | nums k' l' =>
      simp only [AV.putR] at h
      split at h
      · rename_i hl
        simp only [Option.some.injEq] at h; subst h
        have hl : off + l'.length ≤ l.length := by simpa using hl
        refine ⟨rfl, by simpa [AV.csize] using hl, by simp [AV.csize]; omega, by simp [AV.cells, AV.csize], fun i u hi => plain_one (v := .nums k' l') rfl i u hi, .inl rfl, rfl⟩
      · cases h
    | agg l' =>
      simp only [AV.putR] at h
      split at h
      · rename_i hl
        simp only [Option.some.injEq] at h; subst h
        have hl : allOne l' = true ∧ off + l'.length ≤ l.length := by simpa using hl
        refine ⟨rfl, by simpa [AV.csize] using hl.2, by simp [AV.csize]; omega, by simp [AV.cells, AV.csize], fun i u hi => plain_one (v := .agg l') hl.1 i u hi, .inl rfl, rfl⟩
      · cases h
    | junk => simp [AV.putR, AV.one] at h
    | tup l' => simp [AV.putR, AV.one] at h
    | «at» o c => simp [AV.putR, AV.one] at h
    | _ => exact scalar _ rfl h
  | _ => simp [AV.putR] at h

theorem at_drop {o : Nat} {c : AV} {L : List Value} (hL : VRels f (AV.at o c).cells L) : VRels f c.cells (L.drop o) := by
  have := hL.drop o
  simpa only [AV.cells, List.drop_append_of_le_length (Nat.le_of_eq (List.length_replicate (n := o) (a := AV.junk)).symm), List.drop_of_length_le (Nat.le_of_eq (List.length_replicate (n := o) (a := AV.junk))), List.nil_append] using this
/-- A part that is read. -/
theorem sub_rel {c v : AV} {off n : Nat} {ck : Option IntKind} (h : c.sub off n ck = some v) {L : List Value} (hL : VRels f c.cells L) :
    off + n ≤ c.csize ∧ v.isAgg = true ∧ v.csize = n ∧ VRel f v (.agg ((L.drop off).take n).toArray) ∧ v.cells = (c.cells.drop off).take n := by
  induction c using AV.cellInd generalizing off L with
  | «at» o c ih =>
    simp only [AV.sub] at h
    cases ho : Nat.ble o off with
    | false => rw [ho] at h; cases h
    | true =>
      rw [ho, cond_true] at h
      have ho : o ≤ off := by simpa using ho
      obtain ⟨h1, h2, h3, h4, h5⟩ := ih h (at_drop hL)
      refine ⟨by simp only [AV.csize]; omega, h2, h3, ?_, ?_⟩
      · rw [List.drop_drop, show o + (off - o) = off by omega] at h4; exact h4
      · rw [h5]
        simp only [AV.cells]
        rw [List.drop_append, List.drop_of_length_le (l := List.replicate o AV.junk) (by simpa using ho), List.nil_append, List.length_replicate]
  | nums k l =>
    simp only [AV.sub] at h
    split at h
    · rename_i hl
      simp only [Option.some.injEq] at h; subst h
      have hl : off + n ≤ l.length := by simpa using hl
      refine ⟨by simpa [AV.csize] using hl, rfl, by simp [AV.csize]; omega, ?_, by simp [AV.cells, List.map_take, List.map_drop]⟩
      rw [VRel, VRels.of_nums hL]
      simp [List.map_take, List.map_drop]
    · cases h
  | agg l =>
    simp only [AV.sub] at h
    split at h
    · rename_i hl
      have hl : off + n ≤ l.length := by simpa using hl
      have hd : VRels f ((l.drop off).take n) ((L.drop off).take n) := (hL.drop off).take n
      cases ck with
      | none =>
        simp only [Option.some.injEq] at h; subst h
        exact ⟨by simpa [AV.csize] using hl, rfl, by simp [AV.csize]; omega, by rw [VRel]; exact ⟨_, rfl, by simpa using hd⟩, rfl⟩
      | some k =>
        simp only at h
        split at h
        · rename_i r hr
          simp only [Option.some.injEq] at h; subst h
          have he := toInts_eq hr
          refine ⟨by simpa [AV.csize] using hl, rfl, ?_, ?_, by simp only [AV.cells]; exact he.symm⟩
          · have := congrArg List.length he
            simp at this
            simp [AV.csize]; omega
          · rw [he] at hd
            rw [VRel, VRels.of_nums hd]
        · cases h
    · cases h
  | other c hc => cases c <;> first | (simp [AV.sub] at h; done) | cases hc
theorem get_rel {c v : AV} {i : Nat} (h : c.get? i = some v) {L : List Value} (hL : VRels f c.cells L) : i < c.csize ∧ ∃ V, L[i]? = some V ∧ VRel f v V := by
  induction c using AV.cellInd generalizing i L with
  | «at» o c ih =>
    simp only [AV.get?] at h
    cases ho : Nat.ble o i with
    | false => rw [ho] at h; cases h
    | true =>
      rw [ho, cond_true] at h
      have ho : o ≤ i := by simpa using ho
      obtain ⟨h1, V, h2, h3⟩ := ih h (at_drop hL)
      refine ⟨by simp only [AV.csize]; omega, V, ?_, h3⟩
      rw [List.getElem?_drop, show o + (i - o) = i by omega] at h2; exact h2
  | nums k l =>
    simp only [AV.get?] at h
    split at h
    · rename_i n hn
      simp only [Option.some.injEq] at h; subst h
      exact ⟨by simpa [AV.csize] using lt_of_get hn, hL.get i (by simp [AV.cells, hn])⟩
    · cases h
  | agg l => exact ⟨by simpa [AV.csize] using lt_of_get h, hL.get i h⟩
  | other c hc => cases c <;> first | (simp [AV.get?] at h; done) | cases hc
end

/-! ### Addresses and cells -/
theorem addr_add (b off n : Nat) : (⟨b, off, none⟩ : Addr).add n = ⟨b, off + n, none⟩ := by unfold Addr.add; split <;> simp_all

section
variable {P : Program} {B : Nat} {f : FM} {M : Mem} {w : World}
/-- The cells of a living block. -/
theorem MRel.live (h : MRel B f M w) {i : Nat} {b : Blk} (hb : liveB M i = some b) : ∃ x A t fz, M[i]? = some b ∧ f i = some x ∧ w.heap[x.1]? = some (.cells A t fz) ∧ A.size = x.2 ∧ b.cells.mem3 = true ∧ (b.kind = .own → b.cells.csize = x.2) ∧ b.cells.csize ≤ x.2 ∧
    VRels f b.cells.cells (A.toList.take b.cells.csize) ∧ (b.kind.mine = true → ∀ o, o < x.2 → ¬(fz.1 ≤ o ∧ o < fz.2)) ∧ b.kind ≠ .dead := by
  unfold liveB at hb
  split at hb
  · rename_i b0 hi
    split at hb
    · cases hb
    · rename_i hk
      simp only [Option.some.injEq] at hb; subst hb
      have hk : b0.kind ≠ .dead := hk
      obtain ⟨x, hx, hr⟩ := h.get hi hk
      rcases hr with hr | ⟨A, t, fz, h1⟩
      · exact absurd hr hk
      · exact ⟨x, A, t, fz, hi, hx, h1.1, h1.2.1, h1.2.2.1, h1.2.2.2.1, h1.2.2.2.2.1, h1.2.2.2.2.2.1, h1.2.2.2.2.2.2, hk⟩
  · cases hb
theorem own_live {i : Nat} {b : Blk} (h : ownB M i = some b) : liveB M i = some b ∧ b.kind.mine = true := by
  unfold ownB at h
  unfold liveB
  cases hm : M[i]? with
  | none => simp [hm] at h
  | some b0 =>
    simp only [hm] at h ⊢
    cases hk : b0.kind <;> simp only [hk] at h ⊢
    · cases h
    · cases h
    · simp only [Option.some.injEq] at h; subst h; exact ⟨rfl, by simp [hk, BK.mine]⟩
    · simp only [Option.some.injEq] at h; subst h; exact ⟨rfl, by simp [hk, BK.mine]⟩

theorem take_drop_le {α : Type} (l : List α) (c off n : Nat) (h : off + n ≤ c) : ((l.take c).drop off).take n = (l.drop off).take n := by
  rw [List.drop_take, List.take_take, Nat.min_eq_left (by omega)]
theorem run_loadCells_mid {b : Nat} {A : Array Value} {t : TypeId} {fz : Nat × Nat} (hw : w.heap[b]? = some (.cells A t fz)) (off n : Nat) (hn : off + n ≤ A.size) :
    (loadCells ⟨b, off, none⟩ n).run P w = .ok ((A.toList.drop off).take n).toArray w := by
  have h1 : ((A.toList.drop off).take n).length = n := by simp; omega
  have h2 := run_loadCells_list (P := P) w ⟨b, off, none⟩ ((A.toList.drop off).take n) (fun j v hv => by
    rw [addr_add, cell_of_row w b (off + j) A t fz hw]
    have hj : j < n := by rw [← h1]; exact lt_of_get hv
    rw [List.getElem?_take_of_lt hj, List.getElem?_drop] at hv
    simpa using hv)
  rwa [h1] at h2
theorem run_isAgg {ty : TypeId} {d : TypeDesc} (hu : P.underlying ty = some d) : (isAgg ty).run P w = .ok (isAggD d) w := by
  unfold isAgg
  rw [Sem.run_bind, run_underlying hu w]
  cases d <;> rfl
theorem kindT_spec {ty : TypeId} {k : Option (Nat × Option IntKind)} (h : kindT P ty = some k) : ∃ d i, P.underlying ty = some d ∧ P.info? ty = some i ∧ ((k = none ∧ isAggD d = false) ∨ (∃ ck, k = some (i.size, ck) ∧ isAggD d = true)) := by
  unfold kindT at h
  split at h
  · rename_i d i hd hi
    refine ⟨d, i, hd, hi, ?_⟩
    cases ha : isAggD d with
    | false => simp only [ha, cond_false, Option.some.injEq] at h; exact .inl ⟨h.symm, rfl⟩
    | true =>
      simp only [ha, cond_true] at h
      split at h
      · split at h
        · simp only [Option.some.injEq] at h; exact .inr ⟨_, h.symm, rfl⟩
        · cases h
      · cases h
  · cases h
/-- A variable is read. -/
theorem run_load_part (h : MRel B f M w) {i off : Nat} {b : Blk} {ty : TypeId} {k : Option (Nat × Option IntKind)} {v : AV} (hk : kindT P ty = some k) (hb : liveB M i = some b) (hv : b.cells.part off k = some v) {V : Value} (hp : VRel f (.ptr i off) V) :
    ∃ U, (Instr.loadAt ty V).run P w = .ok U w ∧ VRel f v U := by
  obtain ⟨x, A, t, fz, hi, hx, hw, hs, ha, ho, hle, hc, hfz, hd⟩ := h.live hb
  rw [VRel] at hp
  obtain ⟨y, hy, rfl⟩ := hp
  obtain rfl : x = y := by rw [hx] at hy; exact Option.some.inj hy
  obtain ⟨d, inf, hu, hinf, hk⟩ := kindT_spec hk
  rcases hk with ⟨rfl, hag⟩ | ⟨ck, rfl, hag⟩
  · obtain ⟨hlt, U, hU, hvU⟩ := get_rel (f := f) hv hc
    refine ⟨U, ?_, hvU⟩
    have hcell : w.cell? ⟨x.1, off, none⟩ = some U := by
      rw [cell_of_row w x.1 off A t fz hw]
      rw [List.getElem?_take_of_lt hlt] at hU
      simpa using hU
    simp [Instr.loadAt, Instr.sureAddr, loadVar, run_isAgg hu, hag, hcell]
  · obtain ⟨hle2, _, _, hvU, _⟩ := sub_rel (f := f) hv hc
    refine ⟨_, ?_, hvU⟩
    rw [take_drop_le _ _ _ _ hle2]
    simp [Instr.loadAt, Instr.sureAddr, loadVar, run_isAgg hu, hag, sizeOf, typeInfo, hinf, run_loadCells_mid (P := P) hw off inf.size (by omega)]

/-! ### Stores -/
theorem heap_set_here {b : Nat} {A : Array Value} {t : TypeId} {fz : Nat × Nat} (hw : w.heap[b]? = some (.cells A t fz)) (o : Nat) (V : Value) :
    (w.setCell ⟨b, o, none⟩ V).heap[b]? = some (.cells (A.setIfInBounds o V) t fz) := by
  simp [World.setCell, Array.getElem?_modify, hw]
def setL : List Value → Nat → List Value → List Value
  | L, _, [] => L
  | L, o, v :: r => setL (L.set o v) (o + 1) r
theorem setL_mid : ∀ (vs L : List Value) (o : Nat), o + vs.length ≤ L.length → setL L o vs = L.take o ++ (vs ++ L.drop (o + vs.length))
  | [], L, o, _ => by simp [setL]
  | v :: r, L, o, h => by
    simp only [List.length_cons] at h
    rw [setL, setL_mid r _ _ (by simp; omega), List.drop_set_of_lt (by omega), List.take_add_one,
      List.take_set_of_le (by omega), List.getElem?_set_self (by omega)]
    simp [Nat.add_assoc, Nat.add_comm 1 r.length]
theorem run_storeCells {b t : Nat} {fz : Nat × Nat} (off : Nat) : ∀ (vs : List Value) (i : Nat) (w : World) (A : Array Value), w.heap[b]? = some (.cells A t fz) → off + i + vs.length ≤ A.size →
    (∀ v ∈ vs, v.oneCell' = true) → (∀ o, o < A.size → ¬(fz.1 ≤ o ∧ o < fz.2)) →
    ∃ w' A', (storeCells ⟨b, off, none⟩ vs i).run P w = .ok () w' ∧ w'.heap[b]? = some (.cells A' t fz) ∧ A'.toList = setL A.toList (off + i) vs ∧ (∀ k, k ≠ b → w'.heap[k]? = w.heap[k]?) ∧ w'.heap.size = w.heap.size ∧ w'.os = w.os ∧ w'.tape = w.tape ∧ w'.output = w.output
  | [], i, w, A, hw, _, _, _ => ⟨w, A, by simp [storeCells], hw, by simp [setL], fun _ _ => rfl, rfl, rfl, rfl, rfl⟩
  | v :: r, i, w, A, hw, hle, h1, hz => by
    simp only [List.length_cons] at hle
    have hv := h1 v (by simp)
    have hcell : ∃ u, w.cell? ⟨b, off + i, none⟩ = some u := by rw [cell_of_row w b (off + i) A t fz hw]; exact ⟨A[off + i], by simp⟩
    obtain ⟨u, hu⟩ := hcell
    have hfr : w.frozen? ⟨b, off + i, none⟩ = false := by
      have := hz (off + i) (by omega)
      simp only [World.frozen?, hw]
      simp; omega
    obtain ⟨w', A', h2, h3, h4, h5, h6, h7, h8, h9⟩ := run_storeCells off r (i + 1) (w.setCell ⟨b, off + i, none⟩ v) (A.setIfInBounds (off + i) v) (heap_set_here hw _ _) (by simp; omega) (fun u hu => h1 u (by simp [hu])) (fun o ho => hz o (by simpa using ho))
    refine ⟨w', A', ?_, h3, ?_, fun k hk => (h5 k hk).trans (Below.heap_setCell w _ v k hk), ?_, h7, h8, h9⟩
    · simp only [storeCells, addr_add, Sem.run_bind, run_store P w _ v _ hv, hu, hfr, Bool.false_eq_true, if_false, Result.andThen_ok]
      exact h2
    · rw [h4, setL]
      simp [Nat.add_assoc]
    · rw [h6]; simp [World.setCell]

/-- A block is written. -/
theorem MRel.store (h : MRel B f M w) {i : Nat} {b : Blk} {x : Nat × Nat} {w' : World} {c : AV} {kd : BK} {A : Array Value} {t : TypeId} {fz : Nat × Nat} (hi : M[i]? = some b) (hx : f i = some x) (hm : b.kind.mine = true) (hkd : kd = b.kind)
    (ha : c.isAgg = true) (hbs : b.kind = .own → c.csize = x.2) (hle : c.csize ≤ x.2) (hw : w'.heap[x.1]? = some (.cells A t fz)) (hA : A.size = x.2) (hc : VRels f c.cells (A.toList.take c.csize)) (hfz : ∀ o, o < x.2 → ¬(fz.1 ≤ o ∧ o < fz.2))
    (ho : ∀ k, k ≠ x.1 → w'.heap[k]? = w.heap[k]?) (hs : w'.heap.size = w.heap.size) (e1 : w'.os = w.os) (e2 : w'.tape = w.tape) (e3 : w'.output = w.output) :
    MRel B f (M.set i ⟨c, kd, true⟩) w' ∧ Went f M w f (M.set i ⟨c, kd, true⟩) w' := by
  subst hkd
  have hil := lt_of_get hi
  have old : ∀ (j : Nat) (k : Blk), (M.set i ⟨c, b.kind, true⟩)[j]? = some k → (j = i ∧ k = ⟨c, b.kind, true⟩) ∨ (j ≠ i ∧ M[j]? = some k) := by
    intro j k hj
    by_cases hji : j = i
    · subst hji
      rw [List.getElem?_set_self hil] at hj
      exact .inl ⟨rfl, (Option.some.inj hj).symm⟩
    · rw [List.getElem?_set_ne (Ne.symm hji)] at hj
      exact .inr ⟨hji, hj⟩
  refine ⟨⟨fun j y hy => by simpa using h.dom j y hy, fun j k hj hd => ?_, ?_, ?_, ?_⟩, e1, e2, e3, Nat.le_of_eq hs.symm, ?_, ?_⟩
  · rcases old j k hj with ⟨rfl, rfl⟩ | ⟨hji, hj⟩
    · exact ⟨x, hx⟩
    · exact h.tot j k hj hd
  · intro j k y hj hy
    rcases old j k hj with ⟨rfl, rfl⟩ | ⟨hji, hj⟩
    · obtain rfl : x = y := by rw [hx] at hy; exact Option.some.inj hy
      exact .inr ⟨A, t, fz, hw, hA, isAgg_mem3 ha, hbs, hle, hc, fun _ => hfz⟩
    · by_cases hd : k.kind = .dead
      · exact .inl hd
      · exact (h.blk j k y hj hy).heap (ho _ ((h.inj i j b k x y hi hj hx hy (Ne.symm hji) hm hd).symm))
  · intro j k y hj hy hmk
    rcases old j k hj with ⟨rfl, rfl⟩ | ⟨hji, hj⟩
    · exact h.fresh j b y hi hy hm
    · exact h.fresh j k y hj hy hmk
  · intro j j' k k' y y' hj hj' hy hy' hne hmk hd
    rcases old j k hj with ⟨e1, e2⟩ | ⟨hji, hq⟩ <;> rcases old j' k' hj' with ⟨e3, e4⟩ | ⟨hji', hq'⟩
    · exact absurd (e1.trans e3.symm) hne
    · subst e1; exact h.inj j j' b k' y y' hi hq' hy hy' hne hm hd
    · subst e3; exact h.inj j j' k b y y' hq hi hy hy' hne hmk (not_dead_of_mine hm)
    · exact h.inj j j' k k' y y' hq hq' hy hy' hne hmk hd
  · intro k _ hk
    exact ho k fun e => hk ⟨i, b, x, hi, hm, hx, e.symm⟩
  · rintro k ⟨j, b', y, hj, hmj, hy, rfl⟩
    rcases old j b' hj with ⟨rfl, rfl⟩ | ⟨hji, hj⟩
    · exact .inl ⟨j, b, y, hi, hm, hy, rfl⟩
    · exact .inl ⟨j, b', y, hj, hmj, hy, rfl⟩

theorem mem_of_cells {v : AV} {V : Value} (h : VRel f v V) (hv : v.isAgg = true ∨ v.one = true) (h1 : ∀ (i : Nat) u, v.cells[i]? = some u → u.one = true) : ∀ U ∈ V.cells.toList, U.oneCell' = true := by
  intro U hU
  obtain ⟨i, hi⟩ := List.getElem?_of_mem hU
  have hc := h.cells hv
  have hl := hc.length
  obtain ⟨u, hu⟩ : ∃ u, v.cells[i]? = some u := ⟨v.cells[i]'(by rw [hl]; exact lt_of_get hi), by simp⟩
  obtain ⟨U', hU', hr⟩ := hc.get i hu
  rw [hi] at hU'
  obtain rfl := Option.some.inj hU'
  exact (hr.one (h1 i u hu)).1

/-- A part of a block is written. -/
theorem run_store_part (h : MRel B f M w) {i off : Nat} {b : Blk} {v c : AV} (hb : ownB M i = some b) (hc : b.cells.putR off v = some c) {x : Nat × Nat} (hx : f i = some x) {V : Value} (hV : VRel f v V) :
    ∃ w', (storeCells ⟨x.1, off, none⟩ V.cells.toList).run P w = .ok () w' ∧ MRel B f (M.set i ⟨c, b.kind, true⟩) w' ∧ Went f M w f (M.set i ⟨c, b.kind, true⟩) w' := by
  obtain ⟨hb, hm⟩ := own_live hb
  obtain ⟨y, A, t, fz, hi, hy, hw, hs, ha, ho, hle, hcs, hfz, hd⟩ := h.live hb
  obtain rfl : x = y := by rw [hx] at hy; exact Option.some.inj hy
  obtain ⟨ha', hle', hcs', hcc, h1, hag, _⟩ := putR_cells hc
  have hVc := hV.cells hag
  have hlen : V.cells.toList.length = v.csize := by rw [← hVc.length, csize_cells]
  obtain ⟨w', A', r1, r2, r3, r4, r5, r6, r7, r8⟩ := run_storeCells (P := P) off V.cells.toList 0 w A hw (by simp only [Nat.add_zero]; rw [hlen, hs]; omega) (mem_of_cells hV hag h1) (fun o ho => hfz hm o (by omega))
  have hsz : A'.toList.length = A.toList.length := by
    rw [r3, setL_mid _ _ _ (by simp only [Nat.add_zero, hlen, Array.length_toList, hs]; omega)]
    simp only [Nat.add_zero, List.length_append, List.length_take, List.length_drop, hlen, Array.length_toList, hs]; omega
  refine ⟨w', r1, h.store hi hx hm rfl ha' (fun hk => hcs'.trans (ho hk)) (by rw [hcs']; exact hle) r2 (by simpa [hs] using hsz) ?_ (hfz hm) r4 r5 r6 r7 r8⟩
  rw [r3, setL_mid _ _ _ (by simp only [Nat.add_zero, hlen, Array.length_toList, hs]; omega), hcs', hcc]
  simp only [Nat.add_zero]
  rw [take_mid _ _ _ _ (by rw [hlen]; exact hle') (by simp [hs]; exact hle), hlen]
  exact (hcs.take off).app (hVc.app (hcs.drop _))
end
end Go.Proofs.Ytfdhfhgljhnhlaa
/- Each operation of the small machine stands for what the program's operation does: those that touch no function. No condition. -/
namespace Go.Proofs.Ytfdhfhgljhnhlaa
open Go Go.RowKit

section
variable {P : Program} {B : Nat} {f : FM} {M M' : Mem} {w : World} {ρ : Operand → Value} {o : Oper} {v : AV}
def Ran (P : Program) (ρ : Operand → Value) (o : Oper) (w : World) (V : Value) (w' : World) : Prop :=
  (execOp ρ o).run P w = .ok (.value V) w' ∨ ((execOp ρ o).run P w = .ok .skip w' ∧ V = undef)
def Fine (P : Program) (ρ : Operand → Value) (o : Oper) (w : World) (B : Nat) (f : FM) (M : Mem) (v : AV) (M' : Mem) : Prop :=
  ∃ V w' f', Ran P ρ o w V w' ∧ Sub f f' ∧ MRel B f' M' w' ∧ VRel f' v V ∧ Went f M w f' M' w' ∧ (f' = f ∨ ∃ x, f' = upd f M.length x)
theorem Fine.same (hm : MRel B f M w) {V : Value} (h : (execOp ρ o).run P w = .ok (.value V) w) (hv : VRel f v V) : Fine P ρ o w B f M v M :=
  ⟨V, w, f, .inl h, Sub.refl _, hm, hv, Went.refl, .inl rfl⟩

theorem rels1 {a : AV} {Vs : List Value} (h : VRels f [a] Vs) : ∃ A, Vs = [A] ∧ VRel f a A := by
  rw [VRels] at h
  obtain ⟨A, r, rfl, h1, h2⟩ := h
  rw [VRels] at h2; subst h2
  exact ⟨A, rfl, h1⟩
theorem rels2 {a b : AV} {Vs : List Value} (h : VRels f [a, b] Vs) : ∃ A B, Vs = [A, B] ∧ VRel f a A ∧ VRel f b B := by
  rw [VRels] at h
  obtain ⟨A, r, rfl, h1, h2⟩ := h
  obtain ⟨B, rfl, h3⟩ := rels1 h2
  exact ⟨A, B, rfl, h1, h3⟩
theorem rels3 {a b c : AV} {Vs : List Value} (h : VRels f [a, b, c] Vs) : ∃ A B C, Vs = [A, B, C] ∧ VRel f a A ∧ VRel f b B ∧ VRel f c C := by
  rw [VRels] at h
  obtain ⟨A, r, rfl, h1, h2⟩ := h
  obtain ⟨B, C, rfl, h3, h4⟩ := rels2 h2
  exact ⟨A, B, C, rfl, h1, h3, h4⟩

/-! ### Constants -/
theorem scal_rel {V : Value} {a : AV} (h : scal V = some a) : VRel f a V ∧ a.one = true := by
  unfold scal at h
  split at h <;> first | cases h; done | (simp only [Option.some.injEq] at h; subst h; first | exact ⟨by simp [VRel], rfl⟩ | skip)
theorem scalL_rel : ∀ {Vs : List Value} {l : List AV}, scalL Vs = some l → VRels f l Vs
  | [], l, h => by simp only [scalL, Option.some.injEq] at h; subst h; exact VRels.nil
  | V :: Vs, l, h => by
    simp only [scalL] at h
    split at h
    · rename_i a r h1 h2
      simp only [Option.some.injEq] at h; subst h
      exact VRels.cons (scal_rel h1).1 (scalL_rel h2)
    · cases h
theorem aggOf_rel {l : List AV} {A : Array Value} (h : VRels f l A.toList) : VRel f (aggOf l) (.agg A) ∧ (aggOf l).isAgg = true := by
  unfold aggOf
  split
  · split
    · rename_i q hq
      have := toInts_eq hq
      rw [this] at h
      refine ⟨?_, rfl⟩
      rw [VRel, ← VRels.of_nums h]
    · exact ⟨by rw [VRel]; exact ⟨A, rfl, h⟩, rfl⟩
  · exact ⟨by rw [VRel]; exact ⟨A, rfl, h⟩, rfl⟩
theorem ofVal_rel {V : Value} {a : AV} (h : ofVal V = some a) : VRel f a V ∧ (a.isAgg = true ∨ a.one = true) := by
  unfold ofVal at h
  split at h
  · split at h
    · rename_i l hl
      simp only [Option.some.injEq] at h; subst h
      have := aggOf_rel (f := f) (scalL_rel (f := f) hl)
      exact ⟨this.1, .inl this.2⟩
    · cases h
  · have := scal_rel (f := f) h
    exact ⟨this.1, .inr this.2⟩
theorem zeroT_rel {ty : TypeId} {z : AV} (h : zeroT P ty = some z) : ∃ i V, P.info? ty = some i ∧ i.zero = some V ∧ VRel f z V ∧ (z.isAgg = true ∨ z.one = true) := by
  unfold zeroT at h
  split at h
  · rename_i i hi
    split at h
    · rename_i V hV
      have := ofVal_rel (f := f) h
      exact ⟨i, V, hi, hV, this.1, this.2⟩
    · cases h
  · cases h
theorem sizeT_spec {ty : TypeId} {n : Nat} (h : sizeT P ty = some n) : ∃ i, P.info? ty = some i ∧ i.size = n := by
  unfold sizeT at h
  split at h
  · rename_i i hi; simp only [Option.some.injEq] at h; exact ⟨i, hi, h⟩
  · cases h
theorem bytesT_spec {ty : TypeId} {n : Nat} (h : bytesT P ty = some n) : ∃ i, P.info? ty = some i ∧ i.bytes = n := by
  unfold bytesT at h
  split at h
  · rename_i i hi; simp only [Option.some.injEq] at h; exact ⟨i, hi, h⟩
  · cases h
theorem run_sizeOf {ty : TypeId} {n : Nat} (h : sizeT P ty = some n) : (sizeOf ty).run P w = .ok n w := by
  obtain ⟨i, hi, rfl⟩ := sizeT_spec h
  simp [sizeOf, typeInfo, hi]
theorem run_zeroValue {ty : TypeId} {i : TypeInfo} {V : Value} (hi : P.info? ty = some i) (hz : i.zero = some V) : (zeroValue ty).run P w = .ok V w := by
  simp [zeroValue, typeInfo, hi, hz]
/-- What a variable of the value holds. -/
theorem block_rel {a c : AV} {V : Value} (h : a.block = some c) (hv : VRel f a V) : c.isAgg = true ∧ VRels f c.cells V.cells.toList ∧ c.csize = V.cells.size := by
  have fin : c.isAgg = true → VRels f c.cells V.cells.toList → c.isAgg = true ∧ VRels f c.cells V.cells.toList ∧ c.csize = V.cells.size := fun h1 h2 => ⟨h1, h2, by rw [← csize_cells, h2.length, Array.length_toList]⟩
  cases a with
  | agg l => simp only [AV.block, Option.some.injEq] at h; subst h; exact fin rfl (hv.cells (.inl rfl))
  | nums k l => simp only [AV.block, Option.some.injEq] at h; subst h; exact fin rfl (hv.cells (.inl rfl))
  | junk => cases h
  | tup l => cases h
  | «at» o c => cases h
  | _ => simp only [AV.block, Option.some.injEq] at h; subst h; exact fin rfl (hv.cells (.inr rfl))

/-! ### New blocks -/
theorem alloc_fine (hm : MRel B f M w) (hB : B ≤ w.heap.size) {c : AV} {A : Array Value} {t : TypeId} {kd : BK} {d : Bool} (hk : kd = .own ∨ kd = .grow) (ha : c.isAgg = true) (hs : kd = .own → c.csize = A.size) (hle : c.csize ≤ A.size) (hc : VRels f c.cells (A.toList.take c.csize)) {V : Value}
    (hr : (execOp ρ o).run P w = .ok (.value V) (w.alloc (.cells A t))) (hv : VRel (upd f M.length (w.heap.size, A.size)) v V) : Fine P ρ o w B f M v (M ++ [⟨c, kd, d⟩]) := by
  obtain ⟨h1, h2⟩ := hm.alloc (d := d) hB t hk ha hs hle hc
  exact ⟨V, _, _, .inl hr, upd_sub hm.none, h1, hv, h2, .inr ⟨_, rfl⟩⟩
theorem new_get (hm : MRel B f M w) (x : Nat × Nat) : upd f M.length x M.length = some x := upd_same _ _ _
theorem take_all {l : List Value} {n : Nat} (h : n = l.length) : l.take n = l := by subst h; simp
theorem fine_alloc (hm : MRel B f M w) (hB : B ≤ w.heap.size) {ty : TypeId} (ho : o.op = .alloc ty) {z c : AV} (hz : zeroT P ty = some z) (hc : z.block = some c) : Fine P ρ o w B f M (.ptr M.length 0) (M ++ [⟨c, .own, false⟩]) := by
  obtain ⟨i, V, hi, hV, hr, _⟩ := zeroT_rel (f := f) hz
  obtain ⟨h1, h2, h3⟩ := block_rel hc hr
  refine alloc_fine hm hB (A := V.cells) (t := ty) (V := .pointer (some ⟨w.heap.size, 0, none⟩)) (.inl rfl) h1 (fun _ => h3) (Nat.le_of_eq h3) (by rw [h3, take_all (by simp)]; exact h2) ?_ ?_
  · simp [execOp, ho, Instr.alloc, run_zeroValue hi hV, newVar, newRow]
  · rw [VRel]; exact ⟨_, new_get hm _, rfl⟩
theorem fine_box (hm : MRel B f M w) (hB : B ≤ w.heap.size) {ty : TypeId} {x : Operand} (ho : o.op = .box ty x) {a c : AV} (hr : VRel f a (ρ x)) (hc : a.block = some c) : Fine P ρ o w B f M (.ptr M.length 0) (M ++ [⟨c, .own, false⟩]) := by
  obtain ⟨h1, h2, h3⟩ := block_rel hc hr
  refine alloc_fine hm hB (A := (ρ x).cells) (t := ty) (V := .pointer (some ⟨w.heap.size, 0, none⟩)) (.inl rfl) h1 (fun _ => h3) (Nat.le_of_eq h3) (by rw [h3, take_all (by simp)]; exact h2) ?_ ?_
  · simp [execOp, ho, Instr.box, newVar, newRow]
  · rw [VRel]; exact ⟨_, new_get hm _, rfl⟩

/-! ### Loads, stores, addresses -/
theorem fine_load (hm : MRel B f M w) {ty : TypeId} {x : Operand} (ho : o.op = .load ty x) {k : Option (Nat × Option IntKind)} (hk : kindT P ty = some k) {i off : Nat} {b : Blk} (hr : VRel f (.ptr i off) (ρ x)) (hb : liveB M i = some b) (hv : b.cells.part off k = some v) : Fine P ρ o w B f M v M := by
  obtain ⟨U, h1, h2⟩ := run_load_part (P := P) hm hk hb hv hr
  exact Fine.same hm (by simp [execOp, ho, h1]) h2
theorem fine_store (hm : MRel B f M w) {ty : TypeId} {x y : Operand} (ho : o.op = .store ty x y) {n : Nat} (hn : sizeT P ty = some n) {i off : Nat} {b : Blk} {a c : AV} (hr : VRel f (.ptr i off) (ρ x)) (ha : VRel f a (ρ y)) (hb : ownB M i = some b) (hs : a.csize = n) (hp : a.plain = true) (hc : b.cells.putR off a = some c) :
    Fine P ρ o w B f M undefA (M.set i ⟨c, b.kind, true⟩) := by
  rw [VRel] at hr
  obtain ⟨z, hz, hr⟩ := hr
  obtain ⟨w', h1, h2, h3⟩ := run_store_part (P := P) hm hb hc hz ha
  have hl : (ρ y).cells.size = n := by
    have := (ha.cells (plain_cases hp)).length
    rw [csize_cells] at this
    rw [← hs, this]; simp
  refine ⟨undef, w', f, .inr ⟨?_, rfl⟩, Sub.refl _, h2, by rw [undefA, VRel]; exact ⟨#[], rfl, by simp [VRels]⟩, h3, .inl rfl⟩
  simp [execOp, ho, Instr.storeAt, hr, Instr.sureAddr, storeVar, run_sizeOf hn, hl, h1]
theorem fine_padd (hm : MRel B f M w) {ty : TypeId} {x : Operand} {j : Nat} (ho : o.op = .fieldAddr ty x j) {fs : Array Field} (hu : P.underlying ty = some (.struct fs)) {fd : Field} (hf : fs[j]? = some fd) {n : Nat} (hn : sizeT P fd.type = some n) (h0 : 0 < n) {i off : Nat} (hr : VRel f (.ptr i off) (ρ x)) :
    Fine P ρ o w B f M (.ptr i (off + fd.offset)) M := by
  rw [VRel] at hr
  obtain ⟨z, hz, hr⟩ := hr
  refine Fine.same hm (V := .pointer (some ⟨z.1, off + fd.offset, none⟩)) ?_ (by rw [VRel]; exact ⟨z, hz, rfl⟩)
  simp [execOp, ho, Instr.fieldAt, run_underlying hu, hf, hr, Instr.sureAddr, fieldPlace, run_sizeOf hn, Nat.ne_of_gt h0, addr_add]
theorem fine_nilchk (hm : MRel B f M w) {x : Operand} (ho : o.op = .nilCheck x) (hv : (∃ i off, v = .ptr i off) ∨ (∃ g a c, v = .fn g a c)) (hr : VRel f v (ρ x)) : Fine P ρ o w B f M v M := by
  refine Fine.same hm (V := ρ x) ?_ hr
  rcases hv with ⟨i, off, rfl⟩ | ⟨g, a, c, rfl⟩
  · rw [VRel] at hr
    obtain ⟨z, _, hr⟩ := hr
    simp [execOp, ho, hr]
  · rw [VRel] at hr
    obtain ⟨A, D, hr, _, _⟩ := hr
    simp [execOp, ho, hr]
theorem run_part {ty : TypeId} {k : Option (Nat × Option IntKind)} (hk : kindT P ty = some k) {c : AV} {off : Nat} (hv : c.part off k = some v) {A : Array Value} (hA : VRels f c.cells A.toList) : ∃ U, (part ty A off).run P w = .ok U w ∧ VRel f v U := by
  obtain ⟨d, inf, hu, hinf, hk⟩ := kindT_spec hk
  rcases hk with ⟨rfl, hag⟩ | ⟨ck, rfl, hag⟩
  · obtain ⟨_, U, hU, hvU⟩ := get_rel (f := f) hv hA
    have hU' : A[off]? = some U := by simpa using hU
    exact ⟨U, by simp [part, run_isAgg hu, hag, hU'], hvU⟩
  · obtain ⟨hle, _, _, hvU, _⟩ := sub_rel (f := f) hv hA
    refine ⟨_, ?_, hvU⟩
    have hsz : A.size = c.csize := by rw [← csize_cells, hA.length, Array.length_toList]
    have : A.extract off (off + inf.size) = ((A.toList.drop off).take inf.size).toArray := by
      apply Array.ext'
      simp [List.drop_take]
    simp [part, run_isAgg hu, hag, sizeOf, typeInfo, hinf, this]
theorem agg_val {c : AV} {V : Value} (h : c.isAgg = true) (hv : VRel f c V) : ∃ A, V = .agg A ∧ VRels f c.cells A.toList := by
  cases c with
  | agg l => rw [VRel] at hv; exact hv
  | nums k l => rw [VRel] at hv; exact ⟨_, hv, by simpa [AV.cells] using VRels.nums k l⟩
  | _ => cases h
theorem fine_field (hm : MRel B f M w) {ty : TypeId} {x : Operand} {j : Nat} (ho : o.op = .field ty x j) {fs : Array Field} (hu : P.underlying ty = some (.struct fs)) {fd : Field} (hf : fs[j]? = some fd) {k : Option (Nat × Option IntKind)} (hk : kindT P fd.type = some k) {c : AV} (hc : c.isAgg = true) (hv : c.part fd.offset k = some v) (hr : VRel f c (ρ x)) :
    Fine P ρ o w B f M v M := by
  obtain ⟨A, hA, hcs⟩ := agg_val hc hr
  obtain ⟨U, h1, h2⟩ := run_part (P := P) (w := w) hk hv hcs
  exact Fine.same hm (by simp [execOp, ho, Instr.field, run_underlying hu, hf, hA, asAgg, h1]) h2
theorem inR_spec {n : Int} {len m : Nat} (h : inR n len = some m) : n = m ∧ m < len := by
  unfold inR at h
  split at h
  · rename_i q
    cases hq : Nat.blt q len with
    | false => simp [hq] at h
    | true =>
      simp only [hq, cond_true, Option.some.injEq] at h
      subst h
      exact ⟨rfl, by simpa using hq⟩
  · cases h
theorem inB_spec {n : Int} {len m : Nat} (h : inB n len = some m) : n = m ∧ m ≤ len := by
  unfold inB at h
  split at h
  · rename_i q
    cases hq : Nat.ble q len with
    | false => simp [hq] at h
    | true =>
      simp only [hq, cond_true, Option.some.injEq] at h
      subst h
      exact ⟨rfl, by simpa using hq⟩
  · cases h
theorem fine_idxA (hm : MRel B f M w) {ty e : TypeId} {x y : Operand} (ho : o.op = .indexAddr ty x y) {len esz : Nat} (hu : P.underlying ty = some (.array len e)) (he : sizeT P e = some esz) {i off m : Nat} {k : IntKind} {n : Int} (hr : VRel f (.ptr i off) (ρ x)) (hy : VRel f (.int k n) (ρ y)) (hn : inR n len = some m) :
    Fine P ρ o w B f M (.ptr i (off + m * esz)) M := by
  rw [VRel] at hr
  rw [VRel] at hy
  obtain ⟨z, hz, hr⟩ := hr
  obtain ⟨rfl, hlt⟩ := inR_spec hn
  refine Fine.same hm (V := .pointer (some ⟨z.1, off + m * esz, none⟩)) ?_ (by rw [VRel]; exact ⟨z, hz, rfl⟩)
  simp [execOp, ho, Instr.indexAt, hy, hr, asIntOf, run_underlying hu, Instr.sureAddr, hlt, run_sizeOf he, addr_add]
theorem fine_idxS (hm : MRel B f M w) {ty e : TypeId} {x y : Operand} (ho : o.op = .indexAddr ty x y) {esz : Nat} (hu : P.underlying ty = some (.slice e)) (he : sizeT P e = some esz) {i off base len m : Nat} {lim : Option Nat} {k : IntKind} {n : Int} (hr : VRel f (.sl i off base len esz lim) (ρ x)) (hy : VRel f (.int k n) (ρ y)) (hn : inR n len = some m) :
    Fine P ρ o w B f M (.ptr i (off + m * esz)) M := by
  rw [VRel] at hr
  rw [VRel] at hy
  obtain ⟨z, cap, hz, h0, hcap, hlc, hr⟩ := hr
  obtain ⟨rfl, hlt⟩ := inR_spec hn
  have hc0 : cap ≠ 0 := by omega
  refine Fine.same hm (V := .pointer (some ⟨z.1, off + m * esz, none⟩)) ?_ (by rw [VRel]; exact ⟨z, hz, rfl⟩)
  simp [execOp, ho, Instr.indexAt, hy, hr, asIntOf, run_underlying hu, hlt, run_sizeOf he, addr_add, hc0]
theorem fine_idxV (hm : MRel B f M w) {ty e : TypeId} {x y : Operand} (ho : o.op = .index ty x y) {len esz : Nat} (hu : P.underlying ty = some (.array len e)) (he : sizeT P e = some esz) {k : Option (Nat × Option IntKind)} (hk : kindT P e = some k) {c : AV} {m : Nat} {k' : IntKind} {n : Int} (hc : c.isAgg = true) (hr : VRel f c (ρ x)) (hy : VRel f (.int k' n) (ρ y)) (hn : inR n len = some m)
    (hv : c.part (m * esz) k = some v) : Fine P ρ o w B f M v M := by
  rw [VRel] at hy
  obtain ⟨A, hA, hcs⟩ := agg_val hc hr
  obtain ⟨rfl, hlt⟩ := inR_spec hn
  obtain ⟨U, h1, h2⟩ := run_part (P := P) (w := w) hk hv hcs
  exact Fine.same hm (by simp [execOp, ho, Instr.index, hy, hA, asIntOf, run_underlying hu, hlt, run_sizeOf he, h1]) h2
theorem fine_idxStr (hm : MRel B f M w) {ty : TypeId} {x y : Operand} (ho : o.op = .index ty x y) (hu : P.underlying ty = some .string) {s : List UInt8} {m : Nat} {k' : IntKind} {n : Int} (hr : VRel f (.str s) (ρ x)) (hy : VRel f (.int k' n) (ρ y)) (hn : inR n s.length = some m) {b : UInt8} (hb : s[m]? = some b) :
    Fine P ρ o w B f M (.int .u8 b.toNat) M := by
  rw [VRel] at hr
  rw [VRel] at hy
  obtain ⟨rfl, hlt⟩ := inR_spec hn
  refine Fine.same hm (V := .int .u8 b.toNat) ?_ (by simp [VRel])
  have hg : (ByteArray.mk s.toArray)[m]? = some b := by
    have h1 : m < (ByteArray.mk s.toArray).size := by simpa [ByteArray.size] using hlt
    rw [getElem?_pos _ m h1]
    rw [List.getElem?_eq_getElem hlt] at hb
    have := Option.some.inj hb
    rw [← this]
    rfl
  simp [execOp, ho, Instr.index, hy, hr, asIntOf, run_underlying hu, hg]
end
end Go.Proofs.Ytfdhfhgljhnhlaa
/- Each operation of the small machine stands for what the program's operation does: numbers, strings, comparisons, parts put together, slices. No condition. -/
namespace Go.Proofs.Ytfdhfhgljhnhlaa
open Go Go.RowKit

section
variable {P : Program} {B : Nat} {f : FM} {M M' : Mem} {w : World} {ρ : Operand → Value} {o : Oper} {v : AV}

theorem fine_mov (hm : MRel B f M w) {x : Operand} (ho : o.op = .move x ∨ o.op = .assign x) (hr : VRel f v (ρ x)) : Fine P ρ o w B f M v M :=
  Fine.same hm (V := ρ x) (by rcases ho with ho | ho <;> simp [execOp, ho]) hr
theorem fine_pick (hm : MRel B f M w) {c x y : Operand} (ho : o.op = .pick c x y) {b : Bool} {u1 u2 : AV} (hc : VRel f (.bool b) (ρ c)) (h1 : VRel f u1 (ρ x)) (h2 : VRel f u2 (ρ y)) : Fine P ρ o w B f M (bif b then u1 else u2) M := by
  rw [VRel] at hc
  refine Fine.same hm (V := if b then ρ x else ρ y) (by simp [execOp, ho, hc, asBool]) ?_
  cases b <;> simpa

/-! ### Numbers -/
theorem bits_run {op : BinOp} {k : IntKind} {x y : Int} (h : bitsA op k x y = some v) : ∃ V, (Op.intBits op k x y).run P w = .ok V w ∧ VRel f v V := by
  unfold bitsA at h
  split at h <;> first
    | cases h; done
    | (simp only [Option.some.injEq] at h; subst h; exact ⟨_, by simp only [Op.intBits, Sem.run_pure]; rfl, by rw [VRel]⟩)
theorem int_run {op : BinOp} {k : IntKind} {x y : Int} {ty : TypeId} (hs : isShift op = false) (h : intBin op k x y = some v) : ∃ V, (binOp op ty (.int k x) (.int k y)).run P w = .ok V w ∧ VRel f v V := by
  cases op <;> simp only [isShift, Bool.true_eq_false] at hs <;> simp only [intBin, Option.some.injEq] at h
  case add | sub | mul => subst h; exact ⟨_, by simp [binOp, Op.intArith]; rfl, by rw [VRel]⟩
  case quo | rem =>
    split at h
    · cases h
    · rename_i hy
      simp only [Option.some.injEq] at h; subst h
      exact ⟨_, by simp [binOp, Op.intDiv, hy]; rfl, by rw [VRel]⟩
  case eql | neq | lss | leq | gtr | geq => subst h; exact ⟨_, by simp [binOp, Op.intCmp]; rfl, by rw [VRel]⟩
  case and | or | xor | andNot =>
    obtain ⟨V, h1, h2⟩ := bits_run (P := P) (w := w) (f := f) h
    exact ⟨V, by simpa [binOp] using h1, h2⟩
  all_goals cases h
theorem shift_run {op : BinOp} {k k' : IntKind} {x y : Int} {ty : TypeId} (h : shiftA op k x y = some v) : ∃ V, (binOp op ty (.int k x) (.int k' y)).run P w = .ok V w ∧ VRel f v V := by
  unfold shiftA at h
  split at h
  · cases h
  · rename_i m
    have hn : ¬ ((Int.ofNat m : Int) < 0) := by simp
    have ht : (Int.ofNat m).toNat = m := rfl
    split at h
    · simp only [Option.some.injEq] at h; subst h
      exact ⟨_, by simp only [binOp, Op.shift, hn, if_false, ht]; rfl, by rw [VRel]⟩
    · simp only [Option.some.injEq] at h; subst h
      exact ⟨_, by simp only [binOp, Op.shift, hn, if_false, ht]; rfl, by rw [VRel]⟩
    · cases h
theorem eqGuard_int (op : BinOp) (t : TypeId) (x y : Operand) (k k' : IntKind) (a b : Int) : (eqGuard op t x y (.int k a) (.int k' b)).run P w = .ok () w := by
  cases op <;> simp [eqGuard]
theorem eqGuard_str (op : BinOp) (t : TypeId) (x y : Operand) (a b : ByteArray) : (eqGuard op t x y (.string a) (.string b)).run P w = .ok () w := by
  cases op <;> simp [eqGuard]
theorem toList_mk (s : List UInt8) : (ByteArray.mk s.toArray).toList = s := by rw [ByteArray.toList_eq]
theorem append_mk (s t : List UInt8) : (ByteArray.mk s.toArray) ++ (ByteArray.mk t.toArray) = ByteArray.mk (s ++ t).toArray := by
  apply ByteArray.ext
  simp [ByteArray.data_append]
theorem str_run {op : BinOp} {s t : List UInt8} {ty : TypeId} (h : binA op [.str s, .str t] = some v) : ∃ V, (binOp op ty (.string ⟨s.toArray⟩) (.string ⟨t.toArray⟩)).run P w = .ok V w ∧ VRel f v V := by
  have hsz : (ByteArray.mk s.toArray).size = s.length := by simp [ByteArray.size]
  have hsz' : (ByteArray.mk t.toArray).size = t.length := by simp [ByteArray.size]
  cases op <;> simp only [binA] at h <;> try cases h
  case add =>
    cases hl : Nat.ble (s.length + t.length) 9223372036854775807 with
    | false => simp [hl] at h
    | true =>
    simp only [hl, cond_true, Option.some.injEq] at h; subst h
    have hl : s.length + t.length ≤ 9223372036854775807 := by simpa using hl
    have hmx : IntKind.i64.max = 9223372036854775807 := by decide
    refine ⟨.string ⟨(s ++ t).toArray⟩, ?_, by rw [VRel]⟩
    simp only [binOp, Op.stringOp, hsz, hsz']
    rw [if_neg (by rw [hmx]; omega), append_mk]; rfl
  case eql => exact ⟨.bool (s == t), by simp only [binOp, Op.stringOp, toList_mk]; rfl, by rw [VRel]⟩
  case neq => exact ⟨.bool (!(s == t)), by simp only [binOp, Op.stringOp, toList_mk]; rfl, by rw [VRel]⟩
/-! ### Comparisons -/
theorem run_part_int {e : TypeId} {kk k : IntKind} {A : Array Value} {i : Nat} {z : Value} (he : P.underlying e = some (.int kk)) (hz : A[i]? = some z) : (part e A i).run P w = .ok z w := by
  simp [part, run_isAgg he, isAggD, hz]
theorem run_equal_nums (d : Nat) {t e : TypeId} {len : Nat} {k kk : IntKind} (hu : P.underlying t = some (.array len e)) (he : P.underlying e = some (.int kk)) (hs : sizeT P e = some 1) (l l' : List Int) (h1 : l.length = len) (h2 : l'.length = len) :
    (Op.equalIn (d + 2) t (.agg (l.map (Value.int k)).toArray) (.agg (l'.map (Value.int k)).toArray)).run P w = .ok (l == l') w := by
  have key : ∀ (m j : Nat), j + m = len → ∀ w, (forIn (m := Sem) (List.range' j m 1) ((none, PUnit.unit) : Option Bool × PUnit) (fun i r => do
      let a ← part e (l.map (Value.int k)).toArray (i * 1)
      let b ← part e (l'.map (Value.int k)).toArray (i * 1)
      let q ← Op.equalIn (d + 1) e a b
      if (!q) = true then pure (ForInStep.done (some false, PUnit.unit)) else pure (ForInStep.yield (none, PUnit.unit)))).run P w = .ok (if l.drop j == l'.drop j then (none, PUnit.unit) else (some false, PUnit.unit)) w := by
    intro m
    induction m with
    | zero => intro j hj w; rw [List.drop_of_length_le (by omega), List.drop_of_length_le (by omega)]; simp
    | succ m ih =>
      intro j hj w
      have hj1 : j < l.length := by omega
      have hj2 : j < l'.length := by omega
      have e1 : (List.drop j l == List.drop j l') = (l[j] == l'[j] && (List.drop (j + 1) l == List.drop (j + 1) l')) := by
        rw [List.drop_eq_getElem_cons hj1, List.drop_eq_getElem_cons hj2]; rfl
      rw [e1]
      simp only [List.range'_succ, List.forIn_cons, Sem.run_bind, Nat.mul_one]
      rw [run_part_int (k := k) he (z := .int k l[j]) (by simp [hj1]), Result.andThen_ok, run_part_int (k := k) he (z := .int k l'[j]) (by simp [hj2])]
      simp only [Result.andThen_ok, run_equalIn_int _ _ _ _ _ _ _ he]
      by_cases hq : l[j] = l'[j]
      · simp only [hq, beq_self_eq_true, Bool.not_true, Bool.false_eq_true, if_false, Sem.run_pure, Result.andThen_ok]
        have := ih (j + 1) (by omega) w
        simp only [Nat.mul_one] at this
        rw [this]; simp only [Bool.true_and]
      · have : (l[j] == l'[j]) = false := by simpa using hq
        simp only [this, Bool.not_false, if_true, Sem.run_pure, Result.andThen_ok, Bool.false_and, Bool.false_eq_true, if_false]
  rw [Op.equalIn]
  simp only [Sem.run_bind, run_underlying hu, Result.andThen_ok, run_sizeOf hs]
  rw [Std.Legacy.Range.forIn_eq_forIn_range']
  simp only [Std.Legacy.Range.size, Nat.sub_zero, Nat.add_sub_cancel, Nat.div_one]
  rw [key len 0 (by omega) w]
  simp only [Result.andThen_ok, List.drop_zero]
  cases l == l' <;> simp

theorem fine_bin (hm : MRel B f M w) {op : BinOp} {ty yt : TypeId} {x y : Operand} (ho : o.op = .binOp op ty x y yt) {vs : List AV} (hv : VRels f vs [ρ x, ρ y]) (hb : binA op vs = some v) : Fine P ρ o w B f M v M := by
  unfold binA at hb
  split at hb
  · rename_i k a k' b
    obtain ⟨A, B', he, hA, hB'⟩ := rels2 hv
    obtain ⟨rfl, h2⟩ := List.cons.inj he
    obtain ⟨rfl, _⟩ := List.cons.inj h2
    rw [VRel] at hA
    rw [VRel] at hB'
    have go : (∃ V, (binOp op ty (.int k a) (.int k' b)).run P w = .ok V w ∧ VRel f v V) → Fine P ρ o w B f M v M := fun ⟨V, h1, h2⟩ => Fine.same hm (by simp [execOp, ho, hA, hB', eqGuard_int, h1]) h2
    cases hs : isShift op with
    | true => rw [hs, cond_true] at hb; exact go (shift_run hb)
    | false =>
      rw [hs, cond_false] at hb
      split at hb
      · rename_i hk; subst hk; exact go (int_run hs hb)
      · cases hb
  · rename_i s t
    obtain ⟨A, B', he, hA, hB'⟩ := rels2 hv
    obtain ⟨rfl, h2⟩ := List.cons.inj he
    obtain ⟨rfl, _⟩ := List.cons.inj h2
    rw [VRel] at hA
    rw [VRel] at hB'
    obtain ⟨V, h1, h2⟩ := str_run (P := P) (w := w) (f := f) (ty := ty) (v := v) (op := op) (s := s) (t := t) (by unfold binA; exact hb)
    exact Fine.same hm (by simp [execOp, ho, hA, hB', eqGuard_str, h1]) h2
  · cases hb
theorem guardType_array {t e : TypeId} {len : Nat} {kk : IntKind} (hu : P.underlying t = some (.array len e)) (he : P.underlying e = some (.int kk)) : P.eqGuardType P.depth t = false := by
  have : P.depth = (2 * (P.types.size + Made.depth) + 0) + 2 := rfl
  rw [this, Program.eqGuardType, hu]
  simp only
  rw [Program.eqGuardType, he]
theorem eqShape_cells {t : TypeId} {n : Nat} (h : eqShape P t = some (.cells n)) : ∃ e kk, P.underlying t = some (.array n e) ∧ P.underlying e = some (.int kk) ∧ sizeT P e = some 1 := by
  unfold eqShape at h
  split at h <;> first | (cases h; done) | skip
  rename_i m e hu
  split at h
  · rename_i kk s he hs
    cases hq : Nat.beq s 1 with
    | false => simp [hq] at h
    | true =>
      simp only [hq, cond_true, Option.some.injEq, EqS.cells.injEq] at h
      subst h
      obtain rfl : s = 1 := Nat.eq_of_beq_eq_true hq
      exact ⟨e, kk, hu, he, hs⟩
  · cases h
theorem isEq_spec {op : BinOp} {neg : Bool} (h : isEq op = some neg) : (op = .eql ∧ neg = false) ∨ (op = .neq ∧ neg = true) := by
  cases op <;> simp [isEq] at h <;> simp [h]
theorem eq_bool (n0 : Nat) {t : TypeId} (hu : P.underlying t = some .bool) (a b : Bool) : (Op.equalIn (n0 + 1) t (.bool a) (.bool b)).run P w = .ok (a == b) w := by
  simp only [Op.equalIn, Sem.run_bind, run_underlying hu, Result.andThen_ok, Sem.run_pure]
theorem eq_ptr (n0 : Nat) {t e : TypeId} (hu : P.underlying t = some (.pointer e)) (a : Option Addr) : (Op.equalIn (n0 + 1) t (.pointer none) (.pointer a)).run P w = .ok a.isNone w := by
  simp only [Op.equalIn, Sem.run_bind, run_underlying hu, Result.andThen_ok, Sem.run_pure]
theorem eq_ptr' (n0 : Nat) {t e : TypeId} (hu : P.underlying t = some (.pointer e)) (a : Addr) : (Op.equalIn (n0 + 1) t (.pointer (some a)) (.pointer none)).run P w = .ok false w := by
  simp only [Op.equalIn, Sem.run_bind, run_underlying hu, Result.andThen_ok, Sem.run_pure]
theorem eq_sl (n0 : Nat) {t e : TypeId} (hu : P.underlying t = some (.slice e)) (a : Option Addr) (n c : Nat) : (Op.equalIn (n0 + 1) t (.slice none 0 0) (.slice a n c)).run P w = .ok a.isNone w := by
  simp only [Op.equalIn, Sem.run_bind, run_underlying hu, Result.andThen_ok, Sem.run_pure]
theorem eq_sl' (n0 : Nat) {t e : TypeId} (hu : P.underlying t = some (.slice e)) (a : Addr) (n c : Nat) : (Op.equalIn (n0 + 1) t (.slice (some a) n c) (.slice none 0 0)).run P w = .ok false w := by
  simp only [Op.equalIn, Sem.run_bind, run_underlying hu, Result.andThen_ok, Sem.run_pure]
theorem eq_fn0 (n0 : Nat) {t : TypeId} {a b : Array TypeId} {c : Bool} (hu : P.underlying t = some (.func a b c)) : (Op.equalIn (n0 + 1) t .nilFunc .nilFunc).run P w = .ok true w := by
  simp only [Op.equalIn, Sem.run_bind, run_underlying hu, Result.andThen_ok, Sem.run_pure]
theorem eq_fn1 (n0 : Nat) {t : TypeId} {a b : Array TypeId} {c : Bool} (hu : P.underlying t = some (.func a b c)) (g : Fn) (A D : Array Value) : (Op.equalIn (n0 + 1) t .nilFunc (.func g A D)).run P w = .ok false w := by
  simp only [Op.equalIn, Sem.run_bind, run_underlying hu, Result.andThen_ok, Sem.run_pure]
theorem eq_fn2 (n0 : Nat) {t : TypeId} {a b : Array TypeId} {c : Bool} (hu : P.underlying t = some (.func a b c)) (g : Fn) (A D : Array Value) : (Op.equalIn (n0 + 1) t (.func g A D) .nilFunc).run P w = .ok false w := by
  simp only [Op.equalIn, Sem.run_bind, run_underlying hu, Result.andThen_ok, Sem.run_pure]
def valShape : AV → Value → Prop
  | .bool b, V => V = .bool b
  | .nilp, V => V = .pointer none
  | .ptr _ _, V => ∃ a, V = .pointer (some a)
  | .nilsl, V => V = .slice none 0 0
  | .sl .., V => ∃ a n c, V = .slice (some a) n c
  | .nilfn, V => V = .nilFunc
  | .fn .., V => ∃ g A D, V = .func g A D
  | _, _ => True
theorem val_shape {v : AV} {V : Value} (h : VRel f v V) : valShape v V := by
  cases v <;> rw [VRel] at h <;> first | exact h | trivial | skip
  case ptr => obtain ⟨x, _, h⟩ := h; exact ⟨_, h⟩
  case sl => obtain ⟨x, c, _, _, _, _, h⟩ := h; exact ⟨_, _, _, h⟩
  case fn => obtain ⟨A, D, h, _, _⟩ := h; exact ⟨_, _, _, h⟩
def shapeSpec (P : Program) (t : TypeId) : EqS → Prop
  | .bool => P.underlying t = some .bool
  | .ptr => ∃ e, P.underlying t = some (.pointer e)
  | .slice => ∃ e, P.underlying t = some (.slice e)
  | .func => ∃ a b c, P.underlying t = some (.func a b c)
  | .cells _ => True
theorem eqShape_spec {t : TypeId} {s : EqS} (h : eqShape P t = some s) : shapeSpec P t s := by
  unfold eqShape at h
  split at h
  case h_1 h' => simp only [Option.some.injEq] at h; subst h; exact h'
  case h_2 h' => simp only [Option.some.injEq] at h; subst h; exact ⟨_, h'⟩
  case h_3 h' => simp only [Option.some.injEq] at h; subst h; exact ⟨_, h'⟩
  case h_4 h' => simp only [Option.some.injEq] at h; subst h; exact ⟨_, _, _, h'⟩
  case h_5 =>
    split at h
    · rename_i sz _ _
      cases hq : Nat.beq sz 1 <;> simp only [hq, cond_true, cond_false, Option.some.injEq, reduceCtorEq] at h
      subst h; trivial
    · cases h
  case h_6 => cases h
theorem fine_eqv (hm : MRel B f M w) {op : BinOp} {ty yt : TypeId} {x y : Operand} (ho : o.op = .binOp op ty x y yt) {neg : Bool} (hn : isEq op = some neg) {s : EqS} (hs : eqShape P ty = some s) {vs : List AV} (hv : VRels f vs [ρ x, ρ y]) {b : Bool} (hb : eqA s vs = some b) :
    Fine P ρ o w B f M (.bool (bif neg then !b else b)) M := by
  have go : (∀ X Y, ρ x = X → ρ y = Y → (eqGuard op ty x y X Y).run P w = .ok () w ∧ (binOp op ty X Y).run P w = ((Op.equal ty X Y).run P w).andThen (fun q w' => .ok (.bool (bif neg then !q else q)) w') ∧ (Op.equal ty X Y).run P w = .ok b w) → Fine P ρ o w B f M (.bool (bif neg then !b else b)) M := fun h => by
    obtain ⟨h1, h2, h3⟩ := h _ _ rfl rfl
    exact Fine.same hm (V := .bool (bif neg then !b else b)) (by simp [execOp, ho, h1, h2, h3]) (by rw [VRel])
  have hop := isEq_spec hn
  unfold eqA at hb
  split at hb
  case h_1 k l k' l' =>
    obtain ⟨A, B', he, hA, hB'⟩ := rels2 hv
    obtain ⟨rfl, h2⟩ := List.cons.inj he
    obtain ⟨rfl, _⟩ := List.cons.inj h2
    rw [VRel] at hA
    rw [VRel] at hB'
    split at hb
    · rename_i n
      split at hb
      · rename_i hk; subst hk
        obtain ⟨e, kk, hu, he, hsz⟩ := eqShape_cells hs
        cases hq : (Nat.beq l.length n && Nat.beq l'.length n) with
        | false => simp [hq] at hb
        | true =>
          simp only [hq, cond_true, Option.some.injEq] at hb
          subst hb
          simp only [Bool.and_eq_true] at hq
          refine go fun X Y hX hY => ?_
          rw [← hX, ← hY, hA, hB']
          refine ⟨run_eqGuard_agg w _ _ _ _ _ _ (guardType_array hu he), ?_, run_equal_nums 9998 hu he hsz l l' (Nat.eq_of_beq_eq_true hq.1) (Nat.eq_of_beq_eq_true hq.2)⟩
          rcases hop with ⟨rfl, rfl⟩ | ⟨rfl, rfl⟩
          · exact run_eql_struct w _ _ _
          · exact run_neq_struct w _ _ _
      · cases hb
    · cases hb
  case h_12 => cases hb
  case h_2 =>
    obtain ⟨A, B', he, hA, hB'⟩ := rels2 hv
    obtain ⟨rfl, h2⟩ := List.cons.inj he
    obtain ⟨rfl, _⟩ := List.cons.inj h2
    clear h2 he
    split at hb <;> first | (cases hb; done) | skip
    simp only [Option.some.injEq] at hb
    have hu := eqShape_spec hs
    simp only [shapeSpec] at hu
    refine go fun X Y hX hY => ?_
    rw [← hX, ← hY]
    have hA' := val_shape hA
    have hB'' := val_shape hB'
    simp only [valShape] at hA' hB''
    subst hb
    rw [hA', hB'']
    rcases hop with ⟨rfl, rfl⟩ | ⟨rfl, rfl⟩ <;> exact ⟨rfl, by first | exact Sem.run_bind P w _ _ | exact (Sem.run_bind' P _ _ w), eq_bool 9999 hu _ _⟩
  case h_3 =>
    obtain ⟨A, B', he, hA, hB'⟩ := rels2 hv
    obtain ⟨rfl, h2⟩ := List.cons.inj he
    obtain ⟨rfl, _⟩ := List.cons.inj h2
    clear h2 he
    split at hb <;> first | (cases hb; done) | skip
    simp only [Option.some.injEq] at hb
    have hu := eqShape_spec hs
    simp only [shapeSpec] at hu
    refine go fun X Y hX hY => ?_
    rw [← hX, ← hY]
    have hA' := val_shape hA
    have hB'' := val_shape hB'
    simp only [valShape] at hA' hB''
    subst hb
    obtain ⟨e, hu⟩ := hu
    rw [hA', hB'']
    rcases hop with ⟨rfl, rfl⟩ | ⟨rfl, rfl⟩ <;> exact ⟨rfl, by first | exact Sem.run_bind P w _ _ | exact (Sem.run_bind' P _ _ w), eq_ptr 9999 hu _⟩
  case h_4 =>
    obtain ⟨A, B', he, hA, hB'⟩ := rels2 hv
    obtain ⟨rfl, h2⟩ := List.cons.inj he
    obtain ⟨rfl, _⟩ := List.cons.inj h2
    clear h2 he
    split at hb <;> first | (cases hb; done) | skip
    simp only [Option.some.injEq] at hb
    have hu := eqShape_spec hs
    simp only [shapeSpec] at hu
    refine go fun X Y hX hY => ?_
    rw [← hX, ← hY]
    have hA' := val_shape hA
    have hB'' := val_shape hB'
    simp only [valShape] at hA' hB''
    subst hb
    obtain ⟨e, hu⟩ := hu
    obtain ⟨_, hB''⟩ := hB''
    rw [hA', hB'']
    rcases hop with ⟨rfl, rfl⟩ | ⟨rfl, rfl⟩ <;> exact ⟨rfl, by first | exact Sem.run_bind P w _ _ | exact (Sem.run_bind' P _ _ w), eq_ptr 9999 hu _⟩
  case h_5 =>
    obtain ⟨A, B', he, hA, hB'⟩ := rels2 hv
    obtain ⟨rfl, h2⟩ := List.cons.inj he
    obtain ⟨rfl, _⟩ := List.cons.inj h2
    clear h2 he
    split at hb <;> first | (cases hb; done) | skip
    simp only [Option.some.injEq] at hb
    have hu := eqShape_spec hs
    simp only [shapeSpec] at hu
    refine go fun X Y hX hY => ?_
    rw [← hX, ← hY]
    have hA' := val_shape hA
    have hB'' := val_shape hB'
    simp only [valShape] at hA' hB''
    subst hb
    obtain ⟨e, hu⟩ := hu
    obtain ⟨_, hA'⟩ := hA'
    rw [hA', hB'']
    rcases hop with ⟨rfl, rfl⟩ | ⟨rfl, rfl⟩ <;> exact ⟨rfl, by first | exact Sem.run_bind P w _ _ | exact (Sem.run_bind' P _ _ w), eq_ptr' 9999 hu _⟩
  case h_6 =>
    obtain ⟨A, B', he, hA, hB'⟩ := rels2 hv
    obtain ⟨rfl, h2⟩ := List.cons.inj he
    obtain ⟨rfl, _⟩ := List.cons.inj h2
    clear h2 he
    split at hb <;> first | (cases hb; done) | skip
    simp only [Option.some.injEq] at hb
    have hu := eqShape_spec hs
    simp only [shapeSpec] at hu
    refine go fun X Y hX hY => ?_
    rw [← hX, ← hY]
    have hA' := val_shape hA
    have hB'' := val_shape hB'
    simp only [valShape] at hA' hB''
    subst hb
    obtain ⟨e, hu⟩ := hu
    rw [hA', hB'']
    rcases hop with ⟨rfl, rfl⟩ | ⟨rfl, rfl⟩ <;> exact ⟨rfl, by first | exact Sem.run_bind P w _ _ | exact (Sem.run_bind' P _ _ w), eq_sl 9999 hu _ _ _⟩
  case h_7 =>
    obtain ⟨A, B', he, hA, hB'⟩ := rels2 hv
    obtain ⟨rfl, h2⟩ := List.cons.inj he
    obtain ⟨rfl, _⟩ := List.cons.inj h2
    clear h2 he
    split at hb <;> first | (cases hb; done) | skip
    simp only [Option.some.injEq] at hb
    have hu := eqShape_spec hs
    simp only [shapeSpec] at hu
    refine go fun X Y hX hY => ?_
    rw [← hX, ← hY]
    have hA' := val_shape hA
    have hB'' := val_shape hB'
    simp only [valShape] at hA' hB''
    subst hb
    obtain ⟨e, hu⟩ := hu
    obtain ⟨_, _, _, hB''⟩ := hB''
    rw [hA', hB'']
    rcases hop with ⟨rfl, rfl⟩ | ⟨rfl, rfl⟩ <;> exact ⟨rfl, by first | exact Sem.run_bind P w _ _ | exact (Sem.run_bind' P _ _ w), eq_sl 9999 hu _ _ _⟩
  case h_8 =>
    obtain ⟨A, B', he, hA, hB'⟩ := rels2 hv
    obtain ⟨rfl, h2⟩ := List.cons.inj he
    obtain ⟨rfl, _⟩ := List.cons.inj h2
    clear h2 he
    split at hb <;> first | (cases hb; done) | skip
    simp only [Option.some.injEq] at hb
    have hu := eqShape_spec hs
    simp only [shapeSpec] at hu
    refine go fun X Y hX hY => ?_
    rw [← hX, ← hY]
    have hA' := val_shape hA
    have hB'' := val_shape hB'
    simp only [valShape] at hA' hB''
    subst hb
    obtain ⟨e, hu⟩ := hu
    obtain ⟨_, _, _, hA'⟩ := hA'
    rw [hA', hB'']
    rcases hop with ⟨rfl, rfl⟩ | ⟨rfl, rfl⟩ <;> exact ⟨rfl, by first | exact Sem.run_bind P w _ _ | exact (Sem.run_bind' P _ _ w), eq_sl' 9999 hu _ _ _⟩
  case h_9 =>
    obtain ⟨A, B', he, hA, hB'⟩ := rels2 hv
    obtain ⟨rfl, h2⟩ := List.cons.inj he
    obtain ⟨rfl, _⟩ := List.cons.inj h2
    clear h2 he
    split at hb <;> first | (cases hb; done) | skip
    simp only [Option.some.injEq] at hb
    have hu := eqShape_spec hs
    simp only [shapeSpec] at hu
    refine go fun X Y hX hY => ?_
    rw [← hX, ← hY]
    have hA' := val_shape hA
    have hB'' := val_shape hB'
    simp only [valShape] at hA' hB''
    subst hb
    obtain ⟨e1, e2, e3, hu⟩ := hu
    rw [hA', hB'']
    rcases hop with ⟨rfl, rfl⟩ | ⟨rfl, rfl⟩ <;> exact ⟨rfl, by first | exact Sem.run_bind P w _ _ | exact (Sem.run_bind' P _ _ w), eq_fn0 9999 hu⟩
  case h_10 =>
    obtain ⟨A, B', he, hA, hB'⟩ := rels2 hv
    obtain ⟨rfl, h2⟩ := List.cons.inj he
    obtain ⟨rfl, _⟩ := List.cons.inj h2
    clear h2 he
    split at hb <;> first | (cases hb; done) | skip
    simp only [Option.some.injEq] at hb
    have hu := eqShape_spec hs
    simp only [shapeSpec] at hu
    refine go fun X Y hX hY => ?_
    rw [← hX, ← hY]
    have hA' := val_shape hA
    have hB'' := val_shape hB'
    simp only [valShape] at hA' hB''
    subst hb
    obtain ⟨e1, e2, e3, hu⟩ := hu
    obtain ⟨_, _, _, hB''⟩ := hB''
    rw [hA', hB'']
    rcases hop with ⟨rfl, rfl⟩ | ⟨rfl, rfl⟩ <;> exact ⟨rfl, by first | exact Sem.run_bind P w _ _ | exact (Sem.run_bind' P _ _ w), eq_fn1 9999 hu _ _ _⟩
  case h_11 =>
    obtain ⟨A, B', he, hA, hB'⟩ := rels2 hv
    obtain ⟨rfl, h2⟩ := List.cons.inj he
    obtain ⟨rfl, _⟩ := List.cons.inj h2
    clear h2 he
    split at hb <;> first | (cases hb; done) | skip
    simp only [Option.some.injEq] at hb
    have hu := eqShape_spec hs
    simp only [shapeSpec] at hu
    refine go fun X Y hX hY => ?_
    rw [← hX, ← hY]
    have hA' := val_shape hA
    have hB'' := val_shape hB'
    simp only [valShape] at hA' hB''
    subst hb
    obtain ⟨e1, e2, e3, hu⟩ := hu
    obtain ⟨_, _, _, hA'⟩ := hA'
    rw [hA', hB'']
    rcases hop with ⟨rfl, rfl⟩ | ⟨rfl, rfl⟩ <;> exact ⟨rfl, by first | exact Sem.run_bind P w _ _ | exact (Sem.run_bind' P _ _ w), eq_fn2 9999 hu _ _ _⟩
end
end Go.Proofs.Ytfdhfhgljhnhlaa
/- Each operation of the small machine stands for what the program's operation does: conversions, parts put together, slices. No condition. -/
namespace Go.Proofs.Ytfdhfhgljhnhlaa
open Go Go.RowKit

section
variable {P : Program} {B : Nat} {f : FM} {M M' : Mem} {w : World} {ρ : Operand → Value} {o : Oper} {v : AV}

theorem fine_un (hm : MRel B f M w) {op : UnOp} {ty : TypeId} {x : Operand} (ho : o.op = .unOp op ty x) {vs : List AV} (hv : VRels f vs [ρ x]) (hb : unA op vs = some v) : Fine P ρ o w B f M v M := by
  unfold unA at hb
  split at hb
  · rename_i k n
    obtain ⟨A, he, hA⟩ := rels1 hv
    obtain ⟨rfl, _⟩ := List.cons.inj he
    rw [VRel] at hA
    split at hb
    · simp only [Option.some.injEq] at hb; subst hb
      exact Fine.same hm (V := .int k (k.wrap (0 - n))) (by simp [execOp, ho, hA, Op.unary, Op.intArith]) (by rw [VRel])
    · obtain ⟨V, h1, h2⟩ := bits_run (P := P) (w := w) (f := f) hb
      exact Fine.same hm (V := V) (by simp [execOp, ho, hA, Op.unary, h1]) h2
    · cases hb
  · rename_i b
    obtain ⟨A, he, hA⟩ := rels1 hv
    obtain ⟨rfl, _⟩ := List.cons.inj he
    rw [VRel] at hA
    split at hb
    · simp only [Option.some.injEq] at hb; subst hb
      exact Fine.same hm (V := .bool (!b)) (by simp [execOp, ho, hA, Op.unary]) (by rw [VRel])
    · cases hb
  · cases hb
theorem fine_conv (hm : MRel B f M w) {s d : TypeId} {x : Operand} (ho : o.op = .convert s d x) {k k0 : IntKind} (hs : P.underlying s = some (.int k0)) (hd : P.underlying d = some (.int k)) {k' : IntKind} {n : Int} (hr : VRel f (.int k' n) (ρ x)) : Fine P ρ o w B f M (.int k (k.wrap n)) M := by
  rw [VRel] at hr
  exact Fine.same hm (V := .int k (k.wrap n)) (by simp [execOp, ho, hr, convert, run_underlying hs, run_underlying hd, Conv.intToInt]) (by rw [VRel])
theorem fine_convId (hm : MRel B f M w) {s d : TypeId} {x : Operand} (ho : o.op = .convert s d x) (hs : P.underlying s = some .string) (hd : P.underlying d = some .string) {t : List UInt8} (hr : VRel f (.str t) (ρ x)) : Fine P ρ o w B f M (.str t) M := by
  have hr' := hr
  rw [VRel] at hr
  exact Fine.same hm (V := ρ x) (by simp [execOp, ho, hr, convert, run_underlying hs, run_underlying hd]) hr'
theorem foldl_push : ∀ (ns : List Int) (s : ByteArray), ns.foldl (fun r n => r.push (UInt8.ofNat n.toNat)) s = ByteArray.mk (s.data ++ (ns.map fun n => UInt8.ofNat n.toNat).toArray)
  | [], s => by simp
  | n :: ns, s => by
    rw [List.foldl_cons, foldl_push ns]
    simp [ByteArray.push]
theorem fine_b2s (hm : MRel B f M w) {s d e : TypeId} {x : Operand} (ho : o.op = .convert s d x) (hs : P.underlying s = some (.slice e)) (he : P.underlying e = some (.int .u8)) (hd : P.underlying d = some .string) {i off base len : Nat} {lim : Option Nat} {b : Blk} {l : List Int}
    (hr : VRel f (.sl i off base len 1 lim) (ρ x)) (hb : liveB M i = some b) (hl : b.cells.sub off len (some .u8) = some (.nums .u8 l)) : Fine P ρ o w B f M (.str (l.map fun n => UInt8.ofNat n.toNat)) M := by
  obtain ⟨y, A, t, fz, hi, hy, hw, hsz, ha, hown, hle, hc, hfz, hdd⟩ := hm.live hb
  rw [VRel] at hr
  obtain ⟨z, cap, hz, h0, hcap, hlc, hr⟩ := hr
  obtain rfl : y = z := by rw [hy] at hz; exact Option.some.inj hz
  obtain ⟨hle2, _, hcs, hvU, _⟩ := sub_rel (f := f) hl hc
  rw [take_drop_le _ _ _ _ hle2] at hvU
  rw [VRel] at hvU
  have hlen : l.length = len := by simpa [AV.csize] using hcs
  have hload : ∀ o', (o' = off ∨ len = 0) → o' ≤ A.size → (loadCells ⟨y.1, o', none⟩ len).run P w = .ok (l.map (Value.int .u8)).toArray w := by
    intro o' ho' hle'
    rcases ho' with rfl | h
    · rw [run_loadCells_mid (P := P) hw o' len (by omega)]
      injection hvU with hvU
      rw [hvU]
    · subst h
      obtain rfl : l = [] := List.length_eq_zero_iff.1 hlen
      simp [loadCells, loadCellsFrom]
  have ha0 : len = 0 ∨ cap ≠ 0 := by omega
  have hload' : (loadCells ⟨y.1, if cap = 0 then base else off, none⟩ len).run P w = .ok (l.map (Value.int .u8)).toArray w := by
    by_cases h : len = 0
    · subst h
      obtain rfl : l = [] := List.length_eq_zero_iff.1 hlen
      simp [loadCells, loadCellsFrom]
    · rw [if_neg (by omega)]; exact hload off (.inl rfl) (by omega)
  have h1 := run_bytesToString (P := P) w ⟨y.1, if cap = 0 then base else off, none⟩ len cap l hload'
  refine Fine.same hm (V := .string ⟨(l.map fun n => UInt8.ofNat n.toNat).toArray⟩) ?_ (by rw [VRel])
  rw [foldl_push] at h1
  simp only [execOp, ho, hr, run_convert_bytes_string w s d e _ _ _ hs he hd, Sem.run_bind, h1, Result.andThen_ok, Sem.run_pure]
  congr 3
  simp [ByteArray.empty, ByteArray.emptyWithCapacity]
  rfl
theorem fine_b2s_nil (hm : MRel B f M w) {s d e : TypeId} {x : Operand} (ho : o.op = .convert s d x) (hs : P.underlying s = some (.slice e)) (he : P.underlying e = some (.int .u8)) (hd : P.underlying d = some .string) (hr : VRel f .nilsl (ρ x)) : Fine P ρ o w B f M (.str []) M := by
  rw [VRel] at hr
  refine Fine.same hm (V := .string .empty) ?_ (by rw [VRel]; rfl)
  simp [execOp, ho, hr, run_convert_bytes_string w s d e _ _ _ hs he hd, Conv.bytesToString]
theorem fine_s2ap (hm : MRel B f M w) {ty e : TypeId} {x : Operand} {n : Nat} (ho : o.op = .sliceToArrayPointer ty x) (hu : P.underlying ty = some (.array n e)) {i off base len esz : Nat} {lim : Option Nat} (hr : VRel f (.sl i off base len esz lim) (ρ x)) (hn : n ≤ len) (h0 : 0 < n) : Fine P ρ o w B f M (.ptr i off) M := by
  rw [VRel] at hr
  obtain ⟨z, cap, hz, he, hcap, hlc, hr⟩ := hr
  have hc : cap ≠ 0 := by omega
  have hnl : ¬ len < n := by omega
  refine Fine.same hm (V := .pointer (some ⟨z.1, off, none⟩)) ?_ (by rw [VRel]; exact ⟨z, hz, rfl⟩)
  simp [execOp, ho, hr, Instr.arrayAt, run_underlying hu, hc, hnl]
theorem fine_mkfn (hm : MRel B f M w) {g : FuncId} {a c : Array Operand} (ho : o.op = .makeFunc (.func g) a c) {vs : List AV} (hv : VRels f vs ((a.toList ++ c.toList).map ρ)) : Fine P ρ o w B f M (.fn g (vs.take a.size) (vs.drop a.size)) M := by
  refine Fine.same hm (V := .func (.func g) (a.map ρ) (c.map ρ)) (by simp [execOp, ho, Instr.makeFunc]) ?_
  rw [VRel]
  refine ⟨_, _, rfl, ?_, ?_⟩
  · have := hv.take a.size
    simpa using this
  · have := hv.drop a.size
    simpa using this
theorem fine_extr (hm : MRel B f M w) {x : Operand} {i : Nat} (ho : o.op = .extract x i) {l : List AV} (hr : VRel f (.tup l) (ρ x)) (hi : l[i]? = some v) : Fine P ρ o w B f M v M := by
  rw [VRel] at hr
  obtain ⟨A, hA, hl⟩ := hr
  obtain ⟨V, hV, hvV⟩ := hl.get i hi
  have hV' : A[i]? = some V := by simpa using hV
  exact Fine.same hm (V := V) (by simp [execOp, ho, hA, Instr.extract, hV']) hvV

/-! ### Built-in functions of numbers -/
theorem len_rel {n : Nat} {a : AV} {V : Value} (h : lenA a = some n) (hv : VRel f a V) : (Builtin.lenOf V).run P w = .ok n w := by
  cases a <;> simp only [lenA, Option.some.injEq, reduceCtorEq] at h <;> rw [VRel] at hv
  case sl => obtain ⟨x, cap, _, _, _, _, rfl⟩ := hv; simp [Builtin.lenOf, h]
  case nilsl => subst hv; simp [Builtin.lenOf, ← h]
  case str s => subst hv; simp [Builtin.lenOf, ByteArray.size, h]
theorem fine_builtin (hm : MRel B f M w) {c : Call} (ho : o.op = .call c) {b : Builtin} (hc : c.callee = .builtin b) {A : Array Value} (hA : c.args.toList.map ρ = A.toList) {V : Value} (hr : (builtin b c.argTypes o.type (c.args.map fun | .const _ => true | _ => false) A).run P w = .ok (.value V) w) (hv : VRel f v V) : Fine P ρ o w B f M v M := by
  have hargs : c.args.map ρ = A := by apply Array.ext'; simpa using hA
  refine Fine.same hm (V := V) ?_ hv
  simp [execOp, ho, resolve, hc, invoke, hargs]
  exact hr
theorem fine_lenStr (hm : MRel B f M w) {c : Call} (ho : o.op = .call c) (hc : c.callee = .builtin .len) {t : TypeId} (ht : c.argTypes[0]? = some t) (hu : P.underlying t = some .string) {s : List UInt8} (hv : VRels f [.str s] (c.args.toList.map ρ)) : Fine P ρ o w B f M (.int .i64 s.length) M := by
  obtain ⟨A, hA, hvA⟩ := rels1 hv
  rw [VRel] at hvA
  subst hvA
  refine fine_builtin hm ho hc (A := #[_]) (by simpa using hA) (V := .int .i64 s.length) ?_ (by rw [VRel])
  have hsz : (ByteArray.mk s.toArray).size = s.length := by simp [ByteArray.size]
  simp only [builtin, Builtin.len_, ht, List.getElem?_toArray, List.getElem?_cons_zero, Sem.run_bind, run_underlying hu, Result.andThen_ok, Sem.run_pure, goInt, hsz]
theorem fine_lenSl (hm : MRel B f M w) {c : Call} (ho : o.op = .call c) (hc : c.callee = .builtin .len) {t e : TypeId} (ht : c.argTypes[0]? = some t) (hu : P.underlying t = some (.slice e)) {i off base n esz : Nat} {lim : Option Nat} (hv : VRels f [.sl i off base n esz lim] (c.args.toList.map ρ)) : Fine P ρ o w B f M (.int .i64 n) M := by
  obtain ⟨A, hA, hvA⟩ := rels1 hv
  rw [VRel] at hvA
  obtain ⟨x, cap, _, _, _, _, rfl⟩ := hvA
  refine fine_builtin hm ho hc (A := #[_]) (by simpa using hA) (V := .int .i64 n) ?_ (by rw [VRel])
  simp only [builtin, Builtin.len_, ht, List.getElem?_toArray, List.getElem?_cons_zero, Sem.run_bind, run_underlying hu, Result.andThen_ok, Sem.run_pure, goInt]
theorem fine_lenNil (hm : MRel B f M w) {c : Call} (ho : o.op = .call c) (hc : c.callee = .builtin .len) {t e : TypeId} (ht : c.argTypes[0]? = some t) (hu : P.underlying t = some (.slice e)) (hv : VRels f [.nilsl] (c.args.toList.map ρ)) : Fine P ρ o w B f M (.int .i64 0) M := by
  obtain ⟨A, hA, hvA⟩ := rels1 hv
  rw [VRel] at hvA
  subst hvA
  refine fine_builtin hm ho hc (A := #[_]) (by simpa using hA) (V := .int .i64 0) ?_ (by rw [VRel])
  simp only [builtin, Builtin.len_, ht, List.getElem?_toArray, List.getElem?_cons_zero, Sem.run_bind, run_underlying hu, Result.andThen_ok, Sem.run_pure, goInt]
  rfl
theorem fine_lenC (hm : MRel B f M w) {c : Call} (ho : o.op = .call c) (hc : c.callee = .builtin .len) {t e : TypeId} {n : Nat} (ht : c.argTypes[0]? = some t) (hu : P.underlying t = some (.array n e)) {a : AV} (hv : VRels f [a] (c.args.toList.map ρ)) : Fine P ρ o w B f M (.int .i64 n) M := by
  obtain ⟨A, hA, hvA⟩ := rels1 hv
  refine fine_builtin hm ho hc (A := #[A]) (by simpa using hA) (V := .int .i64 n) ?_ (by rw [VRel])
  simp only [builtin, Builtin.len_, ht, List.getElem?_toArray, List.getElem?_cons_zero, Sem.run_bind, run_underlying hu, Result.andThen_ok, goInt]
  cases A <;> rfl
theorem min_run : ∀ (l : List AV) (k : IntKind) (x : Int) (Vs : List Value), VRels f l Vs → minA.go k x l = some v → ∃ V, (Vs.foldlM Builtin.min2 (.int k x)).run P w = .ok V w ∧ VRel f v V
  | [], k, x, Vs, hv, h => by
    simp only [minA.go, Option.some.injEq] at h; subst h
    rw [VRels] at hv; subst hv
    exact ⟨.int k x, by simp, by rw [VRel]⟩
  | u :: l, k, x, Vs, hv, h => by
    rw [VRels] at hv
    obtain ⟨U, r, rfl, hU, hr⟩ := hv
    cases u <;> simp only [minA.go, reduceCtorEq] at h
    rw [VRel] at hU; subst hU
    obtain ⟨V, h1, h2⟩ := min_run l k _ r hr h
    exact ⟨V, by simpa [Builtin.min2] using h1, h2⟩
theorem max_run : ∀ (l : List AV) (k : IntKind) (x : Int) (Vs : List Value), VRels f l Vs → maxA.go k x l = some v → ∃ V, (Vs.foldlM Builtin.max2 (.int k x)).run P w = .ok V w ∧ VRel f v V
  | [], k, x, Vs, hv, h => by
    simp only [maxA.go, Option.some.injEq] at h; subst h
    rw [VRels] at hv; subst hv
    exact ⟨.int k x, by simp, by rw [VRel]⟩
  | u :: l, k, x, Vs, hv, h => by
    rw [VRels] at hv
    obtain ⟨U, r, rfl, hU, hr⟩ := hv
    cases u <;> simp only [maxA.go, reduceCtorEq] at h
    rw [VRel] at hU; subst hU
    obtain ⟨V, h1, h2⟩ := max_run l k _ r hr h
    exact ⟨V, by simpa [Builtin.max2] using h1, h2⟩
theorem fine_min (hm : MRel B f M w) {c : Call} (ho : o.op = .call c) (hc : c.callee = .builtin .min) {vs : List AV} (hv : VRels f vs (c.args.toList.map ρ)) (hn : minA vs = some v) : Fine P ρ o w B f M v M := by
  unfold minA at hn
  split at hn <;> first | (cases hn; done) | skip
  rename_i k x r
  rw [VRels] at hv
  obtain ⟨U, Vs, hU, hx, hr⟩ := hv
  rw [VRel] at hx; subst hx
  obtain ⟨V, h1, h2⟩ := min_run (P := P) (w := w) r k x Vs hr hn
  exact fine_builtin hm ho hc (A := (Value.int k x :: Vs).toArray) (by simpa using hU) (V := V) (by simp [builtin, Builtin.min_, h1]) h2
theorem fine_max (hm : MRel B f M w) {c : Call} (ho : o.op = .call c) (hc : c.callee = .builtin .max) {vs : List AV} (hv : VRels f vs (c.args.toList.map ρ)) (hn : maxA vs = some v) : Fine P ρ o w B f M v M := by
  unfold maxA at hn
  split at hn <;> first | (cases hn; done) | skip
  rename_i k x r
  rw [VRels] at hv
  obtain ⟨U, Vs, hU, hx, hr⟩ := hv
  rw [VRel] at hx; subst hx
  obtain ⟨V, h1, h2⟩ := max_run (P := P) (w := w) r k x Vs hr hn
  exact fine_builtin hm ho hc (A := (Value.int k x :: Vs).toArray) (by simpa using hU) (V := V) (by simp [builtin, Builtin.max_, h1]) h2

/-! ### Parts put together -/
theorem foldl_setL (off : Nat) : ∀ (l : List Value) (j : Nat) (A : Array Value), ((l.zipIdx j).foldl (fun cs (p : Value × Nat) => cs.setIfInBounds (off + p.2) p.1) A).toList = setL A.toList (off + j) l
  | [], j, A => by simp [setL]
  | v :: l, j, A => by
    simp only [List.zipIdx_cons, List.foldl_cons]
    rw [foldl_setL off l (j + 1), setL]
    simp [Nat.add_assoc]
theorem fill_run {place : Nat → Option (Nat × Nat)} : ∀ (is : List Nat) (pl : List (Nat × Nat)) (vs : List AV) (Vs : List Value) (z c : AV) (A : Array Value),
    fillA z pl vs = some c → VRels f vs Vs → is.length = vs.length → (∀ (j i : Nat) p, is[j]? = some i → pl[j]? = some p → place i = some p) → z.isAgg = true → VRels f z.cells A.toList →
    ∃ A', Instr.fill place A (is.zip Vs) = some A' ∧ c.isAgg = true ∧ VRels f c.cells A'.toList ∧ c.csize = z.csize
  | [], pl, vs, Vs, z, c, A, h, hv, hl, _, hz, hA => by
    obtain rfl : vs = [] := List.length_eq_zero_iff.1 (by simpa using hl.symm)
    cases pl with
    | nil => simp only [fillA, Option.some.injEq] at h; subst h; exact ⟨A, by simp [Instr.fill], hz, hA, rfl⟩
    | cons => simp [fillA] at h
  | i :: is, pl, vs, Vs, z, c, A, h, hv, hl, hp, hz, hA => by
    cases vs with
    | nil => simp at hl
    | cons v vs =>
      rw [VRels] at hv
      obtain ⟨V, Vs, rfl, hV, hVs⟩ := hv
      cases pl with
      | nil => simp [fillA] at h
      | cons p pl =>
        obtain ⟨off, n⟩ := p
        simp only [fillA] at h
        cases hq : (Nat.beq v.csize n && v.plain) with
        | false => simp [hq] at h
        | true =>
          simp only [hq, cond_true] at h
          simp only [Bool.and_eq_true] at hq
          obtain ⟨hq1, hq2⟩ := hq
          obtain rfl := Nat.eq_of_beq_eq_true hq1
          split at h
          · rename_i z' hz'
            obtain ⟨g1, g2, g3, g4, g5, g6, _⟩ := putR_cells hz'
            have hVc := hV.cells g6
            have hlen : V.cells.toList.length = v.csize := by rw [← hVc.length, csize_cells]
            have hAl : A.toList.length = z.csize := by rw [← hA.length, csize_cells]
            have hpl := hp 0 i (off, v.csize) (by simp) (by simp)
            have hnew : (V.cells.zipIdx.foldl (fun cs (p : Value × Nat) => cs.setIfInBounds (off + p.2) p.1) A).toList = A.toList.take off ++ (V.cells.toList ++ A.toList.drop (off + v.csize)) := by
              rw [← Array.foldl_toList, Array.toList_zipIdx, foldl_setL, Nat.add_zero, setL_mid _ _ _ (by rw [hlen, hAl]; exact g2), hlen]
            have hA' : VRels f z'.cells (V.cells.zipIdx.foldl (fun cs (p : Value × Nat) => cs.setIfInBounds (off + p.2) p.1) A).toList := by
              rw [hnew, g4]
              exact (hA.take off).app (hVc.app (hA.drop _))
            obtain ⟨A', r1, r2, r3, r4⟩ := fill_run is pl vs Vs z' c _ h hVs (by simpa using hl) (fun j i' p h1 h2 => hp (j + 1) i' p (by simpa using h1) (by simpa using h2)) g1 hA'
            refine ⟨A', ?_, r2, r3, r4.trans g3⟩
            have c1 : ¬ (V.cells.size ≠ v.csize ∨ off + V.cells.size > A.size) := by
              simp only [Array.length_toList] at hlen hAl
              omega
            simp only [List.zip_cons_cons, Instr.fill, hpl]
            rw [if_neg (by simpa using c1)]
            exact r1
          · cases h
end
end Go.Proofs.Ytfdhfhgljhnhlaa
/- Each operation of the small machine stands for what the program's operation does: parts put together, new slices, parts of slices. No condition. -/
namespace Go.Proofs.Ytfdhfhgljhnhlaa
open Go Go.RowKit

section
variable {P : Program} {B : Nat} {f : FM} {M M' : Mem} {w : World} {ρ : Operand → Value} {o : Oper} {v : AV}

theorem map_zip (ps : List (Nat × Operand)) : (ps.map fun (i, x) => (i, ρ x)) = (ps.map (·.1)).zip ((ps.map (·.2)).map ρ) := by
  induction ps with
  | nil => rfl
  | cons p ps ih => simp [ih]
theorem fill_len : ∀ {z c : AV} {pl : List (Nat × Nat)} {vs : List AV}, fillA z pl vs = some c → pl.length = vs.length
  | z, c, [], [], _ => rfl
  | z, c, [], v :: vs, h => by simp [fillA] at h
  | z, c, p :: pl, [], h => by simp [fillA] at h
  | z, c, (a, b) :: pl, v :: vs, h => by
    simp only [fillA] at h
    cases hq : (Nat.beq v.csize b && v.plain) with
    | false => simp [hq] at h
    | true =>
      simp only [hq, cond_true] at h
      split at h
      · simpa using fill_len h
      · cases h
theorem placesS_get {fs : Array Field} : ∀ {is : List Nat} {pl : List (Nat × Nat)}, placesS P fs is = some pl → is.length = pl.length ∧ ∀ (j i : Nat) p, is[j]? = some i → pl[j]? = some p → ∃ fd, fs[i]? = some fd ∧ sizeT P fd.type = some p.2 ∧ p.1 = fd.offset
  | [], pl, h => by simp only [placesS, Option.some.injEq] at h; subst h; exact ⟨rfl, by simp⟩
  | i :: is, pl, h => by
    simp only [placesS] at h
    split at h
    · rename_i fd hfd
      split at h
      · rename_i n r hn hr
        simp only [Option.some.injEq] at h; subst h
        have ih := placesS_get hr
        refine ⟨by simp [ih.1], ?_⟩
        intro j i' p hi hp
        cases j with
        | zero =>
          simp only [List.getElem?_cons_zero, Option.some.injEq] at hi hp
          subst hi; subst hp
          exact ⟨fd, hfd, hn, rfl⟩
        | succ j => exact ih.2 j i' p (by simpa using hi) (by simpa using hp)
      · cases h
    · cases h
theorem placesA_get (s : Nat) : ∀ (is : List Nat), (placesA s is).length = is.length ∧ ∀ (j i : Nat) p, is[j]? = some i → (placesA s is)[j]? = some p → p = (i * s, s)
  | [] => ⟨rfl, by simp⟩
  | i :: is => by
    have ih := placesA_get s is
    refine ⟨by simp [placesA, ih.1], ?_⟩
    intro j i' p hi hp
    cases j with
    | zero =>
      simp only [placesA, List.getElem?_cons_zero, Option.some.injEq] at hi hp
      subst hi; exact hp.symm
    | succ j => exact ih.2 j i' p (by simpa using hi) (by simpa [placesA] using hp)
theorem run_mapM_sizes : ∀ (fs : List Field) (w : World), sizesOK P fs = true → ∃ ps : List (Nat × Nat), (fs.mapM (m := Sem) fun f => do pure (f.offset, ← sizeOf f.type)).run P w = .ok ps w ∧ ∀ (i : Nat) fd, fs[i]? = some fd → ∃ n, sizeT P fd.type = some n ∧ ps[i]? = some (fd.offset, n)
  | [], w, _ => ⟨[], by simp, by simp⟩
  | fd :: fs, w, h => by
    simp only [sizesOK, Bool.and_eq_true, Option.isSome_iff_exists] at h
    obtain ⟨⟨n, hn⟩, h⟩ := h
    obtain ⟨ps, h1, h2⟩ := run_mapM_sizes fs w h
    refine ⟨(fd.offset, n) :: ps, ?_, ?_⟩
    · rw [List.mapM_cons]
      simp only [Sem.run_bind, run_sizeOf hn, Result.andThen_ok, Sem.run_pure, bind_assoc, pure_bind, h1]
    · intro i fd' hi
      cases i with
      | zero => simp only [List.getElem?_cons_zero, Option.some.injEq] at hi; subst hi; exact ⟨n, hn, by simp⟩
      | succ i => obtain ⟨m, h3, h4⟩ := h2 i fd' (by simpa using hi); exact ⟨m, h3, by simpa using h4⟩
theorem zero_cells {z : AV} {V : Value} (hr : VRel f z V) (hz : z.isAgg = true) : VRels f z.cells V.cells.toList := hr.cells (.inl hz)
theorem agg_of_cells {c : AV} {A : Array Value} (h : c.isAgg = true) (hA : VRels f c.cells A.toList) : VRel f c (.agg A) := by
  cases c with
  | agg l => rw [VRel]; exact ⟨A, rfl, hA⟩
  | nums k l =>
    have := VRels.of_nums (by simpa [AV.cells] using hA)
    rw [VRel, ← this]
  | _ => cases h
theorem fine_buildS (hm : MRel B f M w) {ty : TypeId} {ps : Array (Nat × Operand)} (ho : o.op = .build ty ps) {z : AV} (hz : zeroT P ty = some z) (hza : z.isAgg = true) {fs : Array Field} (hu : P.underlying ty = some (.struct fs)) (hsz : sizesOK P fs.toList = true) {pl : List (Nat × Nat)} (hpl : placesS P fs (ps.toList.map (·.1)) = some pl)
    {vs : List AV} (hv : VRels f vs ((ps.toList.map (·.2)).map ρ)) (hc : fillA z pl vs = some v) : Fine P ρ o w B f M v M := by
  obtain ⟨i, V, hi, hV, hr, _⟩ := zeroT_rel (f := f) hz
  obtain ⟨pS, r1, r2⟩ := run_mapM_sizes (P := P) fs.toList w hsz
  have hp := placesS_get hpl
  obtain ⟨A', g1, g2, g3, g4⟩ := fill_run (place := fun j : Nat => pS[j]?) (ps.toList.map (·.1)) pl vs _ z v V.cells hc hv (by rw [hp.1, fill_len hc]) (fun j i p h1 h2 => by
    obtain ⟨fd, a1, a2, a3⟩ := hp.2 j i p h1 h2
    obtain ⟨n, b1, b2⟩ := r2 i fd (by simpa using a1)
    rw [a2] at b1
    obtain rfl := Option.some.inj b1
    show pS[i]? = some p
    rw [b2, ← a3]) hza (zero_cells hr hza)
  refine Fine.same hm (V := .agg A') ?_ (agg_of_cells g2 g3)
  have hmap : (fs.mapM (m := Sem) fun f => do pure (f.offset, ← sizeOf f.type)).run P w = .ok pS.toArray w := by
    rw [Array.mapM_eq_mapM_toList]
    simp only [Sem.run_map]
    rw [r1]; rfl
  simp only [execOp, ho, Instr.build, Sem.run_bind, run_zeroValue hi hV, Result.andThen_ok, run_underlying hu]
  rw [hmap]
  simp only [Result.andThen_ok]
  have e1 : (ps.map fun (i, x) => (i, ρ x)).toList = (ps.toList.map (·.1)).zip ((ps.toList.map (·.2)).map ρ) := by
    rw [← map_zip]; simp
  rw [e1]
  have e2 : (fun j : Nat => pS.toArray[j]?) = fun j : Nat => pS[j]? := by funext j; simp
  rw [e2, g1]
  rfl
theorem fine_buildA (hm : MRel B f M w) {ty e : TypeId} {ps : Array (Nat × Operand)} (ho : o.op = .build ty ps) {z : AV} (hz : zeroT P ty = some z) (hza : z.isAgg = true) {n s : Nat} (hu : P.underlying ty = some (.array n e)) (hs : sizeT P e = some s)
    {vs : List AV} (hv : VRels f vs ((ps.toList.map (·.2)).map ρ)) (hc : fillA z (placesA s (ps.toList.map (·.1))) vs = some v) : Fine P ρ o w B f M v M := by
  obtain ⟨i, V, hi, hV, hr, _⟩ := zeroT_rel (f := f) hz
  have hp := placesA_get s (ps.toList.map (·.1))
  obtain ⟨A', g1, g2, g3, g4⟩ := fill_run (place := fun i => some (i * s, s)) (ps.toList.map (·.1)) _ vs _ z v V.cells hc hv (by rw [← hp.1, fill_len hc]) (fun j i p h1 h2 => by rw [hp.2 j i p h1 h2]) hza (zero_cells hr hza)
  refine Fine.same hm (V := .agg A') ?_ (agg_of_cells g2 g3)
  simp only [execOp, ho, Instr.build, Sem.run_bind, run_zeroValue hi hV, Result.andThen_ok, run_underlying hu, run_sizeOf hs]
  have e1 : (ps.map fun (i, x) => (i, ρ x)).toList = (ps.toList.map (·.1)).zip ((ps.toList.map (·.2)).map ρ) := by
    rw [← map_zip]; simp
  rw [e1, g1]
  rfl

/-! ### Cells of noughts -/
theorem rep_cells {z c : AV} {n : Nat} (h : z.rep n = some c) : c.isAgg = true ∧ c.cells = (List.replicate n z.cells).flatten ∧ c.csize = n * z.csize := by
  cases z <;> simp only [AV.rep, Option.some.injEq, reduceCtorEq] at h <;> subst h
  · exact ⟨rfl, rfl, by simp [AV.csize]⟩
  · rename_i k l
    refine ⟨rfl, ?_, by simp [AV.csize]⟩
    simp [AV.cells, List.map_flatten]
theorem made_flat (z : Array Value) (hz : 0 < z.size) : ∀ n : Nat, ((Array.range (n * z.size)).map fun i => z[i % z.size]!).toList = (List.replicate n z.toList).flatten
  | 0 => by simp
  | n + 1 => by
    have ih := made_flat z hz n
    rw [List.replicate_succ, List.flatten_cons, ← ih, show (n + 1) * z.size = z.size + n * z.size by rw [Nat.succ_mul, Nat.add_comm]]
    simp only [Array.toList_map, Array.toList_range, List.range_add, List.map_append, List.map_map]
    congr 1
    · apply List.ext_getElem
      · simp
      · intro i h1 h2
        simp only [List.length_map, List.length_range] at h1
        simp [Nat.mod_eq_of_lt h1, h1]
    · apply List.map_congr_left
      intro i _
      simp
theorem aggBlock_rel {z : AV} {V : Value} (hr : VRel f z V) (hk : z.isAgg = true ∨ z.one = true) : (aggBlock z).isAgg = true ∧ VRels f (aggBlock z).cells V.cells.toList ∧ (aggBlock z).csize = V.cells.size := by
  by_cases hi : ∃ k n, z = .int k n
  · obtain ⟨k, n, rfl⟩ := hi
    have h := block_rel (a := .int k n) (c := .agg [.int k n]) rfl hr
    exact ⟨rfl, h.2.1, h.2.2⟩
  · obtain ⟨b, hb⟩ : ∃ b, z.block = some b := by cases z <;> simp_all [AV.block, AV.isAgg, AV.one]
    have := block_rel hb hr
    unfold aggBlock
    split
    · rename_i k n
      exact absurd ⟨k, n, rfl⟩ hi
    · rw [hb]; exact this
theorem rep_rel {z c : AV} {n : Nat} (h : z.rep n = some c) {A : Array Value} (hA : VRels f z.cells A.toList) (h0 : 0 < A.size) : VRels f c.cells ((Array.range (n * A.size)).map fun i => A[i % A.size]!).toList := by
  rw [(rep_cells h).2.1, made_flat A h0]
  exact hA.flat_rep n
theorem fine_buildSl (hm : MRel B f M w) (hB : B ≤ w.heap.size) {ty e : TypeId} {n : Nat} {ps : Array (Nat × Operand)} (ho : o.op = .buildSlice ty n ps) (hu : P.underlying ty = some (.slice e)) {z c : AV} {s : Nat} (hz : zeroT P e = some z) (hs : sizeT P e = some s) (h0 : 0 < s) (hlim : n * s ≤ 16777216) (hzs : (aggBlock z).csize = s) (hc : (aggBlock z).rep n = some c)
    {vs : List AV} (hv : VRels f vs ((ps.toList.map (·.2)).map ρ)) (hf : fillA c (placesA s (ps.toList.map (·.1))) vs = some v) : Fine P ρ o w B f M (.sl M.length 0 0 n s none) (M ++ [⟨v, .own, false⟩]) := by
  obtain ⟨i, V, hi, hV, hr, hk⟩ := zeroT_rel (f := f) hz
  obtain ⟨k1, k2, k3⟩ := aggBlock_rel hr hk
  have hVs : V.cells.size = s := by rw [← k3, hzs]
  have hrep := rep_rel hc k2 (by omega)
  have hrc := rep_cells hc
  have hp := placesA_get s (ps.toList.map (·.1))
  obtain ⟨A', g1, g2, g3, g4⟩ := fill_run (place := fun i => some (i * s, s)) (ps.toList.map (·.1)) _ vs _ c v ((Array.range (n * V.cells.size)).map fun i => V.cells[i % V.cells.size]!) hf hv (by rw [← hp.1, fill_len hf]) (fun j i p h1 h2 => by rw [hp.2 j i p h1 h2]) hrc.1 hrep
  have hA's : A'.size = n * s := by
    have := g3.length
    rw [csize_cells, g4, hrc.2.2, hzs] at this
    rw [← Array.length_toList, ← this]
  have hvs : v.csize = A'.size := by rw [g4, hrc.2.2, hzs, hA's]
  refine alloc_fine hm hB (A := A') (t := e) (V := .slice (some ⟨w.heap.size, 0, none⟩) n n) (.inl rfl) g2 (fun _ => hvs) (Nat.le_of_eq hvs) (by rw [hvs, take_all (by simp)]; exact g3) ?_ ?_
  · have e1 : (ps.map fun (i, x) => (i, ρ x)).toList = (ps.toList.map (·.1)).zip ((ps.toList.map (·.2)).map ρ) := by
      rw [← map_zip]; simp
    simp only [execOp, ho, Instr.buildSlice, Sem.run_bind, run_underlying hu, Result.andThen_ok, run_sizeOf hs, e1]
    rw [if_neg (by simpa using hlim)]
    by_cases hn : n * s = 0
    · rw [if_pos hn]
      have e3 : Array.map (fun x => (#[] : Array Value)[x % (#[] : Array Value).size]!) (Array.range (n * s)) = Array.map (fun i => V.cells[i % V.cells.size]!) (Array.range (n * V.cells.size)) := by
        rw [hVs, hn]; simp
      simp only [Sem.run_bind, Sem.run_pure, Result.andThen_ok]
      rw [e3, g1]
      rfl
    · rw [if_neg hn]
      simp only [Sem.run_bind, run_zeroValue hi hV, Sem.run_pure, Result.andThen_ok]
      rw [← hVs] at g1 ⊢
      simp only [g1]
      rfl
  · rw [VRel]
    refine ⟨_, n, new_get hm _, h0, by simp [hA's], Nat.le_refl _, by simp⟩
theorem fine_mksl (hm : MRel B f M w) (hB : B ≤ w.heap.size) {ty e : TypeId} {x y : Operand} (ho : o.op = .makeSlice ty x y) (hu : P.underlying ty = some (.slice e)) {z cs : AV} {s b : Nat} (hz : zeroT P e = some z) (hs : sizeT P e = some s) (hb : bytesT P e = some b) (h0 : 0 < s) (hzs : (aggBlock z).csize = s)
    {k k' : IntKind} {l c : Nat} (hx : VRel f (.int k l) (ρ x)) (hy : VRel f (.int k' c) (ρ y)) (hlc : l ≤ c) (hbig : c * b ≤ 140737488355328) (h63 : c ≤ 9223372036854775807) (hrep : (aggBlock z).rep c = some cs) : Fine P ρ o w B f M (.sl M.length 0 0 l s none) (M ++ [⟨cs, .own, false⟩]) := by
  rw [VRel] at hx
  rw [VRel] at hy
  obtain ⟨i, V, hi, hV, hr, hk⟩ := zeroT_rel (f := f) hz
  obtain ⟨i', hi', rfl⟩ := sizeT_spec hs
  obtain rfl : i = i' := by rw [hi] at hi'; exact Option.some.inj hi'
  obtain ⟨i'', hi'', rfl⟩ := bytesT_spec hb
  obtain rfl : i = i'' := by rw [hi] at hi''; exact Option.some.inj hi''
  obtain ⟨k1, k2, k3⟩ := aggBlock_rel hr hk
  have hVs : V.cells.size = i.size := by rw [← k3, hzs]
  have hrl := rep_rel hrep k2 (by omega)
  have hrc := rep_cells hrep
  have hrun := run_make (P := P) w ty e i V hu hi hV k k' l c (by omega) (by omega) (by have h2 := hbig; rw [Nat.mul_comm] at h2; omega) (by omega)
  have hsz : cs.csize = (madeCells V.cells (c * i.size)).size := by rw [hrc.2.2, hzs, size_madeCells]
  refine alloc_fine hm hB (A := madeCells V.cells (c * i.size)) (t := e) (V := .slice (some ⟨w.heap.size, 0, none⟩) l c) (.inl rfl) hrc.1 (fun _ => hsz) (Nat.le_of_eq hsz) ?_ ?_ ?_
  · rw [hsz, take_all (by simp)]
    unfold madeCells
    rw [← hVs]; exact hrl
  · simp only [execOp, ho, hx, hy, Sem.run_bind, hrun, Result.andThen_ok, Sem.run_pure, Int.toNat_natCast]
  · rw [VRel]
    exact ⟨_, c, new_get hm _, h0, by simp [size_madeCells], hlc, by simp⟩

/-! ### Parts of slices -/
theorem bounds_run {lo hi : Option Operand} {bs : List AV} {d cap l h : Nat} {isS : Bool} (hb : boundsA lo.isSome hi.isSome d bs = some (l, h)) (hv : VRels f bs ((lo.toList ++ hi.toList).map ρ)) (hd : d ≤ cap) :
    (Instr.sliceBounds isS d cap (lo.map ρ) (hi.map ρ) none).run P w = .ok (l, h, cap) w ∧ l ≤ h ∧ h ≤ d := by
  have one : ∀ {k : IntKind} {n : Int} {m y : Nat} {code : BoundsCode} {V : Value}, VRel f (.int k n) V → n = m → m ≤ y → (Instr.sliceBound V y code).run P w = .ok m w := by
    intro k n m y code V hV hn hm
    rw [VRel] at hV; subst hV; subst hn
    have : (m : Int) ≤ y := by omega
    simp [Instr.sliceBound, asIntOf, this]
  unfold boundsA at hb
  split at hb
  · rename_i h1 h2
    simp only [Option.some.injEq, Prod.mk.injEq] at hb
    obtain ⟨rfl, rfl⟩ := hb
    rw [Option.isSome_eq_false_iff, Option.isNone_iff_eq_none] at h1 h2
    subst h1; subst h2
    exact ⟨by simp [Instr.sliceBounds], Nat.zero_le _, Nat.le_refl _⟩
  · rename_i k a h1 h2
    rw [Option.isSome_iff_exists] at h1
    rw [Option.isSome_eq_false_iff, Option.isNone_iff_eq_none] at h2
    obtain ⟨x, rfl⟩ := h1
    subst h2
    split at hb
    · rename_i q hq
      simp only [Option.some.injEq, Prod.mk.injEq] at hb
      obtain ⟨rfl, rfl⟩ := hb
      obtain ⟨hq1, hq2⟩ := inB_spec hq
      obtain ⟨X, hX, hvX⟩ := rels1 hv
      simp at hX; subst hX
      exact ⟨by simp [Instr.sliceBounds, one hvX hq1 hq2], hq2, Nat.le_refl _⟩
    · cases hb
  · rename_i k a h1 h2
    rw [Option.isSome_iff_exists] at h2
    rw [Option.isSome_eq_false_iff, Option.isNone_iff_eq_none] at h1
    obtain ⟨x, rfl⟩ := h2
    subst h1
    split at hb
    · rename_i q hq
      simp only [Option.some.injEq, Prod.mk.injEq] at hb
      obtain ⟨rfl, rfl⟩ := hb
      obtain ⟨hq1, hq2⟩ := inB_spec hq
      obtain ⟨X, hX, hvX⟩ := rels1 hv
      simp at hX; subst hX
      exact ⟨by simp [Instr.sliceBounds, one hvX hq1 (Nat.le_trans hq2 hd)], Nat.zero_le _, hq2⟩
    · cases hb
  · rename_i k a k' b h1 h2
    rw [Option.isSome_iff_exists] at h1 h2
    obtain ⟨x, rfl⟩ := h1
    obtain ⟨y, rfl⟩ := h2
    split at hb
    · rename_i q hq
      obtain ⟨hq1, hq2⟩ := inB_spec hq
      split at hb
      · rename_i r hr
        obtain ⟨hr1, hr2⟩ := inB_spec hr
        simp only [Option.some.injEq, Prod.mk.injEq] at hb
        obtain ⟨rfl, rfl⟩ := hb
        obtain ⟨X, Y, hX, hvX, hvY⟩ := rels2 hv
        simp at hX
        obtain ⟨rfl, rfl⟩ := hX
        exact ⟨by simp [Instr.sliceBounds, one hvY hq1 (Nat.le_trans hq2 hd), one hvX hr1 hr2], hr2, hq2⟩
      · cases hb
    · cases hb
  · cases hb
theorem fine_slA (hm : MRel B f M w) {ty e : TypeId} {x : Operand} {lo hi : Option Operand} (ho : o.op = .slice ty x lo hi none) {n s : Nat} (hu : P.underlying ty = some (.array n e)) (hs : sizeT P e = some s) (h0 : 0 < s) {i off : Nat} (hr : VRel f (.ptr i off) (ρ x)) {bs : List AV} (hv : VRels f bs ((lo.toList ++ hi.toList).map ρ)) {l h : Nat} (hb : boundsA lo.isSome hi.isSome n bs = some (l, h)) :
    Fine P ρ o w B f M (.sl i (off + l * s) off (h - l) s (some (off + n * s))) M := by
  rw [VRel] at hr
  obtain ⟨z, hz, hr⟩ := hr
  obtain ⟨h1, h2, h3⟩ := bounds_run (P := P) (w := w) (isS := false) hb hv (Nat.le_refl n)
  refine Fine.same hm (V := .slice (some (if n = l then ⟨z.1, off, none⟩ else ⟨z.1, off + l * s, none⟩)) (h - l) (n - l)) ?_ ?_
  · simp only [execOp, ho, Instr.sliceAt, Option.map_none, Sem.run_bind, run_underlying hu, Result.andThen_ok, hr, Instr.sureAddr, Sem.run_pure, h1, run_sizeOf hs, addr_add]
  · rw [VRel]
    refine ⟨z, n - l, hz, h0, ?_, by omega, ?_⟩
    · simp only [Option.getD_some]
      rw [Nat.add_assoc, ← Nat.add_mul, show l + (n - l) = n by omega]
    · by_cases hnl : n = l
      · subst hnl; simp
      · rw [if_neg hnl, if_neg (by omega)]
theorem fine_slS (hm : MRel B f M w) {ty e : TypeId} {x : Operand} {lo hi : Option Operand} (ho : o.op = .slice ty x lo hi none) {s : Nat} (hu : P.underlying ty = some (.slice e)) (hs : sizeT P e = some s) {i off base len : Nat} {lim : Option Nat} (hr : VRel f (.sl i off base len s lim) (ρ x)) {bs : List AV} (hv : VRels f bs ((lo.toList ++ hi.toList).map ρ)) {l h : Nat} (hb : boundsA lo.isSome hi.isSome len bs = some (l, h)) :
    Fine P ρ o w B f M (.sl i (off + l * s) (bif Nat.beq l 0 then base else off) (h - l) s lim) M := by
  rw [VRel] at hr
  obtain ⟨z, cap, hz, h0, hcap, hlc, hr⟩ := hr
  obtain ⟨h1, h2, h3⟩ := bounds_run (P := P) (w := w) (isS := true) hb hv hlc
  refine Fine.same hm (V := .slice (some (if cap = l then ⟨z.1, if cap = 0 then base else off, none⟩ else ⟨z.1, (if cap = 0 then base else off) + l * s, none⟩)) (h - l) (cap - l)) ?_ ?_
  · simp only [execOp, ho, Instr.sliceAt, Instr.slice, Option.map_none, Sem.run_bind, run_underlying hu, Result.andThen_ok, hr, h1, run_sizeOf hs, Sem.run_pure]
    split <;> simp [addr_add]
  · rw [VRel]
    refine ⟨z, cap - l, hz, h0, ?_, by omega, ?_⟩
    · rw [← hcap, Nat.add_assoc, ← Nat.add_mul, show l + (cap - l) = cap by omega]
    · by_cases hl : l = 0
      · subst hl
        by_cases hc : cap = 0
        · subst hc; simp
        · simp [hc]
      · have : Nat.beq l 0 = false := by cases l with | zero => exact absurd rfl hl | succ _ => rfl
        have hc0 : cap ≠ 0 := by omega
        by_cases hcl : cap = l
        · rw [if_pos hcl, if_neg hc0, if_pos (show cap - l = 0 by omega), this]; simp
        · rw [if_neg hcl, if_neg hc0, if_neg (show ¬ cap - l = 0 by omega)]
theorem fine_slNil (hm : MRel B f M w) {ty e : TypeId} {x : Operand} {lo hi : Option Operand} (ho : o.op = .slice ty x lo hi none) {s : Nat} (hu : P.underlying ty = some (.slice e)) (hs : sizeT P e = some s) (hr : VRel f .nilsl (ρ x)) {bs : List AV} (hv : VRels f bs ((lo.toList ++ hi.toList).map ρ)) {l h : Nat} (hb : boundsA lo.isSome hi.isSome 0 bs = some (l, h)) :
    Fine P ρ o w B f M .nilsl M := by
  rw [VRel] at hr
  obtain ⟨h1, h2, h3⟩ := bounds_run (P := P) (w := w) (isS := true) hb hv (Nat.le_refl 0)
  obtain rfl : h = 0 := by omega
  obtain rfl : l = 0 := by omega
  refine Fine.same hm (V := .slice none 0 0) ?_ (by rw [VRel])
  simp only [execOp, ho, Instr.sliceAt, Instr.slice, Option.map_none, Sem.run_bind, run_underlying hu, Result.andThen_ok, hr, h1, run_sizeOf hs, Sem.run_pure]
  simp
theorem fine_slStr (hm : MRel B f M w) {ty : TypeId} {x : Operand} {lo hi : Option Operand} (ho : o.op = .slice ty x lo hi none) (hu : P.underlying ty = some .string) {t : List UInt8} (hr : VRel f (.str t) (ρ x)) {bs : List AV} (hv : VRels f bs ((lo.toList ++ hi.toList).map ρ)) {l h : Nat} (hb : boundsA lo.isSome hi.isSome t.length bs = some (l, h)) :
    Fine P ρ o w B f M (.str ((t.take h).drop l)) M := by
  rw [VRel] at hr
  have hsz : (ByteArray.mk t.toArray).size = t.length := by simp [ByteArray.size]
  obtain ⟨h1, h2, h3⟩ := bounds_run (P := P) (w := w) (isS := false) hb hv (Nat.le_refl _)
  refine Fine.same hm (V := .string ((ByteArray.mk t.toArray).extract l h)) ?_ ?_
  · simp only [execOp, ho, Instr.sliceAt, Instr.slice, Option.map_none, Sem.run_bind, run_underlying hu, Result.andThen_ok, hr, hsz, Option.isSome_none, Bool.false_eq_true, if_false, h1, Sem.run_pure]
  · rw [VRel]
    congr 1
    apply ByteArray.ext
    apply Array.ext'
    simp [ByteArray.data_extract, List.drop_take]
end
end Go.Proofs.Ytfdhfhgljhnhlaa
/- Each operation of the small machine stands for what the program's operation does: what grows, what is copied. No condition. -/
namespace Go.Proofs.Ytfdhfhgljhnhlaa
open Go Go.RowKit

section
variable {P : Program} {B : Nat} {f : FM} {M M' : Mem} {w : World} {ρ : Operand → Value} {o : Oper} {v : AV}

/-- A block that is given up. -/
theorem MRel.kill (h : MRel B f M w) (i : Nat) : MRel B f (M.set i ⟨.junk, .dead, true⟩) w ∧ Went f M w f (M.set i ⟨.junk, .dead, true⟩) w := by
  have old : ∀ (j : Nat) (k : Blk), (M.set i ⟨.junk, .dead, true⟩)[j]? = some k → k.kind = .dead ∨ M[j]? = some k := by
    intro j k hj
    by_cases hji : i = j
    · subst hji
      rw [List.getElem?_set_self (by have := lt_of_get hj; simpa using this)] at hj
      obtain rfl := Option.some.inj hj
      exact .inl rfl
    · rw [List.getElem?_set_ne hji] at hj
      exact .inr hj
  refine ⟨⟨fun j x hx => by simpa using h.dom j x hx, fun j k hj hd => (old j k hj).elim (fun e => absurd e hd) fun hq => h.tot j k hq hd, ?_, ?_, ?_⟩, rfl, rfl, rfl, Nat.le_refl _, fun _ _ _ => rfl, ?_⟩
  · intro j k x hj hx
    rcases old j k hj with hk | hj'
    · exact .inl hk
    · exact h.blk j k x hj' hx
  · intro j k x hj hx hm
    rcases old j k hj with hk | hj'
    · rw [hk] at hm; cases hm
    · exact h.fresh j k x hj' hx hm
  · intro j j' k k' x y hj hj' hx hy hne hm hd
    rcases old j k hj with hk | hq
    · rw [hk] at hm; cases hm
    · rcases old j' k' hj' with hk' | hq'
      · exact absurd hk' hd
      · exact h.inj j j' k k' x y hq hq' hx hy hne hm hd
  · rintro b ⟨j, k, x, hj, hm, hx, rfl⟩
    rcases old j k hj with hk | hq
    · rw [hk] at hm; cases hm
    · exact .inl ⟨j, k, x, hq, hm, hx, rfl⟩
/-- A block under a new number. -/
theorem MRel.shift (h : MRel B f M w) {i : Nat} {b : Blk} {x : Nat × Nat} (hi : M[i]? = some b) (hx : f i = some x) (hm : b.kind.mine = true) {d : Bool} :
    MRel B (upd f M.length x) (M.set i ⟨.junk, .dead, true⟩ ++ [⟨b.cells, b.kind, d⟩]) w ∧ Went f M w (upd f M.length x) (M.set i ⟨.junk, .dead, true⟩ ++ [⟨b.cells, b.kind, d⟩]) w := by
  obtain ⟨h1, h2⟩ := h.kill i
  have hil := lt_of_get hi
  have hpre : Sub f (upd f M.length x) := upd_sub h.none
  have old : ∀ (j : Nat) (k : Blk) (y : Nat × Nat), (M.set i ⟨.junk, .dead, true⟩)[j]? = some k → upd f M.length x j = some y → f j = some y := by
    intro j k y hj hy
    have := lt_of_get hj
    rwa [upd_ne _ _ (by simp at this; omega)] at hy
  have new : ∀ y : Nat × Nat, upd f M.length x (M.set i ⟨.junk, .dead, true⟩).length = some y → y = x := by
    intro y hy
    rw [List.length_set, upd_same] at hy
    exact (Option.some.inj hy).symm
  have live : ∀ (j : Nat) (k : Blk), (M.set i ⟨.junk, .dead, true⟩)[j]? = some k → k.kind ≠ .dead → M[j]? = some k ∧ j ≠ i := by
    intro j k hj hk
    by_cases hji : i = j
    · subst hji
      rw [List.getElem?_set_self hil] at hj
      obtain rfl := Option.some.inj hj
      exact absurd rfl hk
    · rw [List.getElem?_set_ne hji] at hj
      exact ⟨hj, Ne.symm hji⟩
  refine ⟨⟨fun j y hy => ?_, fun j k hj hd => ?_, ?_, ?_, ?_⟩, rfl, rfl, rfl, Nat.le_refl _, fun _ _ _ => rfl, ?_⟩
  · by_cases e : j = M.length
    · subst e; simp
    · rw [upd_ne _ _ e] at hy
      have := h.dom j y hy
      simp; omega
  · rcases getElem?_snoc hj with hj | ⟨rfl, rfl⟩
    · obtain ⟨y, hy⟩ := h1.tot j k hj hd
      exact ⟨y, hpre j y hy⟩
    · rw [List.length_set]; exact ⟨x, upd_same _ _ _⟩
  · intro j k y hj hy
    rcases getElem?_snoc hj with hj | ⟨rfl, rfl⟩
    · exact (h1.blk j k y hj (old j k y hj hy)).pre hpre
    · obtain rfl := new y hy
      rcases h.blk i b y hi hx with hb | ⟨A, t, fz, hb⟩
      · rw [hb] at hm; cases hm
      · exact .inr ⟨A, t, fz, hb.1, hb.2.1, hb.2.2.1, hb.2.2.2.1, hb.2.2.2.2.1, hb.2.2.2.2.2.1.pre hpre, hb.2.2.2.2.2.2⟩
  · intro j k y hj hy hmk
    rcases getElem?_snoc hj with hj | ⟨rfl, rfl⟩
    · exact h1.fresh j k y hj (old j k y hj hy) hmk
    · obtain rfl := new y hy
      exact h.fresh i b y hi hx hm
  · intro j j' k k' y y' hj hj' hy hy' hne hmk hd
    rcases getElem?_snoc hj with hq | ⟨e1, e2⟩ <;> rcases getElem?_snoc hj' with hq' | ⟨e3, e4⟩
    · exact h1.inj j j' k k' y y' hq hq' (old _ _ _ hq hy) (old _ _ _ hq' hy') hne hmk hd
    · obtain ⟨hq1, hq2⟩ := live j k hq (not_dead_of_mine hmk)
      subst e3
      obtain rfl := new y' hy'
      exact h.inj j i k b y y' hq1 hi (old _ _ _ hq hy) hx hq2 hmk (not_dead_of_mine hm)
    · obtain ⟨hq1, hq2⟩ := live j' k' hq' hd
      subst e1
      obtain rfl := new y hy
      exact h.inj i j' b k' y y' hi hq1 hx (old _ _ _ hq' hy') (Ne.symm hq2) hm hd
    · exact absurd (e1.trans e3.symm) hne
  · rintro c ⟨j, k, y, hj, hmk, hy, rfl⟩
    rcases getElem?_snoc hj with hj | ⟨rfl, rfl⟩
    · exact h2.own _ ⟨j, k, y, hj, hmk, old j k y hj hy, rfl⟩
    · obtain rfl := new y hy
      exact .inl ⟨i, b, y, hi, hm, hx, rfl⟩

/-! ### What is read for an append or a copy -/
theorem src_run {esz n : Nat} {x c : AV} {rs : List Nat} (h : srcA esz n M x = some (c, rs)) (hm : MRel B f M w) {X : Value} (hX : VRel f x X) (h0 : 0 < esz) :
    ∃ C : Array Value, (Builtin.firstCells esz n X).run P w = .ok C w ∧ c.isAgg = true ∧ VRels f c.cells C.toList ∧ c.csize = n * esz := by
  cases x <;> simp only [srcA, reduceCtorEq] at h
  case sl i off base len e lim =>
    cases hq : (Nat.beq e esz && Nat.ble n len) with
    | false => simp [hq] at h
    | true =>
      simp only [hq, cond_true] at h
      simp only [Bool.and_eq_true] at hq
      obtain rfl := Nat.eq_of_beq_eq_true hq.1
      have hn : n ≤ len := by simpa using hq.2
      split at h
      · rename_i b hb
        split at h
        · rename_i c' hc'
          simp only [Option.some.injEq, Prod.mk.injEq] at h
          obtain ⟨rfl, _⟩ := h
          obtain ⟨y, A, t, fz, hi, hy, hw, hsz, ha, hown, hle, hcs, hfz, hdd⟩ := hm.live hb
          rw [VRel] at hX
          obtain ⟨z, cap, hz, _, hcap, hlc, rfl⟩ := hX
          obtain rfl : y = z := by rw [hy] at hz; exact Option.some.inj hz
          obtain ⟨hle2, g1, g2, hvU, g5⟩ := sub_rel (f := f) hc' hcs
          rw [take_drop_le _ _ _ _ hle2] at hvU
          have hvc := hvU.cells (.inl g1)
          refine ⟨((A.toList.drop off).take (n * e)).toArray, ?_, g1, by simpa [Value.cells] using hvc, g2⟩
          simp only [Builtin.firstCells]
          by_cases hn0 : n = 0
          · subst hn0; simp [loadCells, loadCellsFrom]
          · rw [if_neg (by omega), run_loadCells_mid (P := P) hw off (n * e) (by omega)]
        · cases h
      · cases h
  case nilsl =>
    cases hq : Nat.beq n 0 with
    | false => simp [hq] at h
    | true =>
      simp only [hq, cond_true, Option.some.injEq, Prod.mk.injEq] at h
      obtain ⟨rfl, _⟩ := h
      obtain rfl := Nat.eq_of_beq_eq_true hq
      rw [VRel] at hX; subst hX
      exact ⟨#[], by simp [Builtin.firstCells], rfl, by simp [AV.cells, VRels], by simp [AV.csize]⟩
  case str s =>
    cases hq : (Nat.beq esz 1 && Nat.ble n s.length) with
    | false => simp [hq] at h
    | true =>
      simp only [hq, cond_true, Option.some.injEq, Prod.mk.injEq] at h
      obtain ⟨rfl, _⟩ := h
      simp only [Bool.and_eq_true] at hq
      obtain rfl := Nat.eq_of_beq_eq_true hq.1
      have hn : n ≤ s.length := by simpa using hq.2
      rw [VRel] at hX; subst hX
      refine ⟨(((ByteArray.mk s.toArray).extract 0 n).data.map fun b => .int .u8 b.toNat), by simp [Builtin.firstCells], rfl, ?_, by simp [AV.csize]; omega⟩
      have e : (((ByteArray.mk s.toArray).extract 0 n).data.map fun b => (Value.int .u8 b.toNat)).toList = ((s.take n).map fun b => (b.toNat : Int)).map (Value.int .u8) := by
        simp [ByteArray.data_extract]
        rfl
      rw [e]
      simp only [AV.cells]
      exact VRels.nums _ _

/-! ### How much a slice grows -/
theorem growBy_le (n : Nat) : ∀ (r c : Nat), c ≤ n + (n + 768) / 4 → Builtin.growBy n r c ≤ n + (n + 768) / 4
  | 0, c, h => by simpa [Builtin.growBy] using h
  | r + 1, c, h => by
    simp only [Builtin.growBy]
    split
    · exact h
    · exact growBy_le n r _ (by omega)
theorem nextcap_le {n c : Nat} (h : c < n) : Builtin.nextslicecap n c ≤ 2 * n + 192 := by
  unfold Builtin.nextslicecap
  split
  · omega
  · split
    · omega
    · have := growBy_le n 4 c (by omega)
      omega
theorem room_spec {n esz bytes : Nat} (h : roomA n esz bytes = true) (h0 : 0 < n) {m : Nat} (hm : m ≤ 2 * n + 192) : m * bytes ≤ 2 ^ 48 := by
  unfold roomA at h
  have h : n * (bytes + esz) ≤ 68719476736 := by simpa using h
  rw [Nat.mul_add] at h
  have hb : bytes ≤ n * bytes := Nat.le_mul_of_pos_left _ h0
  have h1 : m * bytes ≤ (2 * n + 192) * bytes := Nat.mul_le_mul_right _ hm
  rw [Nat.add_mul, Nat.mul_assoc] at h1
  omega
theorem join_rel {d c r : AV} (h : joinD d c = some r) {D C : List Value} (hd : VRels f d.cells D) (hc : VRels f c.cells C) (ha : d.isAgg = true) (hb : c.isAgg = true) : r.isAgg = true ∧ VRels f r.cells (D ++ C) ∧ r.csize = d.csize + c.csize := by
  have gen : d.join c = some r → r.isAgg = true ∧ VRels f r.cells (D ++ C) ∧ r.csize = d.csize + c.csize := by
    intro h
    have e : r.isAgg = true ∧ r.cells = d.cells ++ c.cells := by
      cases d <;> cases c <;> simp only [AV.join, Option.some.injEq, reduceCtorEq] at h
      case agg.agg => subst h; exact ⟨rfl, rfl⟩
      case agg.nums => subst h; exact ⟨rfl, rfl⟩
      case nums.agg => subst h; exact ⟨rfl, rfl⟩
      case nums.nums =>
        split at h
        · rename_i hk
          simp only [Option.some.injEq] at h; subst h; subst hk
          exact ⟨rfl, by simp [AV.cells]⟩
        · cases h
    refine ⟨e.1, by rw [e.2]; exact hd.app hc, ?_⟩
    rw [← csize_cells, e.2, List.length_append, csize_cells, csize_cells]
  unfold joinD at h
  split at h
  · simp only [Option.some.injEq] at h; subst h
    simp only [AV.cells, VRels] at hc
    subst hc
    exact ⟨ha, by simpa using hd, by simp [AV.csize]⟩
  · simp only [Option.some.injEq] at h; subst h
    simp only [AV.cells, VRels] at hd
    subst hd
    exact ⟨hb, by simpa using hc, by simp [AV.csize]⟩
  · exact gen h
/-- A new array: what was there, what is added, and room. -/
theorem grow_run {c : Call} {t e : TypeId} {u : TypeDesc} (ht : c.argTypes[0]? = some t) (hu : P.underlying t = some (.slice e)) {t' : TypeId} (ht' : c.argTypes[1]? = some t') (hu' : P.underlying t' = some u) (hni : ∀ k, u ≠ .int k) {s b : Nat} (hs : sizeT P e = some s) (hb : bytesT P e = some b) (hb0 : 0 < b) {z : AV} (hz : zeroT P e = some z) (hzs : (aggBlock z).csize = s)
    {base : Option Addr} {len cap n : Nat} {X : Value} {ty : TypeId} {D C : Array Value} (hlen : (Builtin.lenOf X).run P w = .ok n w) (hD : (Builtin.firstCells s len (.slice base len cap)).run P w.drew = .ok D w.drew) (hC : (Builtin.firstCells s n X).run P w.drew = .ok C w.drew) (hDs : D.size = len * s) (hCs : C.size = n * s) (hroom : roomA (len + n) s b = true) (hgrow : cap < len + n) :
    ∃ (cap' : Nat) (A : Array Value), len + n ≤ cap' ∧ A.size = cap' * s ∧ A.toList.take ((len + n) * s) = D.toList ++ C.toList ∧ (Builtin.append_ c.argTypes ty #[.slice base len cap, X]).run P w = .ok (.slice (some ⟨w.heap.size, 0, none⟩) (len + n) cap') (w.drew.alloc (.cells A e)) := by
  obtain ⟨i, V, hi, hV, hr, hk⟩ := zeroT_rel (f := noF) hz
  obtain ⟨i', hi', rfl⟩ := sizeT_spec hs
  obtain rfl : i = i' := by rw [hi] at hi'; exact Option.some.inj hi'
  obtain ⟨i'', hi'', rfl⟩ := bytesT_spec hb
  obtain rfl : i = i'' := by rw [hi] at hi''; exact Option.some.inj hi''
  obtain ⟨_, _, k3⟩ := aggBlock_rel hr hk
  have hVs : V.cells.size = i.size := by rw [← k3, hzs]
  have hpos : 0 < len + n := by omega
  have hcapb := room_spec hroom hpos (nextcap_le hgrow)
  let cap' := len + n + (w.tape w.drawn (.appendCap (len + n) cap e)) % (2 ^ 63 - (len + n))
  refine ⟨cap', D ++ C ++ Builtin.zeroCells V.cells (cap' - (len + n)), Nat.le_add_right _ _, ?_, ?_, ?_⟩
  · simp only [Array.size_append, hDs, hCs, size_zeroCells, hVs]
    rw [← Nat.add_mul, ← Nat.add_mul]
    congr 1
    show len + n + (cap' - (len + n)) = cap'
    have : len + n ≤ cap' := Nat.le_add_right _ _
    omega
  · rw [Array.toList_append, List.take_append_of_le_length (by simp [hDs, hCs, Nat.add_mul]), Array.toList_append, List.take_of_length_le (by simp [hDs, hCs, Nat.add_mul])]
  · have hzeros : (match u with | .int _ => true | _ => false) = false := by cases u <;> first | rfl | exact absurd rfl (hni _)
    have hask : (choose (.appendCap (len + n) cap e)).run P w = .ok cap' w.drew := by rw [run_choose]; rfl
    have c1 : ¬ (len + n ≤ cap) := by omega
    have c2 : ¬ (((len + n : Nat) : Int) > IntKind.i64.max ∧ ((false : Bool) = true ∨ i.bytes = 0)) := by
      rintro ⟨_, h | h⟩
      · cases h
      · omega
    have c3 : ¬ (Builtin.nextslicecap (len + n) cap * i.bytes > 2 ^ 48) := by omega
    unfold Builtin.append_
    simp only [ht, List.getElem?_toArray, List.getElem?_cons_zero, List.getElem?_cons_succ, Sem.run_bind, run_underlying hu, Result.andThen_ok, run_sizeOf hs, ht', run_underlying hu']
    have ti : ∀ w', (typeInfo e).run P w' = .ok i w' := fun w' => by simp [typeInfo, hi]
    have zv : ∀ w', (zeroValue e).run P w' = .ok V w' := fun w' => run_zeroValue hi hV
    simp only [Sem.run_pure, Result.andThen_ok, Bool.false_eq_true, if_false, Bool.not_false, if_true, Sem.run_bind, hlen]
    rw [if_neg c1]
    simp only [Sem.run_bind, ti, Result.andThen_ok]
    rw [if_neg (by rintro ⟨_, h⟩; simp at h; omega)]
    simp only [Sem.run_bind, ti, Result.andThen_ok]
    rw [if_neg c3]
    simp only [Sem.run_bind, hask, ti, run_askRoom, Result.andThen_ok, hD, hC, zv, newRow, run_newObj, Sem.run_pure]
    rfl
theorem inplace_run {c : Call} {t e : TypeId} {u : TypeDesc} (ht : c.argTypes[0]? = some t) (hu : P.underlying t = some (.slice e)) {t' : TypeId} (ht' : c.argTypes[1]? = some t') (hu' : P.underlying t' = some u) (hni : ∀ k, u ≠ .int k) {s : Nat} (hs : sizeT P e = some s)
    {base : Option Addr} {len cap n : Nat} {X : Value} {ty : TypeId} {C : Array Value} {w' : World} (hlen : (Builtin.lenOf X).run P w = .ok n w) (hC : (Builtin.firstCells s n X).run P w = .ok C w) (hcap : len + n ≤ cap) (hst : ∀ a, base = some a → (storeCells (a.add (len * s)) C.toList).run P w = .ok () w') (hnone : base = none → w' = w) :
    (Builtin.append_ c.argTypes ty #[.slice base len cap, X]).run P w = .ok (.slice base (len + n) cap) w' := by
  unfold Builtin.append_
  simp only [ht, List.getElem?_toArray, List.getElem?_cons_zero, List.getElem?_cons_succ, Sem.run_bind, run_underlying hu, Result.andThen_ok, run_sizeOf hs, ht', run_underlying hu']
  simp only [Sem.run_pure, Result.andThen_ok, Bool.false_eq_true, if_false, Bool.not_false, if_true, Sem.run_bind, hlen]
  rw [if_pos hcap]
  cases base with
  | none => simp only [Sem.run_bind, hC, Result.andThen_ok, Sem.run_pure, hnone rfl]
  | some a => simp only [Sem.run_bind, hC, Result.andThen_ok, hst a rfl, Sem.run_pure]

theorem call_args2 {c : Call} {a b : AV} (hv : VRels f [a, b] (c.args.toList.map ρ)) : ∃ A D, c.args.toList.map ρ = (#[A, D] : Array Value).toList ∧ VRel f a A ∧ VRel f b D := by
  obtain ⟨A, D, h1, h2, h3⟩ := rels2 hv
  exact ⟨A, D, by simpa using h1, h2, h3⟩
/-- What makes a call of 'append' one that the small machine takes. -/
structure AppT (P : Program) (c : Call) (e : TypeId) (s b : Nat) : Prop where
  t : ∃ t, c.argTypes[0]? = some t ∧ P.underlying t = some (.slice e)
  u : ∃ t u, c.argTypes[1]? = some t ∧ P.underlying t = some u ∧ ∀ k, u ≠ .int k
  hs : sizeT P e = some s
  hb : bytesT P e = some b
  s0 : 0 < s
  b0 : 0 < b
  z : ∃ z, zeroT P e = some z ∧ (aggBlock z).csize = s
theorem fine_eff (hm : MRel B f M w) {c : Call} (ho : o.op = .call c) {b : Builtin} (hc : c.callee = .builtin b) {A : Array Value} (hA : c.args.toList.map ρ = A.toList) {V : Value} {w' : World} {f' : FM} (hr : (builtin b c.argTypes o.type (c.args.map fun | .const _ => true | _ => false) A).run P w = .ok (.value V) w') (hp : Sub f f') (hm' : MRel B f' M' w') (hv : VRel f' v V) (hw : Went f M w f' M' w') (hx : f' = f ∨ ∃ x, f' = upd f M.length x) : Fine P ρ o w B f M v M' := by
  have hargs : c.args.map ρ = A := by apply Array.ext'; simpa using hA
  refine ⟨V, w', f', .inl ?_, hp, hm', hv, hw, hx⟩
  simp [execOp, ho, resolve, hc, invoke, hargs]
  exact hr
/-- The slice grows into a new array. -/
theorem fine_grow (hm : MRel B f M w) (hB : B ≤ w.heap.size) {c : Call} (ho : o.op = .call c) (hc : c.callee = .builtin .append) {e : TypeId} {s b : Nat} (hT : AppT P c e s b) {base : Option Addr} {len cap n : Nat} {X : Value} (hA : c.args.toList.map ρ = (#[.slice base len cap, X] : Array Value).toList) {D C : Array Value} {dc cc r : AV}
    (hlen : (Builtin.lenOf X).run P w = .ok n w) (hD : (Builtin.firstCells s len (.slice base len cap)).run P w.drew = .ok D w.drew) (hC : (Builtin.firstCells s n X).run P w.drew = .ok C w.drew) (hroom : roomA (len + n) s b = true) (hgrow : cap < len + n)
    (hDr : VRels f dc.cells D.toList) (hCr : VRels f cc.cells C.toList) (hda : dc.isAgg = true) (hca : cc.isAgg = true) (hds : dc.csize = len * s) (hcs : cc.csize = n * s) (hj : joinD dc cc = some r) (base' : Nat) :
    Fine P ρ o w B f M (.sl M.length 0 base' (len + n) s none) (M ++ [⟨r, .grow, false⟩]) := by
  obtain ⟨t, ht, hu⟩ := hT.t
  obtain ⟨t', u, ht', hu', hni⟩ := hT.u
  obtain ⟨z, hz, hzs⟩ := hT.z
  have hDs : D.size = len * s := by rw [← hds, ← csize_cells, hDr.length, Array.length_toList]
  have hCs : C.size = n * s := by rw [← hcs, ← csize_cells, hCr.length, Array.length_toList]
  obtain ⟨cap', A, g1, g2, g3, g4⟩ := grow_run (P := P) (w := w) (ty := o.type) ht hu ht' hu' hni hT.hs hT.hb hT.b0 hz hzs hlen hD hC hDs hCs hroom hgrow
  obtain ⟨j1, j2, j3⟩ := join_rel hj hDr hCr hda hca
  have hrs : r.csize = (len + n) * s := by rw [j3, hds, hcs, Nat.add_mul]
  obtain ⟨m1, m2⟩ := hm.drew.alloc (d := false) (by exact hB) e (.inr rfl : BK.grow = .own ∨ BK.grow = .grow) j1 (by intro h; cases h) (by rw [hrs, g2]; exact Nat.mul_le_mul_right _ g1) (A := A) (by rw [hrs, g3]; exact j2)
  refine fine_eff hm ho hc hA (V := .slice (some ⟨w.heap.size, 0, none⟩) (len + n) cap') ?_ (upd_sub hm.none) m1 ?_ (Went.drew.trans m2) (.inr ⟨_, rfl⟩)
  · simp only [builtin, Sem.run_bind, g4, Result.andThen_ok, Sem.run_pure]
  · rw [VRel]
    have hc' : cap' ≠ 0 := by omega
    exact ⟨_, cap', new_get hm _, hT.s0, by simp [g2], g1, by rw [if_neg hc']; rfl⟩
theorem firstCells_nil (s n : Nat) (w : World) : (Builtin.firstCells s n (.slice none 0 0)).run P w = .ok #[] w := by simp [Builtin.firstCells]
theorem sub_agg {c v : AV} {off n : Nat} (h : c.sub off n none = some v) : off + n ≤ c.csize ∧ v.isAgg = true ∧ v.csize = n ∧ v.cells = (c.cells.drop off).take n := by
  induction c using AV.cellInd generalizing off with
  | «at» o c ih =>
    simp only [AV.sub] at h
    cases ho : Nat.ble o off with
    | false => rw [ho] at h; cases h
    | true =>
      rw [ho, cond_true] at h
      have ho : o ≤ off := by simpa using ho
      obtain ⟨h1, h2, h3, h5⟩ := ih h
      refine ⟨by simp only [AV.csize]; omega, h2, h3, ?_⟩
      rw [h5]
      simp only [AV.cells]
      rw [List.drop_append, List.drop_of_length_le (l := List.replicate o AV.junk) (by simpa using ho), List.nil_append, List.length_replicate]
  | nums k l =>
    simp only [AV.sub] at h
    split at h
    · rename_i hl
      simp only [Option.some.injEq] at h; subst h
      have hl : off + n ≤ l.length := by simpa using hl
      exact ⟨by simpa [AV.csize] using hl, rfl, by simp [AV.csize]; omega, by simp [AV.cells, List.map_take, List.map_drop]⟩
    · cases h
  | agg l =>
    simp only [AV.sub] at h
    split at h
    · rename_i hl
      simp only [Option.some.injEq] at h; subst h
      have hl : off + n ≤ l.length := by simpa using hl
      exact ⟨by simpa [AV.csize] using hl, rfl, by simp [AV.csize]; omega, rfl⟩
    · cases h
  | other c hc => cases c <;> first | (simp [AV.sub] at h; done) | cases hc
/-- The cells of a slice of a living block. -/
theorem slice_run (hm : MRel B f M w) {i off base len s : Nat} {lim : Option Nat} {b : Blk} (hb : liveB M i = some b) {c0 : AV} (hc0 : b.cells.sub off (len * s) none = some c0) {V : Value} (hV : VRel f (.sl i off base len s lim) V) :
    ∃ a cap D, V = .slice (some a) len cap ∧ (Builtin.firstCells s len V).run P w = .ok D w ∧ VRels f c0.cells D.toList ∧ c0.isAgg = true ∧ c0.csize = len * s := by
  obtain ⟨y, A, t, fz, hi, hy, hw, hsz, ha, hown, hle, hcs, hfz, hdd⟩ := hm.live hb
  rw [VRel] at hV
  obtain ⟨z, cap, hz, h0, hcap, hlc, rfl⟩ := hV
  obtain rfl : y = z := by rw [hy] at hz; exact Option.some.inj hz
  obtain ⟨hle2, g1, g2, hvU, g5⟩ := sub_rel (f := f) hc0 hcs
  rw [take_drop_le _ _ _ _ hle2] at hvU
  have hvc := hvU.cells (.inl g1)
  refine ⟨_, cap, ((A.toList.drop off).take (len * s)).toArray, rfl, ?_, by simpa [Value.cells] using hvc, g1, g2⟩
  simp only [Builtin.firstCells]
  by_cases hn0 : len = 0
  · subst hn0; simp [loadCells, loadCellsFrom]
  · rw [if_neg (by omega), run_loadCells_mid (P := P) hw off (len * s) (by omega)]
theorem fine_append (hm : MRel B f M w) (hB : B ≤ w.heap.size) {c : Call} (ho : o.op = .call c) (hc : c.callee = .builtin .append) {e : TypeId} {s b : Nat} (hT : AppT P c e s b) {d x : AV} {ft : Foot} (hv : VRels f [d, x] (c.args.toList.map ρ)) (h : appendA s b M d x = some (v, M', ft)) : Fine P ρ o w B f M v M' := by
  obtain ⟨D, X, hA, hD, hX⟩ := call_args2 hv
  obtain ⟨t, ht, hu⟩ := hT.t
  obtain ⟨t', u, ht', hu', hni⟩ := hT.u
  unfold appendA at h
  split at h
  · cases h
  rename_i n hn
  split at h
  · cases h
  rename_i cc rs hsrc
  have hlen := len_rel (P := P) (w := w) hn hX
  obtain ⟨C, c1, c2, c3, c4⟩ := src_run (P := P) hsrc hm hX hT.s0
  obtain ⟨C', d1, _, d3, _⟩ := src_run (P := P) hsrc hm.drew hX hT.s0
  split at h
  · -- nil
    rw [VRel] at hD; subst hD
    cases hn0 : Nat.beq n 0 with
    | true =>
      simp only [hn0, cond_true, made, Option.some.injEq, Prod.mk.injEq] at h
      obtain ⟨rfl, rfl, _⟩ := h
      obtain rfl := Nat.eq_of_beq_eq_true hn0
      refine fine_builtin hm ho hc hA (V := .slice none 0 0) ?_ (by rw [VRel])
      simp only [builtin, Sem.run_bind, inplace_run (P := P) (w := w) (w' := w) (ty := o.type) ht hu ht' hu' hni hT.hs (base := none) (len := 0) (cap := 0) hlen c1 (by omega) (by intro a h; cases h) (fun _ => rfl), Result.andThen_ok, Sem.run_pure]
    | false =>
      simp only [hn0, cond_false] at h
      cases hr : roomA n s b with
      | false => simp [hr] at h
      | true =>
        simp only [hr, cond_true, Option.some.injEq, Prod.mk.injEq] at h
        obtain ⟨rfl, rfl, _⟩ := h
        have hn0 : n ≠ 0 := fun h => by subst h; cases hn0
        have := fine_grow hm hB ho hc hT hA hlen (firstCells_nil s 0 _) d1 (by simpa using hr) (by omega) (dc := .agg []) (cc := cc) (r := cc) (by simp [AV.cells, VRels]) d3 rfl c2 (by simp [AV.csize]) c4 (by unfold joinD; cases cc with | agg l => cases l <;> rfl | _ => rfl) 0
        simpa using this
  · rename_i i off base len e' lim
    cases hq : (Nat.beq e' s && roomA (len + n) s b) with
    | false => simp [hq] at h
    | true =>
      simp only [hq, cond_true] at h
      simp only [Bool.and_eq_true] at hq
      obtain ⟨hq1, hroom⟩ := hq
      obtain rfl := Nat.eq_of_beq_eq_true hq1
      -- a slice whose room is known to be used up
      have full : ∀ (bk : Blk) (r : AV), liveB M i = some bk → (∀ z, f i = some z → lim.getD z.2 = off + len * e') →
          (bif Nat.beq n 0 then made (.sl i off base len e' lim) M else
            (match bk.cells.sub off (len * e') none with
            | some c0 => match joinD c0 cc with
              | some c' => some (.sl M.length 0 0 (len + n) e' none, M ++ [⟨c', .grow, false⟩], (⟨[i], [], true, false⟩ : Foot))
              | none => none
            | none => none)) = some (v, M', ft) → Fine P ρ o w B f M v M' := by
        intro bk _ hbk hfull h
        have hD' := hD
        rw [VRel] at hD'
        obtain ⟨z, cap, hz, h0, hcap, hlc, hDe⟩ := hD'
        have hcl : cap = len := by
          have := hfull z hz
          rw [this] at hcap
          exact Nat.eq_of_mul_eq_mul_right h0 (Nat.add_left_cancel hcap)
        cases hn0 : Nat.beq n 0 with
        | true =>
          simp only [hn0, cond_true, made, Option.some.injEq, Prod.mk.injEq] at h
          obtain ⟨rfl, rfl, _⟩ := h
          obtain rfl := Nat.eq_of_beq_eq_true hn0
          have hC0 : C = #[] := by
            have := c3.length
            rw [csize_cells, c4] at this
            apply Array.ext'
            rw [← List.length_eq_zero_iff]; omega
          rw [hDe] at hA
          refine fine_builtin hm ho hc hA (V := D) ?_ hD
          rw [hDe]
          simp only [builtin, Sem.run_bind, inplace_run (P := P) (w := w) (w' := w) (ty := o.type) (base := some ⟨z.1, if cap = 0 then base else off, none⟩) (len := len) (cap := cap) ht hu ht' hu' hni hT.hs hlen c1 (by omega) (fun a _ => by rw [hC0]; exact Sem.run_pure P w ()) (fun h => by cases h), Result.andThen_ok, Sem.run_pure, Nat.add_zero]
        | false =>
          simp only [hn0, cond_false] at h
          have hn0 : n ≠ 0 := fun h => by subst h; cases hn0
          split at h
          · rename_i c0 hc0
            split at h
            · rename_i r hr
              simp only [Option.some.injEq, Prod.mk.injEq] at h
              obtain ⟨rfl, rfl, _⟩ := h
              obtain ⟨a, cap2, D2, e1, e2, e3, e4, e5⟩ := slice_run (P := P) hm.drew hbk hc0 hD
              rw [hDe] at e1
              injection e1 with e1 e1' e1''
              subst e1''
              rw [hDe] at e2 hA
              exact fine_grow hm hB ho hc hT hA hlen e2 d1 hroom (by omega) e3 d3 e4 c2 e5 c4 hr 0
            · cases h
          · cases h
      cases lim with
      | none =>
        split at h
        case h_2 => simp at *
        case h_3 => cases h
        rename_i bk hbk _
        obtain ⟨y, A, t0, fz, hi, hy, hw, hsz, ha, hown, hle, hcs, hfz, hdd⟩ := hm.live hbk
        split at h
        · -- grown
          rename_i hk
          cases hq : (Nat.beq off 0 && Nat.beq (len * e') bk.cells.csize && (bk.cells.isAgg && cc.plain)) with
          | false => simp [hq] at h
          | true =>
            simp only [hq, cond_true] at h
            simp only [Bool.and_eq_true] at hq
            obtain ⟨⟨q1, q2⟩, qa, q3⟩ := hq
            obtain rfl := Nat.eq_of_beq_eq_true q1
            have q2 := Nat.eq_of_beq_eq_true q2
            split at h
            · rename_i r hr
              simp only [Option.some.injEq, Prod.mk.injEq] at h
              obtain ⟨rfl, rfl, _⟩ := h
              have hmine : bk.kind.mine = true := by rw [hk]; rfl
              have hD' := hD
              rw [VRel] at hD'
              obtain ⟨z, cap, hz, h0, hcap, hlc, hDe⟩ := hD'
              obtain rfl : y = z := by rw [hy] at hz; exact Option.some.inj hz
              simp only [Option.getD_none, Nat.zero_add] at hcap
              rw [hDe] at hA
              by_cases hgrow : cap < len + n
              · -- a new array
                have hcells : bk.cells.sub 0 (len * e') none = some bk.cells := by
                  rw [q2]
                  cases hb : bk.cells with
                  | agg l => simp [AV.sub, AV.csize]
                  | nums k l => simp [AV.sub, AV.csize]
                  | _ => rw [hb] at qa; cases qa
                obtain ⟨k1, k2⟩ := hm.kill i
                obtain ⟨a, cap2, D2, e1, e2, e3, e4, e5⟩ := slice_run (P := P) hm.drew hbk hcells hD
                rw [hDe] at e1
                injection e1 with e1 e1' e1''
                subst e1''
                rw [hDe] at e2
                obtain ⟨V, w', f', g1, g2, g3, g4, g5, g6⟩ := fine_grow (o := o) (ρ := ρ) k1 hB ho hc hT hA hlen e2 d1 hroom hgrow e3 d3 e4 c2 e5 c4 hr base
                simp only [List.length_set] at g3 g4 g5 g6
                exact ⟨V, w', f', g1, g2, g3, g4, k2.trans g5, g6⟩
              · -- in place
                have hcap2 : len + n ≤ cap := by omega
                obtain ⟨j1, j2, j3⟩ := join_rel hr hcs c3 qa c2
                have hone : ∀ U ∈ C.toList, U.oneCell' = true := by
                  intro U hU
                  obtain ⟨j, hj⟩ := List.getElem?_of_mem hU
                  have hl := c3.length
                  obtain ⟨u', hu''⟩ : ∃ u', cc.cells[j]? = some u' := ⟨cc.cells[j]'(by rw [hl]; exact lt_of_get hj), by simp⟩
                  obtain ⟨U', hU', hr'⟩ := c3.get j hu''
                  rw [hj] at hU'
                  obtain rfl := Option.some.inj hU'
                  exact (hr'.one (plain_one q3 j u' hu'')).1
                have hCl : C.toList.length = n * e' := by rw [← c3.length, csize_cells, c4]
                have htot : len * e' + n * e' ≤ y.2 := by rw [← Nat.add_mul, ← hcap]; exact Nat.mul_le_mul_right _ hcap2
                obtain ⟨w', A', r1, r2, r3, r4, r5, r6, r7, r8⟩ := run_storeCells (P := P) (len * e') C.toList 0 w A hw (by rw [hCl, hsz, Nat.add_zero]; exact htot) hone (fun o' ho' => hfz hmine o' (by omega))
                rw [Nat.add_zero, setL_mid _ _ _ (by rw [hCl, Array.length_toList, hsz]; exact htot), hCl] at r3
                have hA'l : A'.size = y.2 := by
                  rw [← Array.length_toList, r3]
                  simp only [List.length_append, List.length_take, List.length_drop, hCl, Array.length_toList, hsz]; omega
                have hrs : r.csize = (len + n) * e' := by rw [j3, ← q2, c4, Nat.add_mul]
                obtain ⟨s1, s2⟩ := hm.store (c := r) (kd := bk.kind) hi hy hmine rfl j1 (by rw [hk]; intro h; cases h) (by rw [hrs, Nat.add_mul]; exact htot) r2 hA'l (by
                  rw [r3, hrs, Nat.add_mul, ← List.append_assoc, List.take_append_of_le_length (by simp only [List.length_append, List.length_take, hCl, Array.length_toList, hsz]; omega), List.take_of_length_le (by simp only [List.length_append, List.length_take, hCl]; omega)]
                  rw [q2]; exact j2) (hfz hmine) r4 r5 r6 r7 r8
                obtain ⟨t1, t2⟩ := s1.shift (d := false) (i := i) (b := ⟨r, bk.kind, true⟩) (by rw [List.getElem?_set_self (lt_of_get hi)]) hy hmine
                simp only [List.set_set, hk, List.length_set] at t1 t2
                refine fine_eff hm ho hc hA (V := .slice (some ⟨y.1, if cap = 0 then base else 0, none⟩) (len + n) cap) ?_ (upd_sub hm.none) t1 ?_ ((by simpa only [hk] using s2 : Went f M w f (M.set i ⟨r, .grow, true⟩) w').trans t2) (.inr ⟨_, rfl⟩)
                · have hst : ∀ a, (some (⟨y.1, if cap = 0 then base else 0, none⟩ : Addr)) = some a → (storeCells (a.add (len * e')) C.toList).run P w = .ok () w' := by
                    intro a ha'
                    obtain rfl := Option.some.inj ha'
                    by_cases hc0 : cap = 0
                    · have hn0 : n = 0 := by omega
                      have hC0 : C.toList = [] := List.length_eq_zero_iff.1 (by rw [hCl, hn0]; simp)
                      rw [hC0] at r1 ⊢
                      simpa [storeCells] using r1
                    · rw [if_neg hc0, addr_add, Nat.zero_add]
                      exact r1
                  simp only [builtin, Sem.run_bind, inplace_run (P := P) (w := w) (w' := w') (ty := o.type) ht hu ht' hu' hni hT.hs hlen c1 hcap2 hst (fun h => by cases h), Result.andThen_ok, Sem.run_pure]
                · rw [VRel]
                  exact ⟨y, cap, new_get hm _, h0, by simpa using hcap, hcap2, rfl⟩
            · cases h
        · -- exact
          rename_i hk
          cases hq : Nat.beq (off + len * e') bk.cells.csize with
          | false => simp [hq] at h
          | true =>
            simp only [hq, cond_true] at h
            refine full bk .junk hbk (fun z hz => ?_) h
            have := Nat.eq_of_beq_eq_true hq
            rw [hy] at hz
            obtain rfl := Option.some.inj hz
            rw [this, hown hk]; rfl
        · cases h
      | some l =>
        split at h
        case h_1 => simp at *
        case h_3 => cases h
        rename_i bk l' hbk hl'
        obtain rfl := Option.some.inj hl'
        cases hq : Nat.beq (off + len * e') l with
        | false => simp [hq] at h
        | true =>
          simp only [hq, cond_true] at h
          refine full bk .junk hbk (fun z hz => ?_) h
          rw [Nat.eq_of_beq_eq_true hq]; rfl
  · cases h
end
end Go.Proofs.Ytfdhfhgljhnhlaa
/- Each operation of the small machine stands for what the program's operation does: copies, bytes of a string, two functions of math/bits. No condition. -/
namespace Go.Proofs.Ytfdhfhgljhnhlaa
open Go Go.RowKit

section
variable {P : Program} {B : Nat} {f : FM} {M M' : Mem} {w : World} {ρ : Operand → Value} {o : Oper} {v : AV}

theorem fine_copy (hm : MRel B f M w) {c : Call} (ho : o.op = .call c) (hc : c.callee = .builtin .copy) {t e : TypeId} {s : Nat} (ht : c.argTypes[0]? = some t) (hu : P.underlying t = some (.slice e)) (hs : sizeT P e = some s) (h0 : 0 < s) {d x : AV} {ft : Foot} (hv : VRels f [d, x] (c.args.toList.map ρ)) (h : copyA s M d x = some (v, M', ft)) : Fine P ρ o w B f M v M' := by
  obtain ⟨D, X, hA, hD, hX⟩ := call_args2 hv
  unfold copyA at h
  split at h
  · rename_i m i off base len e' lim hn
    have hlen := len_rel (P := P) (w := w) hn hX
    rw [VRel] at hD
    obtain ⟨z, cap, hz, _, hcap, hlc, rfl⟩ := hD
    simp only at h
    cases hn0 : Nat.beq (Nat.min m len) 0 with
    | true =>
      simp only [hn0, cond_true, made, Option.some.injEq, Prod.mk.injEq] at h
      obtain ⟨rfl, rfl, _⟩ := h
      have hn0 := Nat.eq_of_beq_eq_true hn0
      have hf : (Builtin.firstCells s 0 X).run P w = .ok #[] w := by
        cases x <;> simp only [lenA, reduceCtorEq] at hn <;> rw [VRel] at hX
        case sl => obtain ⟨_, _, _, _, _, _, rfl⟩ := hX; simp [Builtin.firstCells, loadCells, loadCellsFrom]
        case nilsl => subst hX; simp [Builtin.firstCells]
        case str => subst hX; simp [Builtin.firstCells]
      refine fine_builtin hm ho hc hA (V := .int .i64 0) ?_ (by rw [VRel])
      simp only [builtin, Builtin.copy_, ht, List.getElem?_toArray, List.getElem?_cons_zero, List.getElem?_cons_succ, Sem.run_bind, run_underlying hu, hlen, Result.andThen_ok, run_sizeOf hs, hn0, hf, storeCells, Sem.run_pure, goInt]
      rfl
    | false =>
      simp only [hn0, cond_false] at h
      cases hq : Nat.beq e' s with
      | false => simp [hq] at h
      | true =>
        simp only [hq, cond_true] at h
        obtain rfl := Nat.eq_of_beq_eq_true hq
        split at h
        · rename_i cc rs b hsrc hb
          split at h
          · rename_i c' hc'
            simp only [Option.some.injEq, Prod.mk.injEq] at h
            obtain ⟨rfl, rfl, _⟩ := h
            have hne : Nat.min m len ≠ 0 := fun h => by rw [h] at hn0; cases hn0
            have hcap0 : cap ≠ 0 := by
              have : Nat.min m len ≤ len := Nat.min_le_right _ _
              omega
            obtain ⟨C, c1, c2, c3, c4⟩ := src_run (P := P) hsrc hm hX h0
            have hCV : VRel f cc (.agg C) := agg_of_cells c2 c3
            obtain ⟨w', r1, r2, r3⟩ := run_store_part (P := P) hm hb hc' hz hCV
            refine fine_eff hm ho hc hA (V := .int .i64 (Nat.min m len : Nat)) ?_ (Sub.refl _) r2 (by rw [VRel]) r3 (.inl rfl)
            simp only [Value.cells] at r1
            simp only [builtin, Builtin.copy_, ht, List.getElem?_toArray, List.getElem?_cons_zero, List.getElem?_cons_succ, Sem.run_bind, run_underlying hu, hlen, Result.andThen_ok, run_sizeOf hs, c1, if_neg hcap0, r1, Sem.run_pure, goInt]
          · cases h
        · cases h
  · rename_i m hn
    have hlen := len_rel (P := P) (w := w) hn hX
    rw [VRel] at hD; subst hD
    simp only [made, Option.some.injEq, Prod.mk.injEq] at h
    obtain ⟨rfl, rfl, _⟩ := h
    have hf : (Builtin.firstCells s 0 X).run P w = .ok #[] w := by
      cases x <;> simp only [lenA, reduceCtorEq] at hn <;> rw [VRel] at hX
      case sl => obtain ⟨_, _, _, _, _, _, rfl⟩ := hX; simp [Builtin.firstCells, loadCells, loadCellsFrom]
      case nilsl => subst hX; simp [Builtin.firstCells]
      case str => subst hX; simp [Builtin.firstCells]
    have hmin : Nat.min m 0 = 0 := Nat.min_zero m
    refine fine_builtin hm ho hc hA (V := .int .i64 0) ?_ (by rw [VRel])
    simp only [builtin, Builtin.copy_, ht, List.getElem?_toArray, List.getElem?_cons_zero, List.getElem?_cons_succ, Sem.run_bind, run_underlying hu, hlen, Result.andThen_ok, run_sizeOf hs, hmin, hf, Sem.run_pure, goInt]
    rfl
  · cases h

/-- A block of which the cells behind its end are frozen. -/
theorem fine_s2b (hm : MRel B f M w) (hB : B ≤ w.heap.size) {s d e : TypeId} {x : Operand} (ho : o.op = .convert s d x) (hs : P.underlying s = some .string) (hd : P.underlying d = some (.slice e)) (he : P.underlying e = some (.int .u8)) {l : List UInt8} (hr : VRel f (.str l) (ρ x)) :
    Fine P ρ o w B f M (.sl M.length 0 0 l.length 1 none) (M ++ [⟨.nums .u8 (l.map fun b => (b.toNat : Int)), .grow, false⟩]) := by
  rw [VRel] at hr
  have hsz : (ByteArray.mk l.toArray).size = l.length := by simp [ByteArray.size]
  let cap : Nat := l.length + (w.tape w.drawn (.appendCap l.length 0 e)) % (2 ^ 63 - l.length)
  have hcap : l.length ≤ cap := Nat.le_add_right _ _
  let A : Array Value := ((ByteArray.mk l.toArray).data.map fun b => (Value.int .u8 b.toNat)) ++ Array.replicate (cap - l.length) (.int .u8 0)
  have hA : A.size = cap := by simp [A]; omega
  have hask : (choose (.appendCap l.length 0 e)).run P w = .ok cap w.drew := by rw [run_choose]; rfl
  have htake : A.toList.take l.length = (l.map fun b => (b.toNat : Int)).map (Value.int .u8) := by
    simp only [A, Array.toList_append]
    rw [List.take_append_of_le_length (by simp), List.take_of_length_le (by simp)]
    simp
  obtain ⟨m1, m2⟩ := hm.drew.alloc (c := .nums .u8 (l.map fun b => (b.toNat : Int))) (d := false) (kd := .grow) (by exact hB) (A := A) e (.inr rfl) rfl (by intro h; cases h) (by simp [AV.csize, hA]; exact hcap) (by
    simp only [AV.csize, List.length_map]
    rw [htake]; exact VRels.nums _ _)
  let w2 : World := (w.drew.alloc (.cells A e)).freeze ⟨w.heap.size, A.size, none⟩ 1
  have hw2 : ∀ k, k ≠ w.heap.size → w2.heap[k]? = (w.drew.alloc (.cells A e)).heap[k]? := by
    intro k hk
    simp only [w2, World.freeze]
    rw [if_neg (by decide), Array.getElem?_modify, if_neg (Ne.symm hk)]
  have hw2s : w2.heap.size = (w.drew.alloc (.cells A e)).heap.size := by simp [w2, World.freeze]
  have hnew : (w.drew.alloc (.cells A e)).heap[w.heap.size]? = some (.cells A e (0, 0)) := (MapKept.heap_alloc w.drew _).1
  have hnew2 : ∃ fz, w2.heap[w.heap.size]? = some (.cells A e fz) ∧ A.size ≤ fz.1 := by
    refine ⟨(A.size, A.size + 1), ?_, Nat.le_refl _⟩
    simp only [w2, World.freeze]
    rw [if_neg (by decide), Array.getElem?_modify, if_pos rfl, hnew]
    simp
  obtain ⟨fz, hfz1, hfz2⟩ := hnew2
  have m1' : MRel B (upd f M.length (w.heap.size, A.size)) (M ++ [⟨.nums .u8 (l.map fun b => (b.toNat : Int)), .grow, false⟩]) w2 := by
    refine ⟨m1.dom, m1.tot, ?_, m1.fresh, m1.inj⟩
    intro i b y hi hy
    by_cases hd : b.kind = .dead
    · exact .inl hd
    rcases getElem?_snoc hi with hi' | ⟨rfl, rfl⟩
    · have hb := m1.blk i b y hi hy
      refine hb.heap (hw2 _ ?_)
      have hy' : f i = some y := by
        rwa [upd_ne _ _ (Nat.ne_of_lt (lt_of_get hi'))] at hy
      exact Nat.ne_of_lt ((hm.blk i b y hi' hy').lt hd)
    · have hy' : y = (w.heap.size, A.size) := by
        have := new_get hm (w.heap.size, A.size)
        rw [hy] at this
        exact Option.some.inj this
      subst hy'
      refine .inr ⟨A, e, fz, hfz1, rfl, rfl, (by intro h; cases h), by simp [AV.csize, hA]; exact hcap, ?_, fun _ o' ho' => by show ¬(_ ∧ _); omega⟩
      simp only [AV.csize, List.length_map]
      rw [htake]; exact VRels.nums _ _
  have m2' : Went f M w (upd f M.length (w.heap.size, A.size)) (M ++ [⟨.nums .u8 (l.map fun b => (b.toNat : Int)), .grow, false⟩]) w2 := by
    have m3 := Went.drew.trans m2
    refine ⟨m3.os, m3.tape, m3.output, by rw [hw2s]; exact m3.size, fun b hb ho' => (hw2 b (Nat.ne_of_lt hb)).trans (m3.other b hb ho'), m3.own⟩
  refine ⟨.slice (some ⟨w.heap.size, 0, none⟩) l.length cap, w2, _, .inl ?_, upd_sub hm.none, m1', ?_, m2', .inr ⟨_, rfl⟩⟩
  · have hshape : ∀ w3 : World, w3.heap[w.heap.size]? = some (.cells A e (0, 0)) → w3.shape? w.heap.size = some (e, A.size) := fun w3 h => by simp [World.shape?, h]
    simp only [execOp, ho, hr, convert, Sem.run_bind, run_underlying hs, run_underlying hd, Result.andThen_ok, run_underlying he, Conv.stringToBytes, hsz, hask, newRow, run_newObj, markStringish, run_shape]
    rw [show ({ w.drew with heap := w.drew.heap.push (.cells A e) } : World) = w.drew.alloc (.cells A e) from rfl]
    rw [show w.drew.heap.size = w.heap.size from rfl]
    simp only [Sem.run_pure, Result.andThen_ok, hshape _ hnew]
    simp only [run_freeze, Result.andThen_ok, Sem.run_pure]
    rfl
  · rw [VRel]
    exact ⟨_, cap, new_get hm _, by decide, by simp [hA], hcap, by simp⟩

/-! ### Add64, Sub64 -/
theorem ext_add {fn : Func} (h1 : fn.name = "math/bits.Add64") (h2 : fn.origin = "") : Extern.findNext fn = none ∧ Extern.find fn = some add64Entry := by
  cases fn
  simp only at h1 h2
  subst h1; subst h2
  exact ⟨by kernel_rfl, by kernel_rfl⟩
theorem ext_sub {fn : Func} (h1 : fn.name = "math/bits.Sub64") (h2 : fn.origin = "") : Extern.findNext fn = none ∧ Extern.find fn = some sub64Entry := by
  cases fn
  simp only at h1 h2
  subst h1; subst h2
  exact ⟨by kernel_rfl, by kernel_rfl⟩
theorem run_three (nm : String) (k1 k2 k3 : IntKind) (x y c : Int) (hc : c.toNat ≤ 1) : (Extern.MathBitsCarry.three nm #[.int k1 x, .int k2 y, .int k3 c]).run P w = .ok (x.toNat, y.toNat, c.toNat) w := by
  have h : ¬ (c.toNat > 1) := by omega
  show (if c.toNat > 1 then _ else _ : Sem _).run P w = _
  rw [if_neg h]
  rfl
theorem run_add_any (k1 k2 k3 : IntKind) (x y c : Int) (hc : c.toNat ≤ 1) : (add64Entry #[.int k1 x, .int k2 y, .int k3 c]).run P w = .ok (.tuple #[.int .u64 (((x.toNat + y.toNat + c.toNat) % 18446744073709551616 : Nat) : Int), .int .u64 (((x.toNat + y.toNat + c.toNat) / 18446744073709551616 : Nat) : Int)]) w := by
  simp only [add64Entry, Sem.run_bind, run_three _ k1 k2 k3 x y c hc, Result.andThen_ok]
  rfl
theorem run_sub_any (k1 k2 k3 : IntKind) (x y c : Int) (hc : c.toNat ≤ 1) : (sub64Entry #[.int k1 x, .int k2 y, .int k3 c]).run P w = .ok (.tuple #[.int .u64 (((x.toNat + 18446744073709551616 - y.toNat - c.toNat) % 18446744073709551616 : Nat) : Int), .int .u64 ((if x.toNat < y.toNat + c.toNat then 1 else 0 : Nat) : Int)]) w := by
  simp only [sub64Entry, Sem.run_bind, run_three _ k1 k2 k3 x y c hc, Result.andThen_ok]
  rfl
end
end Go.Proofs.Ytfdhfhgljhnhlaa
