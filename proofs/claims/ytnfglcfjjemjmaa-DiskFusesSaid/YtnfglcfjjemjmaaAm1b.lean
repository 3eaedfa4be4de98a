/- The program's functions as the small machine takes them. Definitions alone. No condition. -/
import Derived.Test.YtnfglcfjjemjmaaAm1
namespace Go.Proofs.Ytnfglcfjjemjmaa
open Go Go.RowKit

def scal : Value → Option AV
  | .bool b => some (.bool b)
  | .int k n => some (.int k n)
  | .string s => some (.str s.data.toList)
  | .pointer none => some .nilp
  | .slice none 0 0 => some .nilsl
  | .nilFunc => some .nilfn
  | .nilIface => some .nilif
  | .float .f64 b => some (.flt b)
  | _ => none
def scalL : List Value → Option (List AV)
  | [] => some []
  | v :: l => match scal v, scalL l with
    | some a, some r => some (a :: r)
    | _, _ => none
def flatOf (l : List AV) : AV := match l with
  | [] => .agg []
  | l => match toSVs l with
    | some s => .flat s
    | none => .agg l
def aggOf (l : List AV) : AV :=
  match l with
  | .int k n :: r => match toInts k (.int k n :: r) with
    | some q => .nums k q
    | none => flatOf l
  | _ => flatOf l
def ofVal : Value → Option AV
  | .agg cs => match scalL cs.toList with
    | some l => some (aggOf l)
    | none => none
  | v => scal v
def isAggD : TypeDesc → Bool
  | .struct _ | .array _ _ => true
  | _ => false
def kindA (z : AV) : Option IntKind :=
  match z with
  | .nums k _ => some k
  | _ => none
/-- A type's size and, if all its cells are integers of one kind, that kind; none: it has one cell. -/
def kindT (P : Program) (t : TypeId) : Option (Option (Nat × Option IntKind)) :=
  match P.underlying t, P.info? t with
  | some d, some i => bif isAggD d then (match i.zero with
    | some z => match ofVal z with
      | some a => some (some (i.size, kindA a))
      | none => none
    | none => none) else some none
  | _, _ => none
def zeroT (P : Program) (t : TypeId) : Option AV :=
  match P.info? t with
  | some i => match i.zero with
    | some z => ofVal z
    | none => none
  | none => none
def sizeT (P : Program) (t : TypeId) : Option Nat :=
  match P.info? t with
  | some i => some i.size
  | none => none
def bytesT (P : Program) (t : TypeId) : Option Nat :=
  match P.info? t with
  | some i => some i.bytes
  | none => none
def compX : Operand → Option AOpd
  | .tmp t => some (.tmp t)
  | .const v => match ofVal v with
    | some a => some (.val a)
    | none => none
  | .func f => some (.val (.fn f [] []))
  | .global _ => none
def compXs : List Operand → Option (List AOpd)
  | [] => some []
  | x :: l => match compX x, compXs l with
    | some a, some r => some (a :: r)
    | _, _ => none
def aggBlock (z : AV) : AV := match z with
  | .int k n => .nums k [n]
  | .str s => .flat [.str s]
  | .bool b => .flat [.bool b]
  | .flt b => .flat [.flt b]
  | z => match z.block with
    | some b => b
    | none => .agg []
/-- The places of a struct's or an array's parts. -/
def placesS (P : Program) (fs : Array Field) : List Nat → Option (List (Nat × Nat))
  | [] => some []
  | i :: l => match fs[i]? with
    | some f => match sizeT P f.type, placesS P fs l with
      | some n, some r => some ((f.offset, n) :: r)
      | _, _ => none
    | none => none
def sizesOK (P : Program) : List Field → Bool
  | [] => true
  | f :: l => (sizeT P f.type).isSome && sizesOK P l
def placesA (size : Nat) : List Nat → List (Nat × Nat)
  | [] => []
  | i :: l => (i * size, size) :: placesA size l
def eqShape (P : Program) (t : TypeId) : Option EqS :=
  match P.underlying t with
  | some .bool => some .bool
  | some (.pointer _) => some .ptr
  | some (.slice _) => some .slice
  | some (.func _ _ _) => some .func
  | some (.array n e) => match P.underlying e, sizeT P e with
    | some (.int _), some s => bif Nat.beq s 1 then some (.cells n) else none
    | _, _ => none
  | _ => none
def isEq : BinOp → Option Bool
  | .eql => some false
  | .neq => some true
  | _ => none
def compB (op : BinOp) (P : Program) (t : TypeId) : Option Prim :=
  match P.underlying t with
  | some (.int _) => some (.bin op)
  | some .string => some (.bin op)
  | some (.float .f64) => some (.bin op)
  | _ => match isEq op, eqShape P t with
    | some neg, some s => some (.eqv neg s)
    | _, _ => none
def flagged (o : Option Operand) : Bool := o.isSome
def externOf (n : String) : Option Prim :=
  if n = "math/bits.Add64" then some .add64 else if n = "math/bits.Sub64" then some .sub64 else if n = "math.sqrt" then some (.fext 0) else if n = "math.Float64bits" then some (.fext 1) else if n = "math.Float64frombits" then some (.fext 2) else none
def compCall (P : Program) (c : Call) : Option (Prim × List Operand) :=
  match c.callee with
  | .value (.func f) => match P.funcs[f]? with
    | some fn => match fn.body with
      | some _ => some (.callf f, c.args.toList)
      | none => match (if fn.origin = "" then externOf fn.name else none) with
        | some p => some (p, c.args.toList)
        | none => if fn.origin = "" then (if fn.name = "internal/bytealg.MakeNoZero" then (match fn.resultTypes[0]? with
          | some t => match P.underlying t with
            | some (.slice _) => some (.mknz, c.args.toList)
            | _ => none
          | none => none) else none) else none
    | none => none
  | .value (.tmp t) => some (.callv, .tmp t :: c.args.toList)
  | .builtin .len => match c.argTypes[0]? with
    | some t => match P.underlying t with
      | some (.array n _) => some (.lenC n, c.args.toList)
      | some .string => some (.len true, c.args.toList)
      | some (.slice _) => some (.len false, c.args.toList)
      | _ => none
    | none => none
  | .builtin .append => match c.argTypes[0]?, c.argTypes[1]? with
    | some t, some u => match P.underlying t, P.underlying u with
      | some (.slice _), some (.int _) => none
      | some (.slice e), some _ => match sizeT P e, bytesT P e, zeroT P e with
        | some s, some b, some z => bif Nat.blt 0 s && Nat.blt 0 b && Nat.beq c.args.size 2 && Nat.beq (aggBlock z).csize s then some (.append s b, c.args.toList) else none
        | _, _, _ => none
      | _, _ => none
    | _, _ => none
  | .builtin .copy => match c.argTypes[0]? with
    | some t => match P.underlying t with
      | some (.slice e) => match sizeT P e with
        | some s => bif Nat.blt 0 s && Nat.beq c.args.size 2 then some (.copy s, c.args.toList) else none
        | none => none
      | _ => none
    | none => none
  | .builtin .min => some (.min, c.args.toList)
  | .builtin .max => some (.max, c.args.toList)
  | _ => none
def compOp (P : Program) (o : Op) : Option (Prim × List Operand) :=
  match o with
  | .move x => some (.mov, [x])
  | .assign x => some (.mov, [x])
  | .pick c a b => some (.pick, [c, a, b])
  | .alloc t => match zeroT P t with
    | some z => some (.alloc z, [])
    | none => none
  | .box _ x => some (.box, [x])
  | .build t ps => match zeroT P t, P.underlying t with
    | some z, some (.struct fs) => match placesS P fs (ps.toList.map (·.1)) with
      | some pl => bif z.isAgg && sizesOK P fs.toList then some (.build z pl, ps.toList.map (·.2)) else none
      | none => none
    | some z, some (.array _ e) => match sizeT P e with
      | some s => bif z.isAgg then some (.build z (placesA s (ps.toList.map (·.1))), ps.toList.map (·.2)) else none
      | none => none
    | _, _ => none
  | .buildSlice t n ps => match P.underlying t with
    | some (.slice e) => match zeroT P e, sizeT P e with
      | some z, some s => bif Nat.blt 0 s && Nat.ble (n * s) 16777216 && Nat.beq (aggBlock z).csize s then (match (aggBlock z).rep n with
        | some c => some (.buildSl c s n (placesA s (ps.toList.map (·.1))), ps.toList.map (·.2))
        | none => none) else none
      | _, _ => none
    | _ => none
  | .load t x => match kindT P t with
    | some k => some (.load k, [x])
    | none => none
  | .store t a v => match sizeT P t with
    | some n => some (.store n, [a, v])
    | none => none
  | .fieldAddr t x i => match P.underlying t with
    | some (.struct fs) => match fs[i]? with
      | some f => match sizeT P f.type with
        | some s => bif Nat.blt 0 s then some (.padd f.offset, [x]) else none
        | none => none
      | none => none
    | _ => none
  | .nilCheck x => some (.nilchk, [x])
  | .field t x i => match P.underlying t with
    | some (.struct fs) => match fs[i]? with
      | some f => match kindT P f.type with
        | some k => some (.field f.offset k, [x])
        | none => none
      | none => none
    | _ => none
  | .indexAddr t x i => match P.underlying t with
    | some (.array n e) => match sizeT P e with
      | some s => some (.idxA n s, [x, i])
      | none => none
    | some (.slice e) => match sizeT P e with
      | some s => some (.idxS s, [x, i])
      | none => none
    | _ => none
  | .index t x i => match P.underlying t with
    | some (.array n e) => match sizeT P e, kindT P e with
      | some s, some k => some (.idxV n s k, [x, i])
      | _, _ => none
    | some .string => some (.idxStr, [x, i])
    | _ => none
  | .binOp op t x y _ => match compB op P t with
    | some p => some (p, [x, y])
    | none => none
  | .unOp op _ x => some (.un op, [x])
  | .convert s d x => match P.underlying s, P.underlying d with
    | some (.int _), some (.int k) => some (.conv k, [x])
    | some (.int _), some (.float .f64) => some (.i2f, [x])
    | some (.float .f64), some (.int k) => some (.f2i k, [x])
    | some .string, some .string => some (.convId, [x])
    | some .string, some (.slice e) => match P.underlying e with
      | some (.int .u8) => some (.s2b, [x])
      | _ => none
    | some (.slice e), some .string => match P.underlying e with
      | some (.int .u8) => some (.b2s, [x])
      | _ => none
    | some (.slice _), some (.slice e) => match P.underlying e with
      | some (.int .u8) => if s = d then some (.mark, [x]) else none
      | _ => none
    | _, _ => none
  | .sliceToArrayPointer t x => match P.underlying t with
    | some (.array n _) => some (.s2ap n, [x])
    | _ => none
  | .makeFunc (.func f) a c => some (.mkfn f a.size, a.toList ++ c.toList)
  | .makeSlice t l c => match P.underlying t with
    | some (.slice e) => match zeroT P e, sizeT P e, bytesT P e with
      | some z, some s, some b => bif Nat.blt 0 s && Nat.beq (aggBlock z).csize s then some (.mksl (aggBlock z) s b, [l, c]) else none
      | _, _, _ => none
    | _ => none
  | .slice t x lo hi none => match P.underlying t with
    | some (.array n e) => match sizeT P e with
      | some s => bif Nat.blt 0 s then some (.slA n s (flagged lo) (flagged hi), x :: (lo.toList ++ hi.toList)) else none
      | none => none
    | some (.slice e) => match sizeT P e with
      | some s => some (.slS s (flagged lo) (flagged hi), x :: (lo.toList ++ hi.toList))
      | none => none
    | some .string => some (.slStr (flagged lo) (flagged hi), x :: (lo.toList ++ hi.toList))
    | _ => none
  | .slice t x none (some hi) (some mx) => match P.underlying t with
    | some (.slice e) => match sizeT P e with
      | some s => some (.slS3 s, [x, hi, mx])
      | none => none
    | _ => none
  | .extract x i => some (.extr i, [x])
  | .call c => compCall P c
  | _ => none
def edgesOf : List Edge → List Nat
  | [] => []
  | e :: l => match e.ground with
    | .textOnly _ | .gcOnly _ => edgesOf l
    | _ => e.on :: edgesOf l
/-- A guard, by the slot of the operation that it names. -/
def guardOf (ops : Array Oper) : Option (Nat × Bool) → Option (Option (Nat × Bool))
  | none => some none
  | some (j, b) => match ops[j]? with
    | some o => match o.dst with
      | some d => some (some (d, b))
      | none => none
    | none => none
def compOper (P : Program) (ops : Array Oper) (o : Oper) : Option AOper :=
  match compOp P o.op, guardOf ops o.guard with
  | some (p, xs), some g => match compXs xs with
    | some ys => some ⟨o.dst, p, ys, g, edgesOf o.after.toList⟩
    | none => none
  | _, _ => none
def compOps (P : Program) (ops : Array Oper) : List Oper → Option (List AOper)
  | [] => some []
  | o :: l => match compOper P ops o, compOps P ops l with
    | some a, some r => some (a :: r)
    | _, _ => none
/-- D: of each loop, by its number, the slots that are written ahead of every reading in it. -/
def comp (P : Program) (D : Nat → Option (List Nat)) : Code → Nat → Option (ACode × Nat)
  | .skip, n => some (.skip, n)
  | .region _ ops d, n => match compOps P ops ops.toList with
    | some l => some (.ops l d, n)
    | none => some (.cond (.val .junk) .skip .skip, n)
  | .seq a b, n => match comp P D a n with
    | some (a', n') => match comp P D b n' with
      | some (b', n'') => some (.seq a' b', n'')
      | none => none
    | none => none
  | .cond c t e, n => match compX c, comp P D t n with
    | some c', some (t', n') => match comp P D e n' with
      | some (e', n'') => some (.cond c' t' e', n'')
      | none => none
    | _, _ => none
  | .block id b, n => match comp P D b n with
    | some (b', n') => some (.block id b', n')
    | none => none
  | .loop b, n => match comp P D b (n + 1) with
    | some (b', n') => some (.loop n (D n) b', n')
    | none => none
  | .exit id, n => some (.exit id, n)
  | .ret, n => some (.ret, n)
  | _, _ => none
def compRes (P : Program) : List ResultVar → Option (List ARes)
  | [] => some []
  | .tmp t :: l => match compRes P l with
    | some r => some (.tmp t :: r)
    | none => none
  | .cell t ty :: l => match kindT P ty, compRes P l with
    | some k, some r => some (.cell t k :: r)
    | _, _ => none
def compFn (P : Program) (D : Nat → Option (List Nat)) (f : FuncId) : Option AFun :=
  match P.funcs[f]? with
  | some fn => match fn.body with
    | some c => match comp P D c 0, compRes P fn.results.toList with
      | some (c', _), some r => if fn.name = "runtime.NumGoroutine" then none else some ⟨c', fn.ntmps, r⟩
      | _, _ => none
    | none => none
  | none => none
end Go.Proofs.Ytnfglcfjjemjmaa
