/-
  No cell of these rows narrows 'for every input' (looked for: loops, veiled, ifaces, maps, wideKeys, modest, calm, conditions, laid).
  DERIVED. THE GIVEN ROWS OF THIS SEAT. 8 by the template 'for every input the law returns true; each argument reads behind the call as it read before'; 0 by the template 'total and deterministic' (their statements: YtfdhfhgljhnhlaaTotals.lean).
  GIVEN WITH THE SEED: the statements are not yours to turn. If you find one false, say at which input.
  Laid BY PROGRAM, IN A SANDBOX (cutbox-rows.mjs): the forced cells as the released guide's own fill.sh prints them over the translation 70e4055fcb45da85… (all of the seat's roots in one cut). By AI agents, Wed Nov 11 2026. No macro, syntax, notation, axiom, sorry.
-/
import Derived.Test.YtfdhfhgljhnhlaaChecked
import GoSem.Claim
import GoSem.ClaimJoined
import GoSem.ClaimMapViews
import Derived.JoinedTies
import Derived.KernelRfl
namespace Go.Proofs.Ytfdhfhgljhnhlaa
/- THE CELL 'sum', in the pinned program and in every row, IS THE sha256 OF THE DUMP (.gsa) THAT YtfdhfhgljhnhlaaProg.lean LOADS. Nothing in Lean hashes anything: it is a label: what it is worth is what the hold of that sum in a sandbox is worth. -/
noncomputable def Try.pinned : Pinned := { name := "ytfdhfhgljhnhlaa", sum := "70e4055fcb45da852cf00c58ca8e868df1f94f44ec00734c184ea990af18c5c7", checked := Try.checked }
namespace Rows
def none {H : Type} : Left H := { results := [], args := [] }

/-- 'introitlaw8.ScalarSays': WHATEVER THE INPUT: true; the input reads as it did. -/
def scalarSaysSpec : ChangeSpec := { name := "scalarSays", fn := fun _ => fun
  | [d1, d2, d3, d4, d5] => { results := [.lit (.bool true)], args := [d1, d2, d3, d4, d5] }
  | _ => none }
def scalarSaysRow : OpenClaim := { program := "ytfdhfhgljhnhlaa", sum := "70e4055fcb45da852cf00c58ca8e868df1f94f44ec00734c184ea990af18c5c7", func := "introit/introitlaw8.ScalarSays", spec := "scalarSays", inPlace := ["math/bits.Sub64", "math/bits.Add64"], unfollowed := true, recurses := true, apart := false }
def ScalarSaysSaid : Prop := scalarSaysRow.holds Try.pinned (OpenSpec.ofChange scalarSaysSpec)

/-- ITS FALSE NEIGHBOUR: 'it returns false'. Refute it at one input. -/
def scalarSaysWrong : ChangeSpec := { name := "scalarSays", fn := fun _ => fun
  | [d1, d2, d3, d4, d5] => { results := [.lit (.bool false)], args := [d1, d2, d3, d4, d5] }
  | _ => none }
def ScalarSaysWrongFalsely : Prop := scalarSaysRow.holds Try.pinned (OpenSpec.ofChange scalarSaysWrong)

/-- 'introitlaw7.FieldSays': WHATEVER THE INPUT: true; the input reads as it did. -/
def fieldSaysSpec : ChangeSpec := { name := "fieldSays", fn := fun _ => fun
  | [d1, d2, d3] => { results := [.lit (.bool true)], args := [d1, d2, d3] }
  | _ => none }
def fieldSaysRow : OpenClaim := { program := "ytfdhfhgljhnhlaa", sum := "70e4055fcb45da852cf00c58ca8e868df1f94f44ec00734c184ea990af18c5c7", func := "introit/introitlaw7.FieldSays", spec := "fieldSays", inPlace := ["math/bits.Sub64", "math/bits.Add64"], unfollowed := true, recurses := true, apart := false }
def FieldSaysSaid : Prop := fieldSaysRow.holds Try.pinned (OpenSpec.ofChange fieldSaysSpec)

/-- ITS FALSE NEIGHBOUR: 'it returns false'. Refute it at one input. -/
def fieldSaysWrong : ChangeSpec := { name := "fieldSays", fn := fun _ => fun
  | [d1, d2, d3] => { results := [.lit (.bool false)], args := [d1, d2, d3] }
  | _ => none }
def FieldSaysWrongFalsely : Prop := fieldSaysRow.holds Try.pinned (OpenSpec.ofChange fieldSaysWrong)

/-- 'introitlaw9.CurveEight': WHATEVER THE INPUT: true; the input reads as it did. -/
def curveEightSpec : ChangeSpec := { name := "curveEight", fn := fun _ => fun
  | [d] => { results := [.lit (.bool true)], args := [d] }
  | _ => none }
def curveEightRow : OpenClaim := { program := "ytfdhfhgljhnhlaa", sum := "70e4055fcb45da852cf00c58ca8e868df1f94f44ec00734c184ea990af18c5c7", func := "introit/introitlaw9.CurveEight", spec := "curveEight", inPlace := ["math/bits.Sub64", "math/bits.Add64"], unfollowed := true, recurses := true, apart := false }
def CurveEightSaid : Prop := curveEightRow.holds Try.pinned (OpenSpec.ofChange curveEightSpec)

/-- ITS FALSE NEIGHBOUR: 'it returns false'. Refute it at one input. -/
def curveEightWrong : ChangeSpec := { name := "curveEight", fn := fun _ => fun
  | [d] => { results := [.lit (.bool false)], args := [d] }
  | _ => none }
def CurveEightWrongFalsely : Prop := curveEightRow.holds Try.pinned (OpenSpec.ofChange curveEightWrong)

/-- 'introitlaw9.CurveLaws': WHATEVER THE INPUT: true; the input reads as it did. -/
def curveLawsSpec : ChangeSpec := { name := "curveLaws", fn := fun _ => fun
  | [d1, d2, d3] => { results := [.lit (.bool true)], args := [d1, d2, d3] }
  | _ => none }
def curveLawsRow : OpenClaim := { program := "ytfdhfhgljhnhlaa", sum := "70e4055fcb45da852cf00c58ca8e868df1f94f44ec00734c184ea990af18c5c7", func := "introit/introitlaw9.CurveLaws", spec := "curveLaws", inPlace := ["math/bits.Sub64", "math/bits.Add64"], unfollowed := true, recurses := true, apart := false }
def CurveLawsSaid : Prop := curveLawsRow.holds Try.pinned (OpenSpec.ofChange curveLawsSpec)

/-- ITS FALSE NEIGHBOUR: 'it returns false'. Refute it at one input. -/
def curveLawsWrong : ChangeSpec := { name := "curveLaws", fn := fun _ => fun
  | [d1, d2, d3] => { results := [.lit (.bool false)], args := [d1, d2, d3] }
  | _ => none }
def CurveLawsWrongFalsely : Prop := curveLawsRow.holds Try.pinned (OpenSpec.ofChange curveLawsWrong)

/-- 'introitlaw9.CurveOf': WHATEVER THE INPUT: true; the input reads as it did. -/
def curveOfSpec : ChangeSpec := { name := "curveOf", fn := fun _ => fun
  | [d1, d2] => { results := [.lit (.bool true)], args := [d1, d2] }
  | _ => none }
def curveOfRow : OpenClaim := { program := "ytfdhfhgljhnhlaa", sum := "70e4055fcb45da852cf00c58ca8e868df1f94f44ec00734c184ea990af18c5c7", func := "introit/introitlaw9.CurveOf", spec := "curveOf", inPlace := ["math/bits.Sub64", "math/bits.Add64"], unfollowed := true, recurses := true, apart := false }
def CurveOfSaid : Prop := curveOfRow.holds Try.pinned (OpenSpec.ofChange curveOfSpec)

/-- ITS FALSE NEIGHBOUR: 'it returns false'. Refute it at one input. -/
def curveOfWrong : ChangeSpec := { name := "curveOf", fn := fun _ => fun
  | [d1, d2] => { results := [.lit (.bool false)], args := [d1, d2] }
  | _ => none }
def CurveOfWrongFalsely : Prop := curveOfRow.holds Try.pinned (OpenSpec.ofChange curveOfWrong)

/-- 'introitlaw9.CurveSays': WHATEVER THE INPUT: true; the input reads as it did. -/
def curveSaysSpec : ChangeSpec := { name := "curveSays", fn := fun _ => fun
  | [d1, d2, d3] => { results := [.lit (.bool true)], args := [d1, d2, d3] }
  | _ => none }
def curveSaysRow : OpenClaim := { program := "ytfdhfhgljhnhlaa", sum := "70e4055fcb45da852cf00c58ca8e868df1f94f44ec00734c184ea990af18c5c7", func := "introit/introitlaw9.CurveSays", spec := "curveSays", inPlace := ["math/bits.Sub64", "math/bits.Add64"], unfollowed := true, recurses := true, apart := false }
def CurveSaysSaid : Prop := curveSaysRow.holds Try.pinned (OpenSpec.ofChange curveSaysSpec)

/-- ITS FALSE NEIGHBOUR: 'it returns false'. Refute it at one input. -/
def curveSaysWrong : ChangeSpec := { name := "curveSays", fn := fun _ => fun
  | [d1, d2, d3] => { results := [.lit (.bool false)], args := [d1, d2, d3] }
  | _ => none }
def CurveSaysWrongFalsely : Prop := curveSaysRow.holds Try.pinned (OpenSpec.ofChange curveSaysWrong)

/-- 'introitlaw9.CurveKnown': WHATEVER THE INPUT: true; the input reads as it did. -/
def curveKnownSpec : ChangeSpec := { name := "curveKnown", fn := fun _ => fun
  | [] => { results := [.lit (.bool true)], args := [] }
  | _ => none }
def curveKnownRow : OpenClaim := { program := "ytfdhfhgljhnhlaa", sum := "70e4055fcb45da852cf00c58ca8e868df1f94f44ec00734c184ea990af18c5c7", func := "introit/introitlaw9.CurveKnown", spec := "curveKnown", inPlace := ["math/bits.Sub64", "math/bits.Add64"], unfollowed := true, recurses := true, apart := false }
def CurveKnownSaid : Prop := curveKnownRow.holds Try.pinned (OpenSpec.ofChange curveKnownSpec)

/-- ITS FALSE NEIGHBOUR: 'it returns false'. Refute it at one input. -/
def curveKnownWrong : ChangeSpec := { name := "curveKnown", fn := fun _ => fun
  | [] => { results := [.lit (.bool false)], args := [] }
  | _ => none }
def CurveKnownWrongFalsely : Prop := curveKnownRow.holds Try.pinned (OpenSpec.ofChange curveKnownWrong)

/-- 'introitlaw9.CurveTimes': WHATEVER THE INPUT: true; the input reads as it did. -/
def curveTimesSpec : ChangeSpec := { name := "curveTimes", fn := fun _ => fun
  | [d1, d2] => { results := [.lit (.bool true)], args := [d1, d2] }
  | _ => none }
def curveTimesRow : OpenClaim := { program := "ytfdhfhgljhnhlaa", sum := "70e4055fcb45da852cf00c58ca8e868df1f94f44ec00734c184ea990af18c5c7", func := "introit/introitlaw9.CurveTimes", spec := "curveTimes", inPlace := ["math/bits.Sub64", "math/bits.Add64"], unfollowed := true, recurses := true, apart := false }
def CurveTimesSaid : Prop := curveTimesRow.holds Try.pinned (OpenSpec.ofChange curveTimesSpec)

/-- ITS FALSE NEIGHBOUR: 'it returns false'. Refute it at one input. -/
def curveTimesWrong : ChangeSpec := { name := "curveTimes", fn := fun _ => fun
  | [d1, d2] => { results := [.lit (.bool false)], args := [d1, d2] }
  | _ => none }
def CurveTimesWrongFalsely : Prop := curveTimesRow.holds Try.pinned (OpenSpec.ofChange curveTimesWrong)

/- THE SECOND FORM. 'bulk': how many values and letters a reading holds, each counted each time it is reached (what is shared counts as often as it is met; a slice's spare places count too). A statement '..UptoSaid' is the law's where the arguments, and the package variables that the reading takes, are together of bulk at most 1048576: NARROWER than '..Said'. Prove '..Said' where nothing that the law and all that it calls make is longer than what came in: it says more and counts as full. Else prove '..UptoSaid'. A law counts once. -/
mutual
def uptoBulk {H : Type} : DataW H → Nat
  | .lit (.string bytes) => bytes.length + 1
  | .lit _ => 1
  | .nil => 1
  | .ptr d => uptoBulk d + 1
  | .slice elems spare => uptoBulkAll elems + uptoBulkAll spare + 1
  | .agg parts => uptoBulkAll parts + 1
  | .iface _ d => uptoBulk d + 1
  | .map entries => uptoBulkEntries entries + 1
  | .held _ => 1
def uptoBulkAll {H : Type} : List (DataW H) → Nat
  | [] => 0
  | d :: r => uptoBulk d + uptoBulkAll r
def uptoBulkEntries {H : Type} : List (Lit × DataW H) → Nat
  | [] => 0
  | x :: r => uptoBulkEntry x + uptoBulkEntries r
def uptoBulkEntry {H : Type} : Lit × DataW H → Nat
  | (.string bytes, d) => bytes.length + uptoBulk d + 1
  | (_, d) => uptoBulk d + 1
 end
def uptoSmall : (H : Type) → List (DataW H) → Bool := fun _ ds => decide (uptoBulkAll ds ≤ 1048576)
def OpenSpec.upto (s : _root_.Go.ChangeSpec) : _root_.Go.OpenSpec := { _root_.Go.OpenSpec.ofChange s with cond := some uptoSmall }

/-- 'introitlaw8.ScalarSays', WHERE WHAT IT READS IS OF BULK AT MOST 1048576: true; the input reads as it did. -/
def scalarSaysUptoRow : OpenClaim := { program := "ytfdhfhgljhnhlaa", sum := "70e4055fcb45da852cf00c58ca8e868df1f94f44ec00734c184ea990af18c5c7", func := "introit/introitlaw8.ScalarSays", spec := "scalarSays", inPlace := ["math/bits.Sub64", "math/bits.Add64"], unfollowed := true, recurses := true, apart := false, narrowed := true }
def ScalarSaysUptoSaid : Prop := scalarSaysUptoRow.holds Try.pinned (OpenSpec.upto scalarSaysSpec)

/-- 'introitlaw7.FieldSays', WHERE WHAT IT READS IS OF BULK AT MOST 1048576: true; the input reads as it did. -/
def fieldSaysUptoRow : OpenClaim := { program := "ytfdhfhgljhnhlaa", sum := "70e4055fcb45da852cf00c58ca8e868df1f94f44ec00734c184ea990af18c5c7", func := "introit/introitlaw7.FieldSays", spec := "fieldSays", inPlace := ["math/bits.Sub64", "math/bits.Add64"], unfollowed := true, recurses := true, apart := false, narrowed := true }
def FieldSaysUptoSaid : Prop := fieldSaysUptoRow.holds Try.pinned (OpenSpec.upto fieldSaysSpec)

/-- 'introitlaw9.CurveEight', WHERE WHAT IT READS IS OF BULK AT MOST 1048576: true; the input reads as it did. -/
def curveEightUptoRow : OpenClaim := { program := "ytfdhfhgljhnhlaa", sum := "70e4055fcb45da852cf00c58ca8e868df1f94f44ec00734c184ea990af18c5c7", func := "introit/introitlaw9.CurveEight", spec := "curveEight", inPlace := ["math/bits.Sub64", "math/bits.Add64"], unfollowed := true, recurses := true, apart := false, narrowed := true }
def CurveEightUptoSaid : Prop := curveEightUptoRow.holds Try.pinned (OpenSpec.upto curveEightSpec)

/-- 'introitlaw9.CurveLaws', WHERE WHAT IT READS IS OF BULK AT MOST 1048576: true; the input reads as it did. -/
def curveLawsUptoRow : OpenClaim := { program := "ytfdhfhgljhnhlaa", sum := "70e4055fcb45da852cf00c58ca8e868df1f94f44ec00734c184ea990af18c5c7", func := "introit/introitlaw9.CurveLaws", spec := "curveLaws", inPlace := ["math/bits.Sub64", "math/bits.Add64"], unfollowed := true, recurses := true, apart := false, narrowed := true }
def CurveLawsUptoSaid : Prop := curveLawsUptoRow.holds Try.pinned (OpenSpec.upto curveLawsSpec)

/-- 'introitlaw9.CurveOf', WHERE WHAT IT READS IS OF BULK AT MOST 1048576: true; the input reads as it did. -/
def curveOfUptoRow : OpenClaim := { program := "ytfdhfhgljhnhlaa", sum := "70e4055fcb45da852cf00c58ca8e868df1f94f44ec00734c184ea990af18c5c7", func := "introit/introitlaw9.CurveOf", spec := "curveOf", inPlace := ["math/bits.Sub64", "math/bits.Add64"], unfollowed := true, recurses := true, apart := false, narrowed := true }
def CurveOfUptoSaid : Prop := curveOfUptoRow.holds Try.pinned (OpenSpec.upto curveOfSpec)

/-- 'introitlaw9.CurveSays', WHERE WHAT IT READS IS OF BULK AT MOST 1048576: true; the input reads as it did. -/
def curveSaysUptoRow : OpenClaim := { program := "ytfdhfhgljhnhlaa", sum := "70e4055fcb45da852cf00c58ca8e868df1f94f44ec00734c184ea990af18c5c7", func := "introit/introitlaw9.CurveSays", spec := "curveSays", inPlace := ["math/bits.Sub64", "math/bits.Add64"], unfollowed := true, recurses := true, apart := false, narrowed := true }
def CurveSaysUptoSaid : Prop := curveSaysUptoRow.holds Try.pinned (OpenSpec.upto curveSaysSpec)

/-- 'introitlaw9.CurveKnown', WHERE WHAT IT READS IS OF BULK AT MOST 1048576: true; the input reads as it did. -/
def curveKnownUptoRow : OpenClaim := { program := "ytfdhfhgljhnhlaa", sum := "70e4055fcb45da852cf00c58ca8e868df1f94f44ec00734c184ea990af18c5c7", func := "introit/introitlaw9.CurveKnown", spec := "curveKnown", inPlace := ["math/bits.Sub64", "math/bits.Add64"], unfollowed := true, recurses := true, apart := false, narrowed := true }
def CurveKnownUptoSaid : Prop := curveKnownUptoRow.holds Try.pinned (OpenSpec.upto curveKnownSpec)

/-- 'introitlaw9.CurveTimes', WHERE WHAT IT READS IS OF BULK AT MOST 1048576: true; the input reads as it did. -/
def curveTimesUptoRow : OpenClaim := { program := "ytfdhfhgljhnhlaa", sum := "70e4055fcb45da852cf00c58ca8e868df1f94f44ec00734c184ea990af18c5c7", func := "introit/introitlaw9.CurveTimes", spec := "curveTimes", inPlace := ["math/bits.Sub64", "math/bits.Add64"], unfollowed := true, recurses := true, apart := false, narrowed := true }
def CurveTimesUptoSaid : Prop := curveTimesUptoRow.holds Try.pinned (OpenSpec.upto curveTimesSpec)

end Rows
end Go.Proofs.Ytfdhfhgljhnhlaa
