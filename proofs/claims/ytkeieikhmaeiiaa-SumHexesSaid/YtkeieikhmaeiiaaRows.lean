/-
  No cell of these rows narrows 'for every input' (looked for: loops, veiled, ifaces, maps, wideKeys, modest, calm, conditions, laid).
  DERIVED. THE GIVEN ROWS OF THIS SEAT. 6 by the template 'for every input the law returns true; each argument reads behind the call as it read before'; 0 by the template 'total and deterministic' (their statements: YtkeieikhmaeiiaaTotals.lean).
  GIVEN WITH THE SEED: the statements are not yours to turn. If you find one false, say at which input.
  Laid BY PROGRAM, IN A SANDBOX (cutbox-rows.mjs): the forced cells as the released guide's own fill.sh prints them over the translation d74aec4b552d27e6… (all of the seat's roots in one cut). By AI agents, Wed Nov 11 2026. No macro, syntax, notation, axiom, sorry.
-/
import Derived.Test.YtkeieikhmaeiiaaChecked
import GoSem.Claim
import GoSem.ClaimJoined
import GoSem.ClaimMapViews
import Derived.JoinedTies
import Derived.KernelRfl
namespace Go.Proofs.Ytkeieikhmaeiiaa
/- THE CELL 'sum', in the pinned program and in every row, IS THE sha256 OF THE DUMP (.gsa) THAT YtkeieikhmaeiiaaProg.lean LOADS. Nothing in Lean hashes anything: it is a label: what it is worth is what the hold of that sum in a sandbox is worth. -/
noncomputable def Try.pinned : Pinned := { name := "ytkeieikhmaeiiaa", sum := "d74aec4b552d27e670cc8f72680e660a8fb557e934cb82c21f1d9f9d5df2e261", checked := Try.checked }
namespace Rows
def none {H : Type} : Left H := { results := [], args := [] }

/-- 'introitlaw8.ScalarSays': WHATEVER THE INPUT: true; the input reads as it did. -/
def scalarSaysSpec : ChangeSpec := { name := "scalarSays", fn := fun _ => fun
  | [d1, d2, d3, d4, d5] => { results := [.lit (.bool true)], args := [d1, d2, d3, d4, d5] }
  | _ => none }
def scalarSaysRow : OpenClaim := { program := "ytkeieikhmaeiiaa", sum := "d74aec4b552d27e670cc8f72680e660a8fb557e934cb82c21f1d9f9d5df2e261", func := "introit/introitlaw8.ScalarSays", spec := "scalarSays", inPlace := ["math/bits.Sub64", "math/bits.Add64"], unfollowed := true, recurses := true, apart := false }
def ScalarSaysSaid : Prop := scalarSaysRow.holds Try.pinned (OpenSpec.ofChange scalarSaysSpec)

/-- ITS FALSE NEIGHBOUR: 'it returns false'. Refute it at one input. -/
def scalarSaysWrong : ChangeSpec := { name := "scalarSays", fn := fun _ => fun
  | [d1, d2, d3, d4, d5] => { results := [.lit (.bool false)], args := [d1, d2, d3, d4, d5] }
  | _ => none }
def ScalarSaysWrongFalsely : Prop := scalarSaysRow.holds Try.pinned (OpenSpec.ofChange scalarSaysWrong)

/-- 'introitlaw6.SumKnown': WHATEVER THE INPUT: true; the input reads as it did. -/
def sumKnownSpec : ChangeSpec := { name := "sumKnown", fn := fun _ => fun
  | [] => { results := [.lit (.bool true)], args := [] }
  | _ => none }
def sumKnownRow : OpenClaim := { program := "ytkeieikhmaeiiaa", sum := "d74aec4b552d27e670cc8f72680e660a8fb557e934cb82c21f1d9f9d5df2e261", func := "introit/introitlaw6.SumKnown", spec := "sumKnown", inPlace := ["math.sqrt", "math.Float64bits", "math.Float64frombits", "math/bits.Add64", "internal/bytealg.MakeNoZero"], unfollowed := true, recurses := true, apart := false }
def SumKnownSaid : Prop := sumKnownRow.holds Try.pinned (OpenSpec.ofChange sumKnownSpec)

/-- ITS FALSE NEIGHBOUR: 'it returns false'. Refute it at one input. -/
def sumKnownWrong : ChangeSpec := { name := "sumKnown", fn := fun _ => fun
  | [] => { results := [.lit (.bool false)], args := [] }
  | _ => none }
def SumKnownWrongFalsely : Prop := sumKnownRow.holds Try.pinned (OpenSpec.ofChange sumKnownWrong)

/-- 'introitlaw6.SumSays': WHATEVER THE INPUT: true; the input reads as it did. -/
def sumSaysSpec : ChangeSpec := { name := "sumSays", fn := fun _ => fun
  | [d] => { results := [.lit (.bool true)], args := [d] }
  | _ => none }
def sumSaysRow : OpenClaim := { program := "ytkeieikhmaeiiaa", sum := "d74aec4b552d27e670cc8f72680e660a8fb557e934cb82c21f1d9f9d5df2e261", func := "introit/introitlaw6.SumSays", spec := "sumSays", inPlace := ["math.sqrt", "math.Float64bits", "math.Float64frombits", "math/bits.Add64", "internal/bytealg.MakeNoZero"], unfollowed := true, recurses := true, apart := false }
def SumSaysSaid : Prop := sumSaysRow.holds Try.pinned (OpenSpec.ofChange sumSaysSpec)

/-- ITS FALSE NEIGHBOUR: 'it returns false'. Refute it at one input. -/
def sumSaysWrong : ChangeSpec := { name := "sumSays", fn := fun _ => fun
  | [d] => { results := [.lit (.bool false)], args := [d] }
  | _ => none }
def SumSaysWrongFalsely : Prop := sumSaysRow.holds Try.pinned (OpenSpec.ofChange sumSaysWrong)

/-- 'introitlaw6.SumLengths': WHATEVER THE INPUT: true; the input reads as it did. -/
def sumLengthsSpec : ChangeSpec := { name := "sumLengths", fn := fun _ => fun
  | [d1, d2] => { results := [.lit (.bool true)], args := [d1, d2] }
  | _ => none }
def sumLengthsRow : OpenClaim := { program := "ytkeieikhmaeiiaa", sum := "d74aec4b552d27e670cc8f72680e660a8fb557e934cb82c21f1d9f9d5df2e261", func := "introit/introitlaw6.SumLengths", spec := "sumLengths", inPlace := ["math.sqrt", "math.Float64bits", "math.Float64frombits", "math/bits.Add64", "internal/bytealg.MakeNoZero"], unfollowed := true, recurses := true, apart := false }
def SumLengthsSaid : Prop := sumLengthsRow.holds Try.pinned (OpenSpec.ofChange sumLengthsSpec)

/-- ITS FALSE NEIGHBOUR: 'it returns false'. Refute it at one input. -/
def sumLengthsWrong : ChangeSpec := { name := "sumLengths", fn := fun _ => fun
  | [d1, d2] => { results := [.lit (.bool false)], args := [d1, d2] }
  | _ => none }
def SumLengthsWrongFalsely : Prop := sumLengthsRow.holds Try.pinned (OpenSpec.ofChange sumLengthsWrong)

/-- 'introitlaw6.SumParts': WHATEVER THE INPUT: true; the input reads as it did. -/
def sumPartsSpec : ChangeSpec := { name := "sumParts", fn := fun _ => fun
  | [d1, d2] => { results := [.lit (.bool true)], args := [d1, d2] }
  | _ => none }
def sumPartsRow : OpenClaim := { program := "ytkeieikhmaeiiaa", sum := "d74aec4b552d27e670cc8f72680e660a8fb557e934cb82c21f1d9f9d5df2e261", func := "introit/introitlaw6.SumParts", spec := "sumParts", inPlace := ["math.sqrt", "math.Float64bits", "math.Float64frombits", "math/bits.Add64", "internal/bytealg.MakeNoZero"], unfollowed := true, recurses := true, apart := false }
def SumPartsSaid : Prop := sumPartsRow.holds Try.pinned (OpenSpec.ofChange sumPartsSpec)

/-- ITS FALSE NEIGHBOUR: 'it returns false'. Refute it at one input. -/
def sumPartsWrong : ChangeSpec := { name := "sumParts", fn := fun _ => fun
  | [d1, d2] => { results := [.lit (.bool false)], args := [d1, d2] }
  | _ => none }
def SumPartsWrongFalsely : Prop := sumPartsRow.holds Try.pinned (OpenSpec.ofChange sumPartsWrong)

/-- 'introitlaw6.SumHexes': WHATEVER THE INPUT: true; the input reads as it did. -/
def sumHexesSpec : ChangeSpec := { name := "sumHexes", fn := fun _ => fun
  | [d1, d2] => { results := [.lit (.bool true)], args := [d1, d2] }
  | _ => none }
def sumHexesRow : OpenClaim := { program := "ytkeieikhmaeiiaa", sum := "d74aec4b552d27e670cc8f72680e660a8fb557e934cb82c21f1d9f9d5df2e261", func := "introit/introitlaw6.SumHexes", spec := "sumHexes", inPlace := ["math.sqrt", "math.Float64bits", "math.Float64frombits", "math/bits.Add64", "internal/bytealg.MakeNoZero"], unfollowed := true, recurses := true, apart := false }
def SumHexesSaid : Prop := sumHexesRow.holds Try.pinned (OpenSpec.ofChange sumHexesSpec)

/-- ITS FALSE NEIGHBOUR: 'it returns false'. Refute it at one input. -/
def sumHexesWrong : ChangeSpec := { name := "sumHexes", fn := fun _ => fun
  | [d1, d2] => { results := [.lit (.bool false)], args := [d1, d2] }
  | _ => none }
def SumHexesWrongFalsely : Prop := sumHexesRow.holds Try.pinned (OpenSpec.ofChange sumHexesWrong)

/- THE SECOND FORM. 'bulk': how many values and letters a reading holds, each counted each time it is reached (what is shared counts as often as it is met; a slice's spare places count too). A statement '..UptoSaid' is the law's where the arguments, and the package variables that the reading takes, are together of bulk at most 1048576: NARROWER than '..Said'. Prove '..Said' where nothing that the law and all that it calls make is longer than what came in: it says more and counts as full. Else prove '..UptoSaid'. A law counts once. -/
mutual
def uptoBulk {H : Type} : DataW H → Nat
  | .lit (.string bytes) => bytes.length + 1
  | .lit _ => 1
  | .nil => 1
  | .ptr d => uptoBulk d + 1
  | .slice elems spare => uptoBulkAll elems + uptoBulkAll spare + 1
  | .agg parts => uptoBulkAll parts + 1
  | .iface _ d => uptoBulk d + 1
  | .map entries => uptoBulkEntries entries + 1
  | .held _ => 1
def uptoBulkAll {H : Type} : List (DataW H) → Nat
  | [] => 0
  | d :: r => uptoBulk d + uptoBulkAll r
def uptoBulkEntries {H : Type} : List (Lit × DataW H) → Nat
  | [] => 0
  | x :: r => uptoBulkEntry x + uptoBulkEntries r
def uptoBulkEntry {H : Type} : Lit × DataW H → Nat
  | (.string bytes, d) => bytes.length + uptoBulk d + 1
  | (_, d) => uptoBulk d + 1
 end
def uptoSmall : (H : Type) → List (DataW H) → Bool := fun _ ds => decide (uptoBulkAll ds ≤ 1048576)
def OpenSpec.upto (s : _root_.Go.ChangeSpec) : _root_.Go.OpenSpec := { _root_.Go.OpenSpec.ofChange s with cond := some uptoSmall }

/-- 'introitlaw8.ScalarSays', WHERE WHAT IT READS IS OF BULK AT MOST 1048576: true; the input reads as it did. -/
def scalarSaysUptoRow : OpenClaim := { program := "ytkeieikhmaeiiaa", sum := "d74aec4b552d27e670cc8f72680e660a8fb557e934cb82c21f1d9f9d5df2e261", func := "introit/introitlaw8.ScalarSays", spec := "scalarSays", inPlace := ["math/bits.Sub64", "math/bits.Add64"], unfollowed := true, recurses := true, apart := false, narrowed := true }
def ScalarSaysUptoSaid : Prop := scalarSaysUptoRow.holds Try.pinned (OpenSpec.upto scalarSaysSpec)

/-- 'introitlaw6.SumKnown', WHERE WHAT IT READS IS OF BULK AT MOST 1048576: true; the input reads as it did. -/
def sumKnownUptoRow : OpenClaim := { program := "ytkeieikhmaeiiaa", sum := "d74aec4b552d27e670cc8f72680e660a8fb557e934cb82c21f1d9f9d5df2e261", func := "introit/introitlaw6.SumKnown", spec := "sumKnown", inPlace := ["math.sqrt", "math.Float64bits", "math.Float64frombits", "math/bits.Add64", "internal/bytealg.MakeNoZero"], unfollowed := true, recurses := true, apart := false, narrowed := true }
def SumKnownUptoSaid : Prop := sumKnownUptoRow.holds Try.pinned (OpenSpec.upto sumKnownSpec)

/-- 'introitlaw6.SumSays', WHERE WHAT IT READS IS OF BULK AT MOST 1048576: true; the input reads as it did. -/
def sumSaysUptoRow : OpenClaim := { program := "ytkeieikhmaeiiaa", sum := "d74aec4b552d27e670cc8f72680e660a8fb557e934cb82c21f1d9f9d5df2e261", func := "introit/introitlaw6.SumSays", spec := "sumSays", inPlace := ["math.sqrt", "math.Float64bits", "math.Float64frombits", "math/bits.Add64", "internal/bytealg.MakeNoZero"], unfollowed := true, recurses := true, apart := false, narrowed := true }
def SumSaysUptoSaid : Prop := sumSaysUptoRow.holds Try.pinned (OpenSpec.upto sumSaysSpec)

/-- 'introitlaw6.SumLengths', WHERE WHAT IT READS IS OF BULK AT MOST 1048576: true; the input reads as it did. -/
def sumLengthsUptoRow : OpenClaim := { program := "ytkeieikhmaeiiaa", sum := "d74aec4b552d27e670cc8f72680e660a8fb557e934cb82c21f1d9f9d5df2e261", func := "introit/introitlaw6.SumLengths", spec := "sumLengths", inPlace := ["math.sqrt", "math.Float64bits", "math.Float64frombits", "math/bits.Add64", "internal/bytealg.MakeNoZero"], unfollowed := true, recurses := true, apart := false, narrowed := true }
def SumLengthsUptoSaid : Prop := sumLengthsUptoRow.holds Try.pinned (OpenSpec.upto sumLengthsSpec)

/-- 'introitlaw6.SumParts', WHERE WHAT IT READS IS OF BULK AT MOST 1048576: true; the input reads as it did. -/
def sumPartsUptoRow : OpenClaim := { program := "ytkeieikhmaeiiaa", sum := "d74aec4b552d27e670cc8f72680e660a8fb557e934cb82c21f1d9f9d5df2e261", func := "introit/introitlaw6.SumParts", spec := "sumParts", inPlace := ["math.sqrt", "math.Float64bits", "math.Float64frombits", "math/bits.Add64", "internal/bytealg.MakeNoZero"], unfollowed := true, recurses := true, apart := false, narrowed := true }
def SumPartsUptoSaid : Prop := sumPartsUptoRow.holds Try.pinned (OpenSpec.upto sumPartsSpec)

/-- 'introitlaw6.SumHexes', WHERE WHAT IT READS IS OF BULK AT MOST 1048576: true; the input reads as it did. -/
def sumHexesUptoRow : OpenClaim := { program := "ytkeieikhmaeiiaa", sum := "d74aec4b552d27e670cc8f72680e660a8fb557e934cb82c21f1d9f9d5df2e261", func := "introit/introitlaw6.SumHexes", spec := "sumHexes", inPlace := ["math.sqrt", "math.Float64bits", "math.Float64frombits", "math/bits.Add64", "internal/bytealg.MakeNoZero"], unfollowed := true, recurses := true, apart := false, narrowed := true }
def SumHexesUptoSaid : Prop := sumHexesUptoRow.holds Try.pinned (OpenSpec.upto sumHexesSpec)

end Rows
end Go.Proofs.Ytkeieikhmaeiiaa
