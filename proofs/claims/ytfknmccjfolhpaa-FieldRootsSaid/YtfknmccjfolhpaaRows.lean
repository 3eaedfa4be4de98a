/-
  No cell of these rows narrows 'for every input' (looked for: loops, veiled, ifaces, maps, wideKeys, modest, calm, conditions, laid).
  DERIVED. THE GIVEN ROWS OF THIS SEAT. 6 by the template 'for every input the law returns true; each argument reads behind the call as it read before'; 0 by the template 'total and deterministic' (their statements: YtfknmccjfolhpaaTotals.lean).
  GIVEN WITH THE SEED: the statements are not yours to turn. If you find one false, say at which input.
  Laid BY PROGRAM, IN A SANDBOX (cutbox-rows.mjs): the forced cells as the released guide's own fill.sh prints them over the translation 6788adb84ba0d3d2… (all of the seat's roots in one cut). By AI agents, Wed Nov 11 2026. No macro, syntax, notation, axiom, sorry.
-/
import Derived.Test.YtfknmccjfolhpaaChecked
import GoSem.Claim
import GoSem.ClaimJoined
import GoSem.ClaimMapViews
import Derived.JoinedTies
import Derived.KernelRfl
namespace Go.Proofs.Ytfknmccjfolhpaa
/- THE CELL 'sum', in the pinned program and in every row, IS THE sha256 OF THE DUMP (.gsa) THAT YtfknmccjfolhpaaProg.lean LOADS. Nothing in Lean hashes anything: it is a label: what it is worth is what the hold of that sum in a sandbox is worth. -/
noncomputable def Try.pinned : Pinned := { name := "ytfknmccjfolhpaa", sum := "6788adb84ba0d3d2511cc2882d0fcd221a73dfc8a9795e33e4fcf192a302f848", checked := Try.checked }
namespace Rows
def none {H : Type} : Left H := { results := [], args := [] }

/-- 'introitlaw8.ScalarSays': WHATEVER THE INPUT: true; the input reads as it did. -/
def scalarSaysSpec : ChangeSpec := { name := "scalarSays", fn := fun _ => fun
  | [d1, d2, d3, d4, d5] => { results := [.lit (.bool true)], args := [d1, d2, d3, d4, d5] }
  | _ => none }
def scalarSaysRow : OpenClaim := { program := "ytfknmccjfolhpaa", sum := "6788adb84ba0d3d2511cc2882d0fcd221a73dfc8a9795e33e4fcf192a302f848", func := "introit/introitlaw8.ScalarSays", spec := "scalarSays", inPlace := ["math/bits.Sub64", "math/bits.Add64"], unfollowed := true, recurses := true, apart := false }
def ScalarSaysSaid : Prop := scalarSaysRow.holds Try.pinned (OpenSpec.ofChange scalarSaysSpec)

/-- ITS FALSE NEIGHBOUR: 'it returns false'. Refute it at one input. -/
def scalarSaysWrong : ChangeSpec := { name := "scalarSays", fn := fun _ => fun
  | [d1, d2, d3, d4, d5] => { results := [.lit (.bool false)], args := [d1, d2, d3, d4, d5] }
  | _ => none }
def ScalarSaysWrongFalsely : Prop := scalarSaysRow.holds Try.pinned (OpenSpec.ofChange scalarSaysWrong)

/-- 'introitlaw7.FieldLaws': WHATEVER THE INPUT: true; the input reads as it did. -/
def fieldLawsSpec : ChangeSpec := { name := "fieldLaws", fn := fun _ => fun
  | [d1, d2, d3] => { results := [.lit (.bool true)], args := [d1, d2, d3] }
  | _ => none }
def fieldLawsRow : OpenClaim := { program := "ytfknmccjfolhpaa", sum := "6788adb84ba0d3d2511cc2882d0fcd221a73dfc8a9795e33e4fcf192a302f848", func := "introit/introitlaw7.FieldLaws", spec := "fieldLaws", inPlace := ["math/bits.Sub64", "math/bits.Add64"], unfollowed := true, recurses := true, apart := false }
def FieldLawsSaid : Prop := fieldLawsRow.holds Try.pinned (OpenSpec.ofChange fieldLawsSpec)

/-- ITS FALSE NEIGHBOUR: 'it returns false'. Refute it at one input. -/
def fieldLawsWrong : ChangeSpec := { name := "fieldLaws", fn := fun _ => fun
  | [d1, d2, d3] => { results := [.lit (.bool false)], args := [d1, d2, d3] }
  | _ => none }
def FieldLawsWrongFalsely : Prop := fieldLawsRow.holds Try.pinned (OpenSpec.ofChange fieldLawsWrong)

/-- 'introitlaw7.FieldRoots': WHATEVER THE INPUT: true; the input reads as it did. -/
def fieldRootsSpec : ChangeSpec := { name := "fieldRoots", fn := fun _ => fun
  | [d] => { results := [.lit (.bool true)], args := [d] }
  | _ => none }
def fieldRootsRow : OpenClaim := { program := "ytfknmccjfolhpaa", sum := "6788adb84ba0d3d2511cc2882d0fcd221a73dfc8a9795e33e4fcf192a302f848", func := "introit/introitlaw7.FieldRoots", spec := "fieldRoots", inPlace := ["math/bits.Sub64", "math/bits.Add64"], unfollowed := true, recurses := true, apart := false }
def FieldRootsSaid : Prop := fieldRootsRow.holds Try.pinned (OpenSpec.ofChange fieldRootsSpec)

/-- ITS FALSE NEIGHBOUR: 'it returns false'. Refute it at one input. -/
def fieldRootsWrong : ChangeSpec := { name := "fieldRoots", fn := fun _ => fun
  | [d] => { results := [.lit (.bool false)], args := [d] }
  | _ => none }
def FieldRootsWrongFalsely : Prop := fieldRootsRow.holds Try.pinned (OpenSpec.ofChange fieldRootsWrong)

/-- 'introitlaw7.FieldInv': WHATEVER THE INPUT: true; the input reads as it did. -/
def fieldInvSpec : ChangeSpec := { name := "fieldInv", fn := fun _ => fun
  | [d1, d2] => { results := [.lit (.bool true)], args := [d1, d2] }
  | _ => none }
def fieldInvRow : OpenClaim := { program := "ytfknmccjfolhpaa", sum := "6788adb84ba0d3d2511cc2882d0fcd221a73dfc8a9795e33e4fcf192a302f848", func := "introit/introitlaw7.FieldInv", spec := "fieldInv", inPlace := ["math/bits.Sub64", "math/bits.Add64"], unfollowed := true, recurses := true, apart := false }
def FieldInvSaid : Prop := fieldInvRow.holds Try.pinned (OpenSpec.ofChange fieldInvSpec)

/-- ITS FALSE NEIGHBOUR: 'it returns false'. Refute it at one input. -/
def fieldInvWrong : ChangeSpec := { name := "fieldInv", fn := fun _ => fun
  | [d1, d2] => { results := [.lit (.bool false)], args := [d1, d2] }
  | _ => none }
def FieldInvWrongFalsely : Prop := fieldInvRow.holds Try.pinned (OpenSpec.ofChange fieldInvWrong)

/-- 'introitlaw7.FieldKnown': WHATEVER THE INPUT: true; the input reads as it did. -/
def fieldKnownSpec : ChangeSpec := { name := "fieldKnown", fn := fun _ => fun
  | [] => { results := [.lit (.bool true)], args := [] }
  | _ => none }
def fieldKnownRow : OpenClaim := { program := "ytfknmccjfolhpaa", sum := "6788adb84ba0d3d2511cc2882d0fcd221a73dfc8a9795e33e4fcf192a302f848", func := "introit/introitlaw7.FieldKnown", spec := "fieldKnown", inPlace := ["math/bits.Sub64", "math/bits.Add64"], unfollowed := true, recurses := true, apart := false }
def FieldKnownSaid : Prop := fieldKnownRow.holds Try.pinned (OpenSpec.ofChange fieldKnownSpec)

/-- ITS FALSE NEIGHBOUR: 'it returns false'. Refute it at one input. -/
def fieldKnownWrong : ChangeSpec := { name := "fieldKnown", fn := fun _ => fun
  | [] => { results := [.lit (.bool false)], args := [] }
  | _ => none }
def FieldKnownWrongFalsely : Prop := fieldKnownRow.holds Try.pinned (OpenSpec.ofChange fieldKnownWrong)

/-- 'introitlaw7.FieldSays': WHATEVER THE INPUT: true; the input reads as it did. -/
def fieldSaysSpec : ChangeSpec := { name := "fieldSays", fn := fun _ => fun
  | [d1, d2, d3] => { results := [.lit (.bool true)], args := [d1, d2, d3] }
  | _ => none }
def fieldSaysRow : OpenClaim := { program := "ytfknmccjfolhpaa", sum := "6788adb84ba0d3d2511cc2882d0fcd221a73dfc8a9795e33e4fcf192a302f848", func := "introit/introitlaw7.FieldSays", spec := "fieldSays", inPlace := ["math/bits.Sub64", "math/bits.Add64"], unfollowed := true, recurses := true, apart := false }
def FieldSaysSaid : Prop := fieldSaysRow.holds Try.pinned (OpenSpec.ofChange fieldSaysSpec)

/-- ITS FALSE NEIGHBOUR: 'it returns false'. Refute it at one input. -/
def fieldSaysWrong : ChangeSpec := { name := "fieldSays", fn := fun _ => fun
  | [d1, d2, d3] => { results := [.lit (.bool false)], args := [d1, d2, d3] }
  | _ => none }
def FieldSaysWrongFalsely : Prop := fieldSaysRow.holds Try.pinned (OpenSpec.ofChange fieldSaysWrong)

/- THE SECOND FORM. 'bulk': how many values and letters a reading holds, each counted each time it is reached (what is shared counts as often as it is met; a slice's spare places count too). A statement '..UptoSaid' is the law's where the arguments, and the package variables that the reading takes, are together of bulk at most 1048576: NARROWER than '..Said'. Prove '..Said' where nothing that the law and all that it calls make is longer than what came in: it says more and counts as full. Else prove '..UptoSaid'. A law counts once. -/
mutual
def uptoBulk {H : Type} : DataW H → Nat
  | .lit (.string bytes) => bytes.length + 1
  | .lit _ => 1
  | .nil => 1
  | .ptr d => uptoBulk d + 1
  | .slice elems spare => uptoBulkAll elems + uptoBulkAll spare + 1
  | .agg parts => uptoBulkAll parts + 1
  | .iface _ d => uptoBulk d + 1
  | .map entries => uptoBulkEntries entries + 1
  | .held _ => 1
def uptoBulkAll {H : Type} : List (DataW H) → Nat
  | [] => 0
  | d :: r => uptoBulk d + uptoBulkAll r
def uptoBulkEntries {H : Type} : List (Lit × DataW H) → Nat
  | [] => 0
  | x :: r => uptoBulkEntry x + uptoBulkEntries r
def uptoBulkEntry {H : Type} : Lit × DataW H → Nat
  | (.string bytes, d) => bytes.length + uptoBulk d + 1
  | (_, d) => uptoBulk d + 1
 end
def uptoSmall : (H : Type) → List (DataW H) → Bool := fun _ ds => decide (uptoBulkAll ds ≤ 1048576)
def OpenSpec.upto (s : _root_.Go.ChangeSpec) : _root_.Go.OpenSpec := { _root_.Go.OpenSpec.ofChange s with cond := some uptoSmall }

/-- 'introitlaw8.ScalarSays', WHERE WHAT IT READS IS OF BULK AT MOST 1048576: true; the input reads as it did. -/
def scalarSaysUptoRow : OpenClaim := { program := "ytfknmccjfolhpaa", sum := "6788adb84ba0d3d2511cc2882d0fcd221a73dfc8a9795e33e4fcf192a302f848", func := "introit/introitlaw8.ScalarSays", spec := "scalarSays", inPlace := ["math/bits.Sub64", "math/bits.Add64"], unfollowed := true, recurses := true, apart := false, narrowed := true }
def ScalarSaysUptoSaid : Prop := scalarSaysUptoRow.holds Try.pinned (OpenSpec.upto scalarSaysSpec)

/-- 'introitlaw7.FieldLaws', WHERE WHAT IT READS IS OF BULK AT MOST 1048576: true; the input reads as it did. -/
def fieldLawsUptoRow : OpenClaim := { program := "ytfknmccjfolhpaa", sum := "6788adb84ba0d3d2511cc2882d0fcd221a73dfc8a9795e33e4fcf192a302f848", func := "introit/introitlaw7.FieldLaws", spec := "fieldLaws", inPlace := ["math/bits.Sub64", "math/bits.Add64"], unfollowed := true, recurses := true, apart := false, narrowed := true }
def FieldLawsUptoSaid : Prop := fieldLawsUptoRow.holds Try.pinned (OpenSpec.upto fieldLawsSpec)

/-- 'introitlaw7.FieldRoots', WHERE WHAT IT READS IS OF BULK AT MOST 1048576: true; the input reads as it did. -/
def fieldRootsUptoRow : OpenClaim := { program := "ytfknmccjfolhpaa", sum := "6788adb84ba0d3d2511cc2882d0fcd221a73dfc8a9795e33e4fcf192a302f848", func := "introit/introitlaw7.FieldRoots", spec := "fieldRoots", inPlace := ["math/bits.Sub64", "math/bits.Add64"], unfollowed := true, recurses := true, apart := false, narrowed := true }
def FieldRootsUptoSaid : Prop := fieldRootsUptoRow.holds Try.pinned (OpenSpec.upto fieldRootsSpec)

/-- 'introitlaw7.FieldInv', WHERE WHAT IT READS IS OF BULK AT MOST 1048576: true; the input reads as it did. -/
def fieldInvUptoRow : OpenClaim := { program := "ytfknmccjfolhpaa", sum := "6788adb84ba0d3d2511cc2882d0fcd221a73dfc8a9795e33e4fcf192a302f848", func := "introit/introitlaw7.FieldInv", spec := "fieldInv", inPlace := ["math/bits.Sub64", "math/bits.Add64"], unfollowed := true, recurses := true, apart := false, narrowed := true }
def FieldInvUptoSaid : Prop := fieldInvUptoRow.holds Try.pinned (OpenSpec.upto fieldInvSpec)

/-- 'introitlaw7.FieldKnown', WHERE WHAT IT READS IS OF BULK AT MOST 1048576: true; the input reads as it did. -/
def fieldKnownUptoRow : OpenClaim := { program := "ytfknmccjfolhpaa", sum := "6788adb84ba0d3d2511cc2882d0fcd221a73dfc8a9795e33e4fcf192a302f848", func := "introit/introitlaw7.FieldKnown", spec := "fieldKnown", inPlace := ["math/bits.Sub64", "math/bits.Add64"], unfollowed := true, recurses := true, apart := false, narrowed := true }
def FieldKnownUptoSaid : Prop := fieldKnownUptoRow.holds Try.pinned (OpenSpec.upto fieldKnownSpec)

/-- 'introitlaw7.FieldSays', WHERE WHAT IT READS IS OF BULK AT MOST 1048576: true; the input reads as it did. -/
def fieldSaysUptoRow : OpenClaim := { program := "ytfknmccjfolhpaa", sum := "6788adb84ba0d3d2511cc2882d0fcd221a73dfc8a9795e33e4fcf192a302f848", func := "introit/introitlaw7.FieldSays", spec := "fieldSays", inPlace := ["math/bits.Sub64", "math/bits.Add64"], unfollowed := true, recurses := true, apart := false, narrowed := true }
def FieldSaysUptoSaid : Prop := fieldSaysUptoRow.holds Try.pinned (OpenSpec.upto fieldSaysSpec)

end Rows
end Go.Proofs.Ytfknmccjfolhpaa
