/-
  No cell of these rows narrows 'for every input' (looked for: loops, veiled, ifaces, maps, wideKeys, modest, calm, conditions, laid).
  DERIVED. THE GIVEN ROWS OF THIS SEAT. 9 by the template 'for every input the law returns true; each argument reads behind the call as it read before'; 0 by the template 'total and deterministic' (their statements: YtnfglcfjjemjmaaTotals.lean).
  GIVEN WITH THE SEED: the statements are not yours to turn. If you find one false, say at which input.
  Laid BY PROGRAM, IN A SANDBOX (cutbox-rows.mjs): the forced cells as the released guide's own fill.sh prints them over the translation 49ff1b568b5f6424… (all of the seat's roots in one cut). By AI agents, Wed Nov 11 2026. No macro, syntax, notation, axiom, sorry.
-/
import Derived.Test.YtnfglcfjjemjmaaChecked
import GoSem.Claim
import GoSem.ClaimJoined
import GoSem.ClaimMapViews
import Derived.JoinedTies
import Derived.KernelRfl
namespace Go.Proofs.Ytnfglcfjjemjmaa
/- THE CELL 'sum', in the pinned program and in every row, IS THE sha256 OF THE DUMP (.gsa) THAT YtnfglcfjjemjmaaProg.lean LOADS. Nothing in Lean hashes anything: it is a label: what it is worth is what the hold of that sum in a sandbox is worth. -/
noncomputable def Try.pinned : Pinned := { name := "ytnfglcfjjemjmaa", sum := "49ff1b568b5f6424d44aeaf1de1654633a9d9630c2d9785c5f66cc6babfbd08f", checked := Try.checked }
namespace Rows
def none {H : Type} : Left H := { results := [], args := [] }

/-- 'introitlaw24.DiskPrefix': WHATEVER THE INPUT: true; the input reads as it did. -/
def diskPrefixSpec : ChangeSpec := { name := "diskPrefix", fn := fun _ => fun
  | [d1, d2, d3] => { results := [.lit (.bool true)], args := [d1, d2, d3] }
  | _ => none }
def diskPrefixRow : OpenClaim := { program := "ytnfglcfjjemjmaa", sum := "49ff1b568b5f6424d44aeaf1de1654633a9d9630c2d9785c5f66cc6babfbd08f", func := "introit/introitlaw24.DiskPrefix", spec := "diskPrefix", unfollowed := true, recurses := true, apart := false }
def DiskPrefixSaid : Prop := diskPrefixRow.holds Try.pinned (OpenSpec.ofChange diskPrefixSpec)

/-- ITS FALSE NEIGHBOUR: 'it returns false'. Refute it at one input. -/
def diskPrefixWrong : ChangeSpec := { name := "diskPrefix", fn := fun _ => fun
  | [d1, d2, d3] => { results := [.lit (.bool false)], args := [d1, d2, d3] }
  | _ => none }
def DiskPrefixWrongFalsely : Prop := diskPrefixRow.holds Try.pinned (OpenSpec.ofChange diskPrefixWrong)

/-- 'introitlaw24.DiskFuses': WHATEVER THE INPUT: true; the input reads as it did. -/
def diskFusesSpec : ChangeSpec := { name := "diskFuses", fn := fun _ => fun
  | [d1, d2] => { results := [.lit (.bool true)], args := [d1, d2] }
  | _ => none }
def diskFusesRow : OpenClaim := { program := "ytnfglcfjjemjmaa", sum := "49ff1b568b5f6424d44aeaf1de1654633a9d9630c2d9785c5f66cc6babfbd08f", func := "introit/introitlaw24.DiskFuses", spec := "diskFuses", unfollowed := true, recurses := true, apart := false }
def DiskFusesSaid : Prop := diskFusesRow.holds Try.pinned (OpenSpec.ofChange diskFusesSpec)

/-- ITS FALSE NEIGHBOUR: 'it returns false'. Refute it at one input. -/
def diskFusesWrong : ChangeSpec := { name := "diskFuses", fn := fun _ => fun
  | [d1, d2] => { results := [.lit (.bool false)], args := [d1, d2] }
  | _ => none }
def DiskFusesWrongFalsely : Prop := diskFusesRow.holds Try.pinned (OpenSpec.ofChange diskFusesWrong)

/-- 'introitlaw24.DiskKnown': WHATEVER THE INPUT: true; the input reads as it did. -/
def diskKnownSpec : ChangeSpec := { name := "diskKnown", fn := fun _ => fun
  | [] => { results := [.lit (.bool true)], args := [] }
  | _ => none }
def diskKnownRow : OpenClaim := { program := "ytnfglcfjjemjmaa", sum := "49ff1b568b5f6424d44aeaf1de1654633a9d9630c2d9785c5f66cc6babfbd08f", func := "introit/introitlaw24.DiskKnown", spec := "diskKnown", unfollowed := true, recurses := true, apart := false }
def DiskKnownSaid : Prop := diskKnownRow.holds Try.pinned (OpenSpec.ofChange diskKnownSpec)

/-- ITS FALSE NEIGHBOUR: 'it returns false'. Refute it at one input. -/
def diskKnownWrong : ChangeSpec := { name := "diskKnown", fn := fun _ => fun
  | [] => { results := [.lit (.bool false)], args := [] }
  | _ => none }
def DiskKnownWrongFalsely : Prop := diskKnownRow.holds Try.pinned (OpenSpec.ofChange diskKnownWrong)

/-- 'introitlaw24.DiskPlays': WHATEVER THE INPUT: true; the input reads as it did. -/
def diskPlaysSpec : ChangeSpec := { name := "diskPlays", fn := fun _ => fun
  | [d1, d2] => { results := [.lit (.bool true)], args := [d1, d2] }
  | _ => none }
def diskPlaysRow : OpenClaim := { program := "ytnfglcfjjemjmaa", sum := "49ff1b568b5f6424d44aeaf1de1654633a9d9630c2d9785c5f66cc6babfbd08f", func := "introit/introitlaw24.DiskPlays", spec := "diskPlays", unfollowed := true, recurses := true, apart := false }
def DiskPlaysSaid : Prop := diskPlaysRow.holds Try.pinned (OpenSpec.ofChange diskPlaysSpec)

/-- ITS FALSE NEIGHBOUR: 'it returns false'. Refute it at one input. -/
def diskPlaysWrong : ChangeSpec := { name := "diskPlays", fn := fun _ => fun
  | [d1, d2] => { results := [.lit (.bool false)], args := [d1, d2] }
  | _ => none }
def DiskPlaysWrongFalsely : Prop := diskPlaysRow.holds Try.pinned (OpenSpec.ofChange diskPlaysWrong)

/-- 'introitlaw25.LogRaw': WHATEVER THE INPUT: true; the input reads as it did. -/
def logRawSpec : ChangeSpec := { name := "logRaw", fn := fun _ => fun
  | [d1, d2, d3, d4] => { results := [.lit (.bool true)], args := [d1, d2, d3, d4] }
  | _ => none }
def logRawRow : OpenClaim := { program := "ytnfglcfjjemjmaa", sum := "49ff1b568b5f6424d44aeaf1de1654633a9d9630c2d9785c5f66cc6babfbd08f", func := "introit/introitlaw25.LogRaw", spec := "logRaw", inPlace := ["math.sqrt", "math.Float64bits", "math.Float64frombits", "math/bits.Add64", "internal/bytealg.MakeNoZero"], unfollowed := true, recurses := true, apart := false }
def LogRawSaid : Prop := logRawRow.holds Try.pinned (OpenSpec.ofChange logRawSpec)

/-- ITS FALSE NEIGHBOUR: 'it returns false'. Refute it at one input. -/
def logRawWrong : ChangeSpec := { name := "logRaw", fn := fun _ => fun
  | [d1, d2, d3, d4] => { results := [.lit (.bool false)], args := [d1, d2, d3, d4] }
  | _ => none }
def LogRawWrongFalsely : Prop := logRawRow.holds Try.pinned (OpenSpec.ofChange logRawWrong)

/-- 'introitlaw25.LogBack': WHATEVER THE INPUT: true; the input reads as it did. -/
def logBackSpec : ChangeSpec := { name := "logBack", fn := fun _ => fun
  | [d1, d2] => { results := [.lit (.bool true)], args := [d1, d2] }
  | _ => none }
def logBackRow : OpenClaim := { program := "ytnfglcfjjemjmaa", sum := "49ff1b568b5f6424d44aeaf1de1654633a9d9630c2d9785c5f66cc6babfbd08f", func := "introit/introitlaw25.LogBack", spec := "logBack", inPlace := ["math.sqrt", "math.Float64bits", "math.Float64frombits", "math/bits.Add64", "internal/bytealg.MakeNoZero"], unfollowed := true, recurses := true, apart := false }
def LogBackSaid : Prop := logBackRow.holds Try.pinned (OpenSpec.ofChange logBackSpec)

/-- ITS FALSE NEIGHBOUR: 'it returns false'. Refute it at one input. -/
def logBackWrong : ChangeSpec := { name := "logBack", fn := fun _ => fun
  | [d1, d2] => { results := [.lit (.bool false)], args := [d1, d2] }
  | _ => none }
def LogBackWrongFalsely : Prop := logBackRow.holds Try.pinned (OpenSpec.ofChange logBackWrong)

/-- 'introitlaw25.LogKnown': WHATEVER THE INPUT: true; the input reads as it did. -/
def logKnownSpec : ChangeSpec := { name := "logKnown", fn := fun _ => fun
  | [] => { results := [.lit (.bool true)], args := [] }
  | _ => none }
def logKnownRow : OpenClaim := { program := "ytnfglcfjjemjmaa", sum := "49ff1b568b5f6424d44aeaf1de1654633a9d9630c2d9785c5f66cc6babfbd08f", func := "introit/introitlaw25.LogKnown", spec := "logKnown", inPlace := ["math.sqrt", "math.Float64bits", "math.Float64frombits", "math/bits.Add64", "internal/bytealg.MakeNoZero"], unfollowed := true, recurses := true, apart := false }
def LogKnownSaid : Prop := logKnownRow.holds Try.pinned (OpenSpec.ofChange logKnownSpec)

/-- ITS FALSE NEIGHBOUR: 'it returns false'. Refute it at one input. -/
def logKnownWrong : ChangeSpec := { name := "logKnown", fn := fun _ => fun
  | [] => { results := [.lit (.bool false)], args := [] }
  | _ => none }
def LogKnownWrongFalsely : Prop := logKnownRow.holds Try.pinned (OpenSpec.ofChange logKnownWrong)

/-- 'introitlaw25.LogFalls': WHATEVER THE INPUT: true; the input reads as it did. -/
def logFallsSpec : ChangeSpec := { name := "logFalls", fn := fun _ => fun
  | [d1, d2] => { results := [.lit (.bool true)], args := [d1, d2] }
  | _ => none }
def logFallsRow : OpenClaim := { program := "ytnfglcfjjemjmaa", sum := "49ff1b568b5f6424d44aeaf1de1654633a9d9630c2d9785c5f66cc6babfbd08f", func := "introit/introitlaw25.LogFalls", spec := "logFalls", inPlace := ["math.sqrt", "math.Float64bits", "math.Float64frombits", "math/bits.Add64", "internal/bytealg.MakeNoZero"], unfollowed := true, recurses := true, apart := false }
def LogFallsSaid : Prop := logFallsRow.holds Try.pinned (OpenSpec.ofChange logFallsSpec)

/-- ITS FALSE NEIGHBOUR: 'it returns false'. Refute it at one input. -/
def logFallsWrong : ChangeSpec := { name := "logFalls", fn := fun _ => fun
  | [d1, d2] => { results := [.lit (.bool false)], args := [d1, d2] }
  | _ => none }
def LogFallsWrongFalsely : Prop := logFallsRow.holds Try.pinned (OpenSpec.ofChange logFallsWrong)

/-- 'introitlaw25.LogPlays': WHATEVER THE INPUT: true; the input reads as it did. -/
def logPlaysSpec : ChangeSpec := { name := "logPlays", fn := fun _ => fun
  | [d1, d2, d3] => { results := [.lit (.bool true)], args := [d1, d2, d3] }
  | _ => none }
def logPlaysRow : OpenClaim := { program := "ytnfglcfjjemjmaa", sum := "49ff1b568b5f6424d44aeaf1de1654633a9d9630c2d9785c5f66cc6babfbd08f", func := "introit/introitlaw25.LogPlays", spec := "logPlays", inPlace := ["math.sqrt", "math.Float64bits", "math.Float64frombits", "math/bits.Add64", "internal/bytealg.MakeNoZero"], unfollowed := true, recurses := true, apart := false }
def LogPlaysSaid : Prop := logPlaysRow.holds Try.pinned (OpenSpec.ofChange logPlaysSpec)

/-- ITS FALSE NEIGHBOUR: 'it returns false'. Refute it at one input. -/
def logPlaysWrong : ChangeSpec := { name := "logPlays", fn := fun _ => fun
  | [d1, d2, d3] => { results := [.lit (.bool false)], args := [d1, d2, d3] }
  | _ => none }
def LogPlaysWrongFalsely : Prop := logPlaysRow.holds Try.pinned (OpenSpec.ofChange logPlaysWrong)

/- THE SECOND FORM. 'bulk': how many values and letters a reading holds, each counted each time it is reached (what is shared counts as often as it is met; a slice's spare places count too). A statement '..UptoSaid' is the law's where the arguments, and the package variables that the reading takes, are together of bulk at most 1048576: NARROWER than '..Said'. Prove '..Said' where nothing that the law and all that it calls make is longer than what came in: it says more and counts as full. Else prove '..UptoSaid'. A law counts once. -/
mutual
def uptoBulk {H : Type} : DataW H → Nat
  | .lit (.string bytes) => bytes.length + 1
  | .lit _ => 1
  | .nil => 1
  | .ptr d => uptoBulk d + 1
  | .slice elems spare => uptoBulkAll elems + uptoBulkAll spare + 1
  | .agg parts => uptoBulkAll parts + 1
  | .iface _ d => uptoBulk d + 1
  | .map entries => uptoBulkEntries entries + 1
  | .held _ => 1
def uptoBulkAll {H : Type} : List (DataW H) → Nat
  | [] => 0
  | d :: r => uptoBulk d + uptoBulkAll r
def uptoBulkEntries {H : Type} : List (Lit × DataW H) → Nat
  | [] => 0
  | x :: r => uptoBulkEntry x + uptoBulkEntries r
def uptoBulkEntry {H : Type} : Lit × DataW H → Nat
  | (.string bytes, d) => bytes.length + uptoBulk d + 1
  | (_, d) => uptoBulk d + 1
 end
def uptoSmall : (H : Type) → List (DataW H) → Bool := fun _ ds => decide (uptoBulkAll ds ≤ 1048576)
def OpenSpec.upto (s : _root_.Go.ChangeSpec) : _root_.Go.OpenSpec := { _root_.Go.OpenSpec.ofChange s with cond := some uptoSmall }

/-- 'introitlaw24.DiskPrefix', WHERE WHAT IT READS IS OF BULK AT MOST 1048576: true; the input reads as it did. -/
def diskPrefixUptoRow : OpenClaim := { program := "ytnfglcfjjemjmaa", sum := "49ff1b568b5f6424d44aeaf1de1654633a9d9630c2d9785c5f66cc6babfbd08f", func := "introit/introitlaw24.DiskPrefix", spec := "diskPrefix", unfollowed := true, recurses := true, apart := false, narrowed := true }
def DiskPrefixUptoSaid : Prop := diskPrefixUptoRow.holds Try.pinned (OpenSpec.upto diskPrefixSpec)

/-- 'introitlaw24.DiskFuses', WHERE WHAT IT READS IS OF BULK AT MOST 1048576: true; the input reads as it did. -/
def diskFusesUptoRow : OpenClaim := { program := "ytnfglcfjjemjmaa", sum := "49ff1b568b5f6424d44aeaf1de1654633a9d9630c2d9785c5f66cc6babfbd08f", func := "introit/introitlaw24.DiskFuses", spec := "diskFuses", unfollowed := true, recurses := true, apart := false, narrowed := true }
def DiskFusesUptoSaid : Prop := diskFusesUptoRow.holds Try.pinned (OpenSpec.upto diskFusesSpec)

/-- 'introitlaw24.DiskKnown', WHERE WHAT IT READS IS OF BULK AT MOST 1048576: true; the input reads as it did. -/
def diskKnownUptoRow : OpenClaim := { program := "ytnfglcfjjemjmaa", sum := "49ff1b568b5f6424d44aeaf1de1654633a9d9630c2d9785c5f66cc6babfbd08f", func := "introit/introitlaw24.DiskKnown", spec := "diskKnown", unfollowed := true, recurses := true, apart := false, narrowed := true }
def DiskKnownUptoSaid : Prop := diskKnownUptoRow.holds Try.pinned (OpenSpec.upto diskKnownSpec)

/-- 'introitlaw24.DiskPlays', WHERE WHAT IT READS IS OF BULK AT MOST 1048576: true; the input reads as it did. -/
def diskPlaysUptoRow : OpenClaim := { program := "ytnfglcfjjemjmaa", sum := "49ff1b568b5f6424d44aeaf1de1654633a9d9630c2d9785c5f66cc6babfbd08f", func := "introit/introitlaw24.DiskPlays", spec := "diskPlays", unfollowed := true, recurses := true, apart := false, narrowed := true }
def DiskPlaysUptoSaid : Prop := diskPlaysUptoRow.holds Try.pinned (OpenSpec.upto diskPlaysSpec)

/-- 'introitlaw25.LogRaw', WHERE WHAT IT READS IS OF BULK AT MOST 1048576: true; the input reads as it did. -/
def logRawUptoRow : OpenClaim := { program := "ytnfglcfjjemjmaa", sum := "49ff1b568b5f6424d44aeaf1de1654633a9d9630c2d9785c5f66cc6babfbd08f", func := "introit/introitlaw25.LogRaw", spec := "logRaw", inPlace := ["math.sqrt", "math.Float64bits", "math.Float64frombits", "math/bits.Add64", "internal/bytealg.MakeNoZero"], unfollowed := true, recurses := true, apart := false, narrowed := true }
def LogRawUptoSaid : Prop := logRawUptoRow.holds Try.pinned (OpenSpec.upto logRawSpec)

/-- 'introitlaw25.LogBack', WHERE WHAT IT READS IS OF BULK AT MOST 1048576: true; the input reads as it did. -/
def logBackUptoRow : OpenClaim := { program := "ytnfglcfjjemjmaa", sum := "49ff1b568b5f6424d44aeaf1de1654633a9d9630c2d9785c5f66cc6babfbd08f", func := "introit/introitlaw25.LogBack", spec := "logBack", inPlace := ["math.sqrt", "math.Float64bits", "math.Float64frombits", "math/bits.Add64", "internal/bytealg.MakeNoZero"], unfollowed := true, recurses := true, apart := false, narrowed := true }
def LogBackUptoSaid : Prop := logBackUptoRow.holds Try.pinned (OpenSpec.upto logBackSpec)

/-- 'introitlaw25.LogKnown', WHERE WHAT IT READS IS OF BULK AT MOST 1048576: true; the input reads as it did. -/
def logKnownUptoRow : OpenClaim := { program := "ytnfglcfjjemjmaa", sum := "49ff1b568b5f6424d44aeaf1de1654633a9d9630c2d9785c5f66cc6babfbd08f", func := "introit/introitlaw25.LogKnown", spec := "logKnown", inPlace := ["math.sqrt", "math.Float64bits", "math.Float64frombits", "math/bits.Add64", "internal/bytealg.MakeNoZero"], unfollowed := true, recurses := true, apart := false, narrowed := true }
def LogKnownUptoSaid : Prop := logKnownUptoRow.holds Try.pinned (OpenSpec.upto logKnownSpec)

/-- 'introitlaw25.LogFalls', WHERE WHAT IT READS IS OF BULK AT MOST 1048576: true; the input reads as it did. -/
def logFallsUptoRow : OpenClaim := { program := "ytnfglcfjjemjmaa", sum := "49ff1b568b5f6424d44aeaf1de1654633a9d9630c2d9785c5f66cc6babfbd08f", func := "introit/introitlaw25.LogFalls", spec := "logFalls", inPlace := ["math.sqrt", "math.Float64bits", "math.Float64frombits", "math/bits.Add64", "internal/bytealg.MakeNoZero"], unfollowed := true, recurses := true, apart := false, narrowed := true }
def LogFallsUptoSaid : Prop := logFallsUptoRow.holds Try.pinned (OpenSpec.upto logFallsSpec)

/-- 'introitlaw25.LogPlays', WHERE WHAT IT READS IS OF BULK AT MOST 1048576: true; the input reads as it did. -/
def logPlaysUptoRow : OpenClaim := { program := "ytnfglcfjjemjmaa", sum := "49ff1b568b5f6424d44aeaf1de1654633a9d9630c2d9785c5f66cc6babfbd08f", func := "introit/introitlaw25.LogPlays", spec := "logPlays", inPlace := ["math.sqrt", "math.Float64bits", "math.Float64frombits", "math/bits.Add64", "internal/bytealg.MakeNoZero"], unfollowed := true, recurses := true, apart := false, narrowed := true }
def LogPlaysUptoSaid : Prop := logPlaysUptoRow.holds Try.pinned (OpenSpec.upto logPlaysSpec)

end Rows
end Go.Proofs.Ytnfglcfjjemjmaa
