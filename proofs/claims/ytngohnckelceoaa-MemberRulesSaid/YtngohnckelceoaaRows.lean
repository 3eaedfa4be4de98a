/-
  No cell of these rows narrows 'for every input' (looked for: loops, veiled, ifaces, maps, wideKeys, modest, calm, conditions, laid).
  DERIVED. THE GIVEN ROWS OF THIS SEAT. 5 by the template 'for every input the law returns true; each argument reads behind the call as it read before'; 0 by the template 'total and deterministic' (their statements: YtngohnckelceoaaTotals.lean).
  GIVEN WITH THE SEED: the statements are not yours to turn. If you find one false, say at which input.
  Laid BY PROGRAM, IN A SANDBOX (cutbox-rows.mjs): the forced cells as the released guide's own fill.sh prints them over the translation 1b7c5e521ed4d5a3… (all of the seat's roots in one cut). By AI agents, Wed Nov 11 2026. No macro, syntax, notation, axiom, sorry.
-/
import Derived.Test.YtngohnckelceoaaChecked
import GoSem.Claim
import GoSem.ClaimJoined
import GoSem.ClaimMapViews
import Derived.JoinedTies
import Derived.KernelRfl
namespace Go.Proofs.Ytngohnckelceoaa
/- THE CELL 'sum', in the pinned program and in every row, IS THE sha256 OF THE DUMP (.gsa) THAT YtngohnckelceoaaProg.lean LOADS. Nothing in Lean hashes anything: it is a label: what it is worth is what the hold of that sum in a sandbox is worth. -/
noncomputable def Try.pinned : Pinned := { name := "ytngohnckelceoaa", sum := "1b7c5e521ed4d5a3e018ab6d797e5f641d04b3e5576aaff746550e3ec33e7ca9", checked := Try.checked }
namespace Rows
def none {H : Type} : Left H := { results := [], args := [] }

/-- 'introitlaw20.MemberKnown': WHATEVER THE INPUT: true; the input reads as it did. -/
def memberKnownSpec : ChangeSpec := { name := "memberKnown", fn := fun _ => fun
  | [] => { results := [.lit (.bool true)], args := [] }
  | _ => none }
def memberKnownRow : OpenClaim := { program := "ytngohnckelceoaa", sum := "1b7c5e521ed4d5a3e018ab6d797e5f641d04b3e5576aaff746550e3ec33e7ca9", func := "introit/introitlaw20.MemberKnown", spec := "memberKnown", unfollowed := true, recurses := true, apart := false }
def MemberKnownSaid : Prop := memberKnownRow.holds Try.pinned (OpenSpec.ofChange memberKnownSpec)

/-- ITS FALSE NEIGHBOUR: 'it returns false'. Refute it at one input. -/
def memberKnownWrong : ChangeSpec := { name := "memberKnown", fn := fun _ => fun
  | [] => { results := [.lit (.bool false)], args := [] }
  | _ => none }
def MemberKnownWrongFalsely : Prop := memberKnownRow.holds Try.pinned (OpenSpec.ofChange memberKnownWrong)

/-- 'introitlaw20.MemberSays': WHATEVER THE INPUT: true; the input reads as it did. -/
def memberSaysSpec : ChangeSpec := { name := "memberSays", fn := fun _ => fun
  | [d] => { results := [.lit (.bool true)], args := [d] }
  | _ => none }
def memberSaysRow : OpenClaim := { program := "ytngohnckelceoaa", sum := "1b7c5e521ed4d5a3e018ab6d797e5f641d04b3e5576aaff746550e3ec33e7ca9", func := "introit/introitlaw20.MemberSays", spec := "memberSays", unfollowed := true, recurses := true, apart := false }
def MemberSaysSaid : Prop := memberSaysRow.holds Try.pinned (OpenSpec.ofChange memberSaysSpec)

/-- ITS FALSE NEIGHBOUR: 'it returns false'. Refute it at one input. -/
def memberSaysWrong : ChangeSpec := { name := "memberSays", fn := fun _ => fun
  | [d] => { results := [.lit (.bool false)], args := [d] }
  | _ => none }
def MemberSaysWrongFalsely : Prop := memberSaysRow.holds Try.pinned (OpenSpec.ofChange memberSaysWrong)

/-- 'introitlaw20.MemberMore': WHATEVER THE INPUT: true; the input reads as it did. -/
def memberMoreSpec : ChangeSpec := { name := "memberMore", fn := fun _ => fun
  | [d1, d2] => { results := [.lit (.bool true)], args := [d1, d2] }
  | _ => none }
def memberMoreRow : OpenClaim := { program := "ytngohnckelceoaa", sum := "1b7c5e521ed4d5a3e018ab6d797e5f641d04b3e5576aaff746550e3ec33e7ca9", func := "introit/introitlaw20.MemberMore", spec := "memberMore", unfollowed := true, recurses := true, apart := false }
def MemberMoreSaid : Prop := memberMoreRow.holds Try.pinned (OpenSpec.ofChange memberMoreSpec)

/-- ITS FALSE NEIGHBOUR: 'it returns false'. Refute it at one input. -/
def memberMoreWrong : ChangeSpec := { name := "memberMore", fn := fun _ => fun
  | [d1, d2] => { results := [.lit (.bool false)], args := [d1, d2] }
  | _ => none }
def MemberMoreWrongFalsely : Prop := memberMoreRow.holds Try.pinned (OpenSpec.ofChange memberMoreWrong)

/-- 'introitlaw20.MemberBans': WHATEVER THE INPUT: true; the input reads as it did. -/
def memberBansSpec : ChangeSpec := { name := "memberBans", fn := fun _ => fun
  | [d] => { results := [.lit (.bool true)], args := [d] }
  | _ => none }
def memberBansRow : OpenClaim := { program := "ytngohnckelceoaa", sum := "1b7c5e521ed4d5a3e018ab6d797e5f641d04b3e5576aaff746550e3ec33e7ca9", func := "introit/introitlaw20.MemberBans", spec := "memberBans", unfollowed := true, recurses := true, apart := false }
def MemberBansSaid : Prop := memberBansRow.holds Try.pinned (OpenSpec.ofChange memberBansSpec)

/-- ITS FALSE NEIGHBOUR: 'it returns false'. Refute it at one input. -/
def memberBansWrong : ChangeSpec := { name := "memberBans", fn := fun _ => fun
  | [d] => { results := [.lit (.bool false)], args := [d] }
  | _ => none }
def MemberBansWrongFalsely : Prop := memberBansRow.holds Try.pinned (OpenSpec.ofChange memberBansWrong)

/-- 'introitlaw20.MemberRules': WHATEVER THE INPUT: true; the input reads as it did. -/
def memberRulesSpec : ChangeSpec := { name := "memberRules", fn := fun _ => fun
  | [d1, d2] => { results := [.lit (.bool true)], args := [d1, d2] }
  | _ => none }
def memberRulesRow : OpenClaim := { program := "ytngohnckelceoaa", sum := "1b7c5e521ed4d5a3e018ab6d797e5f641d04b3e5576aaff746550e3ec33e7ca9", func := "introit/introitlaw20.MemberRules", spec := "memberRules", unfollowed := true, recurses := true, apart := false }
def MemberRulesSaid : Prop := memberRulesRow.holds Try.pinned (OpenSpec.ofChange memberRulesSpec)

/-- ITS FALSE NEIGHBOUR: 'it returns false'. Refute it at one input. -/
def memberRulesWrong : ChangeSpec := { name := "memberRules", fn := fun _ => fun
  | [d1, d2] => { results := [.lit (.bool false)], args := [d1, d2] }
  | _ => none }
def MemberRulesWrongFalsely : Prop := memberRulesRow.holds Try.pinned (OpenSpec.ofChange memberRulesWrong)

/- THE SECOND FORM. 'bulk': how many values and letters a reading holds, each counted each time it is reached (what is shared counts as often as it is met; a slice's spare places count too). A statement '..UptoSaid' is the law's where the arguments, and the package variables that the reading takes, are together of bulk at most 1048576: NARROWER than '..Said'. Prove '..Said' where nothing that the law and all that it calls make is longer than what came in: it says more and counts as full. Else prove '..UptoSaid'. A law counts once. -/
mutual
def uptoBulk {H : Type} : DataW H → Nat
  | .lit (.string bytes) => bytes.length + 1
  | .lit _ => 1
  | .nil => 1
  | .ptr d => uptoBulk d + 1
  | .slice elems spare => uptoBulkAll elems + uptoBulkAll spare + 1
  | .agg parts => uptoBulkAll parts + 1
  | .iface _ d => uptoBulk d + 1
  | .map entries => uptoBulkEntries entries + 1
  | .held _ => 1
def uptoBulkAll {H : Type} : List (DataW H) → Nat
  | [] => 0
  | d :: r => uptoBulk d + uptoBulkAll r
def uptoBulkEntries {H : Type} : List (Lit × DataW H) → Nat
  | [] => 0
  | x :: r => uptoBulkEntry x + uptoBulkEntries r
def uptoBulkEntry {H : Type} : Lit × DataW H → Nat
  | (.string bytes, d) => bytes.length + uptoBulk d + 1
  | (_, d) => uptoBulk d + 1
 end
def uptoSmall : (H : Type) → List (DataW H) → Bool := fun _ ds => decide (uptoBulkAll ds ≤ 1048576)
def OpenSpec.upto (s : _root_.Go.ChangeSpec) : _root_.Go.OpenSpec := { _root_.Go.OpenSpec.ofChange s with cond := some uptoSmall }

/-- 'introitlaw20.MemberKnown', WHERE WHAT IT READS IS OF BULK AT MOST 1048576: true; the input reads as it did. -/
def memberKnownUptoRow : OpenClaim := { program := "ytngohnckelceoaa", sum := "1b7c5e521ed4d5a3e018ab6d797e5f641d04b3e5576aaff746550e3ec33e7ca9", func := "introit/introitlaw20.MemberKnown", spec := "memberKnown", unfollowed := true, recurses := true, apart := false, narrowed := true }
def MemberKnownUptoSaid : Prop := memberKnownUptoRow.holds Try.pinned (OpenSpec.upto memberKnownSpec)

/-- 'introitlaw20.MemberSays', WHERE WHAT IT READS IS OF BULK AT MOST 1048576: true; the input reads as it did. -/
def memberSaysUptoRow : OpenClaim := { program := "ytngohnckelceoaa", sum := "1b7c5e521ed4d5a3e018ab6d797e5f641d04b3e5576aaff746550e3ec33e7ca9", func := "introit/introitlaw20.MemberSays", spec := "memberSays", unfollowed := true, recurses := true, apart := false, narrowed := true }
def MemberSaysUptoSaid : Prop := memberSaysUptoRow.holds Try.pinned (OpenSpec.upto memberSaysSpec)

/-- 'introitlaw20.MemberMore', WHERE WHAT IT READS IS OF BULK AT MOST 1048576: true; the input reads as it did. -/
def memberMoreUptoRow : OpenClaim := { program := "ytngohnckelceoaa", sum := "1b7c5e521ed4d5a3e018ab6d797e5f641d04b3e5576aaff746550e3ec33e7ca9", func := "introit/introitlaw20.MemberMore", spec := "memberMore", unfollowed := true, recurses := true, apart := false, narrowed := true }
def MemberMoreUptoSaid : Prop := memberMoreUptoRow.holds Try.pinned (OpenSpec.upto memberMoreSpec)

/-- 'introitlaw20.MemberBans', WHERE WHAT IT READS IS OF BULK AT MOST 1048576: true; the input reads as it did. -/
def memberBansUptoRow : OpenClaim := { program := "ytngohnckelceoaa", sum := "1b7c5e521ed4d5a3e018ab6d797e5f641d04b3e5576aaff746550e3ec33e7ca9", func := "introit/introitlaw20.MemberBans", spec := "memberBans", unfollowed := true, recurses := true, apart := false, narrowed := true }
def MemberBansUptoSaid : Prop := memberBansUptoRow.holds Try.pinned (OpenSpec.upto memberBansSpec)

/-- 'introitlaw20.MemberRules', WHERE WHAT IT READS IS OF BULK AT MOST 1048576: true; the input reads as it did. -/
def memberRulesUptoRow : OpenClaim := { program := "ytngohnckelceoaa", sum := "1b7c5e521ed4d5a3e018ab6d797e5f641d04b3e5576aaff746550e3ec33e7ca9", func := "introit/introitlaw20.MemberRules", spec := "memberRules", unfollowed := true, recurses := true, apart := false, narrowed := true }
def MemberRulesUptoSaid : Prop := memberRulesUptoRow.holds Try.pinned (OpenSpec.upto memberRulesSpec)

end Rows
end Go.Proofs.Ytngohnckelceoaa
