/- The walks of the five tables of package member: each tells the Bool that its spec here tells. No condition. -/
import Derived.Test.YtngohnckelceoaaRows
import Derived.WalkKit
import Derived.WalkSpells
import Derived.WalkLawsBesides
import Derived.Handy
namespace Go.Proofs.Ytngohnckelceoaa
open Go.RowKit

/-- api.Facts. -/
structure Fs where
  to : ByteArray
  self : Bool
  first : Bool
  sender : ByteArray
  target : ByteArray
  rule : ByteArray
  auth : Bool
  third : Int
  level : Int
  tl : Int
  inv : Int
  kick : Int
  ban : Int

abbrev Fs.val (f : Fs) : Value :=
  .agg #[.string f.to, .bool f.self, .bool f.first, .string f.sender, .string f.target, .string f.rule, .bool f.auth, .int .i64 f.third, .int .i64 f.level, .int .i64 f.tl, .int .i64 f.inv, .int .i64 f.kick, .int .i64 f.ban]

abbrev wJoin : List UInt8 := [106, 111, 105, 110]
abbrev wInvite : List UInt8 := [105, 110, 118, 105, 116, 101]
abbrev wLeave : List UInt8 := [108, 101, 97, 118, 101]
abbrev wBan : List UInt8 := [98, 97, 110]
abbrev wKnock : List UInt8 := [107, 110, 111, 99, 107]
abbrev wPublic : List UInt8 := [112, 117, 98, 108, 105, 99]
abbrev wRestricted : List UInt8 := [114, 101, 115, 116, 114, 105, 99, 116, 101, 100]
abbrev wKnockR : List UInt8 := [107, 110, 111, 99, 107, 95, 114, 101, 115, 116, 114, 105, 99, 116, 101, 100]

def Fs.joinB (f : Fs) : Bool :=
  f.first || (f.self && !(f.target.toList == wBan) &&
    (f.rule.toList == wPublic ||
      ((f.rule.toList == wInvite || f.rule.toList == wKnock) && (f.target.toList == wInvite || f.target.toList == wJoin)) ||
      ((f.rule.toList == wRestricted || f.rule.toList == wKnockR) && (f.target.toList == wInvite || f.target.toList == wJoin || f.auth))))
def Fs.inviteB (f : Fs) : Bool :=
  if f.third = 1 then !(f.target.toList == wBan) else if f.third = 2 then false
  else f.sender.toList == wJoin && !(f.target.toList == wJoin) && !(f.target.toList == wBan) && decide (f.inv ≤ f.level)
def Fs.leaveB (f : Fs) : Bool :=
  if f.self = true then (f.target.toList == wInvite || f.target.toList == wJoin || f.target.toList == wKnock)
  else f.sender.toList == wJoin && decide (f.kick ≤ f.level) && decide (f.tl < f.level) && (!(f.target.toList == wBan) || decide (f.ban ≤ f.level))
def Fs.banB (f : Fs) : Bool := f.sender.toList == wJoin && decide (f.ban ≤ f.level) && decide (f.tl < f.level)
def Fs.knockB (f : Fs) : Bool :=
  (f.rule.toList == wKnock || f.rule.toList == wKnockR) && f.self && !(f.target.toList == wBan) && !(f.target.toList == wInvite) && !(f.target.toList == wJoin)

set_option maxHeartbeats 1000000 in
theorem join_any (f : Fs) (w : World) :
    Calls Try.prog 12 #[f.val] w fun e w' => e = .returned (.bool f.joinB) ∧ Below w.heap.size w w' := by
  obtain ⟨to, self, first, sender, target, rule, auth, third, level, tl, inv, kick, ban⟩ := f
  go_enter Try.func12, Try.ntmps12
  go_wp2
  all_goals (go_returns; exact ⟨by first | (simp_all [Fs.joinB]; done) | (simp_all [Fs.joinB]; omega), by go_grown⟩)

set_option maxHeartbeats 1000000 in
theorem invite_any (f : Fs) (w : World) :
    Calls Try.prog 13 #[f.val] w fun e w' => e = .returned (.bool f.inviteB) ∧ Below w.heap.size w w' := by
  obtain ⟨to, self, first, sender, target, rule, auth, third, level, tl, inv, kick, ban⟩ := f
  go_enter Try.func13, Try.ntmps13
  go_wp2
  all_goals (go_returns; exact ⟨by first | (simp_all [Fs.inviteB]; done) | (simp_all [Fs.inviteB]; omega), by go_grown⟩)

set_option maxHeartbeats 1000000 in
theorem leave_any (f : Fs) (w : World) :
    Calls Try.prog 14 #[f.val] w fun e w' => e = .returned (.bool f.leaveB) ∧ Below w.heap.size w w' := by
  obtain ⟨to, self, first, sender, target, rule, auth, third, level, tl, inv, kick, ban⟩ := f
  go_enter Try.func14, Try.ntmps14
  go_wp2
  all_goals (go_returns; exact ⟨by first | (simp_all [Fs.leaveB]; done) | (simp_all [Fs.leaveB]; omega), by go_grown⟩)

set_option maxHeartbeats 1000000 in
theorem ban_any (f : Fs) (w : World) :
    Calls Try.prog 15 #[f.val] w fun e w' => e = .returned (.bool f.banB) ∧ Below w.heap.size w w' := by
  obtain ⟨to, self, first, sender, target, rule, auth, third, level, tl, inv, kick, ban⟩ := f
  go_enter Try.func15, Try.ntmps15
  go_wp2
  all_goals (go_returns; exact ⟨by first | (simp_all [Fs.banB]; done) | (simp_all [Fs.banB]; omega), by go_grown⟩)

set_option maxHeartbeats 1000000 in
theorem knock_any (f : Fs) (w : World) :
    Calls Try.prog 16 #[f.val] w fun e w' => e = .returned (.bool f.knockB) ∧ Below w.heap.size w w' := by
  obtain ⟨to, self, first, sender, target, rule, auth, third, level, tl, inv, kick, ban⟩ := f
  go_enter Try.func16, Try.ntmps16
  go_wp2
  all_goals (go_returns; exact ⟨by first | (simp_all [Fs.knockB]; done) | (simp_all [Fs.knockB]; omega), by go_grown⟩)

end Go.Proofs.Ytngohnckelceoaa
