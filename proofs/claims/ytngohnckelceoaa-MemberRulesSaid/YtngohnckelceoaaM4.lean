/- awake tells true. No condition. -/
import Derived.Test.YtngohnckelceoaaM3
namespace Go.Proofs.Ytngohnckelceoaa
open Go.RowKit

abbrev emp : ByteArray := ⟨#[]⟩
def Fs.joinG (t : ByteArray → List UInt8) (f : Fs) : Bool :=
  f.first || (f.self && !(t f.target == wBan) &&
    (t f.rule == wPublic ||
      ((t f.rule == wInvite || t f.rule == wKnock) && (t f.target == wInvite || t f.target == wJoin)) ||
      ((t f.rule == wRestricted || t f.rule == wKnockR) && (t f.target == wInvite || t f.target == wJoin || f.auth))))
def Fs.inviteG (t : ByteArray → List UInt8) (f : Fs) : Bool :=
  if f.third = 1 then !(t f.target == wBan) else if f.third = 2 then false
  else t f.sender == wJoin && !(t f.target == wJoin) && !(t f.target == wBan) && decide (f.inv ≤ f.level)
def Fs.leaveG (t : ByteArray → List UInt8) (f : Fs) : Bool :=
  if f.self = true then (t f.target == wInvite || t f.target == wJoin || t f.target == wKnock)
  else t f.sender == wJoin && decide (f.kick ≤ f.level) && decide (f.tl < f.level) && (!(t f.target == wBan) || decide (f.ban ≤ f.level))
def Fs.banG (t : ByteArray → List UInt8) (f : Fs) : Bool := t f.sender == wJoin && decide (f.ban ≤ f.level) && decide (f.tl < f.level)
def Fs.knockG (t : ByteArray → List UInt8) (f : Fs) : Bool :=
  (t f.rule == wKnock || t f.rule == wKnockR) && f.self && !(t f.target == wBan) && !(t f.target == wInvite) && !(t f.target == wJoin)

def Fs.mayG (t : ByteArray → List UInt8) (f : Fs) : Bool :=
  if t f.to = wJoin then f.joinG t else if t f.to = wInvite then f.inviteG t else if t f.to = wLeave then f.leaveG t
  else if t f.to = wBan then f.banG t else if t f.to = wKnock then f.knockG t else false


theorem Fs.mayB_data (f : Fs) : f.mayB = f.mayG fun s => s.data.toList := by
  have h : f.mayB = f.mayG ByteArray.toList := rfl
  rw [h, show ByteArray.toList = fun s => s.data.toList from funext ByteArray.toList_eq]

theorem may_is (f : Fs) (b : Bool) (w : World) (h : (f.mayG fun s => s.data.toList) = b) : Calls Try.prog 9 #[f.val] w fun e w' => e = .returned (.bool b) ∧ Below w.heap.size w w' := by
  rw [← h, ← Fs.mayB_data]; exact may_any f w

set_option maxRecDepth 100000 in
set_option maxHeartbeats 1000000 in
theorem awake_any (w : World) : Calls Try.prog 8 #[] w fun e w' => e = .returned (.bool true) ∧ Below w.heap.size w w' := by
  go_enter Try.func8, Try.ntmps8
  go_wp2_with fail
  refine (may_is (Fs.mk ⟨#[106, 111, 105, 110]⟩ true false emp emp ⟨#[112, 117, 98, 108, 105, 99]⟩ false 0 0 0 0 0 0) true _ (by decide)).mono ?_
  rintro e w1 ⟨rfl, hb1⟩
  go_wp2_with fail
  refine (may_is (Fs.mk ⟨#[106, 111, 105, 110]⟩ true false emp emp ⟨#[105, 110, 118, 105, 116, 101]⟩ false 0 0 0 0 0 0) false _ (by decide)).mono ?_
  rintro e w2 ⟨rfl, hb2⟩
  go_wp2_with fail
  refine (may_is (Fs.mk ⟨#[120]⟩ false false emp emp emp false 0 0 0 0 0 0) false _ (by decide)).mono ?_
  rintro e w3 ⟨rfl, hb3⟩
  go_wp2
  go_returns
  exact ⟨rfl, hb1.trans ((hb2.mono hb1.size).trans (hb3.mono (Nat.le_trans hb1.size hb2.size)))⟩

end Go.Proofs.Ytngohnckelceoaa
