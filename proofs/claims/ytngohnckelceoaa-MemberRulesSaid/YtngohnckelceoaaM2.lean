/- member.rule, member.May, introitref17.May: the Bool that Fs.mayB tells. No condition. -/
import Derived.Test.YtngohnckelceoaaM1
import Derived.Laws.EntriesVeiled
import Derived.Lib.Hide
namespace Go.Proofs.Ytngohnckelceoaa
open Go.RowKit

def ruleV (l : List UInt8) : Value :=
  if l = wJoin then .func (.func 12) #[] #[] else if l = wInvite then .func (.func 13) #[] #[] else if l = wLeave then .func (.func 14) #[] #[]
  else if l = wBan then .func (.func 15) #[] #[] else if l = wKnock then .func (.func 16) #[] #[] else .nilFunc

theorem ruleIx0 (w : World) : (Instr.index 33 (.agg #[.string ⟨#[106, 111, 105, 110]⟩, .func (.func 12) #[] #[], .string ⟨#[105, 110, 118, 105, 116, 101]⟩, .func (.func 13) #[] #[], .string ⟨#[108, 101, 97, 118, 101]⟩, .func (.func 14) #[] #[], .string ⟨#[98, 97, 110]⟩, .func (.func 15) #[] #[], .string ⟨#[107, 110, 111, 99, 107]⟩, .func (.func 16) #[] #[]]) (.int .i64 0)).run Try.prog w = .ok (.agg #[.string ⟨#[106, 111, 105, 110]⟩, .func (.func 12) #[] #[]]) w := by kernel_rfl
theorem ruleIx1 (w : World) : (Instr.index 33 (.agg #[.string ⟨#[106, 111, 105, 110]⟩, .func (.func 12) #[] #[], .string ⟨#[105, 110, 118, 105, 116, 101]⟩, .func (.func 13) #[] #[], .string ⟨#[108, 101, 97, 118, 101]⟩, .func (.func 14) #[] #[], .string ⟨#[98, 97, 110]⟩, .func (.func 15) #[] #[], .string ⟨#[107, 110, 111, 99, 107]⟩, .func (.func 16) #[] #[]]) (.int .i64 1)).run Try.prog w = .ok (.agg #[.string ⟨#[105, 110, 118, 105, 116, 101]⟩, .func (.func 13) #[] #[]]) w := by kernel_rfl
theorem ruleIx2 (w : World) : (Instr.index 33 (.agg #[.string ⟨#[106, 111, 105, 110]⟩, .func (.func 12) #[] #[], .string ⟨#[105, 110, 118, 105, 116, 101]⟩, .func (.func 13) #[] #[], .string ⟨#[108, 101, 97, 118, 101]⟩, .func (.func 14) #[] #[], .string ⟨#[98, 97, 110]⟩, .func (.func 15) #[] #[], .string ⟨#[107, 110, 111, 99, 107]⟩, .func (.func 16) #[] #[]]) (.int .i64 2)).run Try.prog w = .ok (.agg #[.string ⟨#[108, 101, 97, 118, 101]⟩, .func (.func 14) #[] #[]]) w := by kernel_rfl
theorem ruleIx3 (w : World) : (Instr.index 33 (.agg #[.string ⟨#[106, 111, 105, 110]⟩, .func (.func 12) #[] #[], .string ⟨#[105, 110, 118, 105, 116, 101]⟩, .func (.func 13) #[] #[], .string ⟨#[108, 101, 97, 118, 101]⟩, .func (.func 14) #[] #[], .string ⟨#[98, 97, 110]⟩, .func (.func 15) #[] #[], .string ⟨#[107, 110, 111, 99, 107]⟩, .func (.func 16) #[] #[]]) (.int .i64 3)).run Try.prog w = .ok (.agg #[.string ⟨#[98, 97, 110]⟩, .func (.func 15) #[] #[]]) w := by kernel_rfl
theorem ruleIx4 (w : World) : (Instr.index 33 (.agg #[.string ⟨#[106, 111, 105, 110]⟩, .func (.func 12) #[] #[], .string ⟨#[105, 110, 118, 105, 116, 101]⟩, .func (.func 13) #[] #[], .string ⟨#[108, 101, 97, 118, 101]⟩, .func (.func 14) #[] #[], .string ⟨#[98, 97, 110]⟩, .func (.func 15) #[] #[], .string ⟨#[107, 110, 111, 99, 107]⟩, .func (.func 16) #[] #[]]) (.int .i64 4)).run Try.prog w = .ok (.agg #[.string ⟨#[107, 110, 111, 99, 107]⟩, .func (.func 16) #[] #[]]) w := by kernel_rfl
set_option maxHeartbeats 2000000 in
theorem rule_any (to : ByteArray) (w : World) :
    Calls Try.prog 11 #[.string to] w fun e w' => e = .returned (ruleV to.toList) ∧ Below w.heap.size w w' := by
  have i0 := ruleIx0
  have i1 := ruleIx1
  have i2 := ruleIx2
  have i3 := ruleIx3
  have i4 := ruleIx4
  go_enter Try.func11, Try.ntmps11
  go_wp2
  go_rounds 6
  all_goals (clear i0 i1 i2 i3 i4; go_returns; refine ⟨?_, by go_grown⟩)
  all_goals (simp only [beq_iff_eq, beq_eq_false_iff_ne, ne_eq, @eq_comm _ _ to.toList] at *; simp_all [ruleV])

def Fs.mayB (f : Fs) : Bool :=
  if f.to.toList = wJoin then f.joinB else if f.to.toList = wInvite then f.inviteB else if f.to.toList = wLeave then f.leaveB
  else if f.to.toList = wBan then f.banB else if f.to.toList = wKnock then f.knockB else false

theorem bcell {W w1 : World} (hb : Below W.heap.size W w1) : (∀ b o, b < W.heap.size → w1.cell? ⟨b, o, none⟩ = W.cell? ⟨b, o, none⟩) ∧ (∀ b o, b < W.heap.size → w1.frozen? ⟨b, o, none⟩ = W.frozen? ⟨b, o, none⟩) :=
  ⟨fun b o h => hb.cell (p := ⟨b, o, none⟩) h, fun b o h => hb.frozen (p := ⟨b, o, none⟩) h⟩

set_option maxHeartbeats 1000000 in
theorem may_join (to : ByteArray) (self first : Bool) (sender target rule : ByteArray) (auth : Bool) (third level tl inv kick ban : Int) (w : World) (h : to.toList = wJoin) :
    Calls Try.prog 9 #[(Fs.mk to self first sender target rule auth third level tl inv kick ban).val] w fun e w' => e = .returned (.bool (Fs.mk to self first sender target rule auth third level tl inv kick ban).joinB) ∧ Below w.heap.size w w' := by
  have hn : ∀ w, (binOp .neq 29 (.func (.func 12) #[] #[]) .nilFunc).run Try.prog w = .ok (.bool true) w := fun _ => by kernel_rfl
  have hv : ruleV to.toList = .func (.func 12) #[] #[] := by rw [h]; simp [ruleV]
  have H := Lib.hid h
  have HV := Lib.hid hv
  clear h hv
  go_enter Try.func9, Try.ntmps9
  go_wp2_with fail
  refine (rule_any to _).mono ?_
  rintro e w1 ⟨rfl, hb⟩
  rw [HV.out]
  obtain ⟨hc, hf⟩ := bcell hb
  go_wp2_with fail
  refine (join_any (Fs.mk to self first sender target rule auth third level tl inv kick ban) _).mono ?_
  rintro e w2 ⟨rfl, hb2⟩
  go_wp2
  go_returns
  exact ⟨rfl, ((Below.refl _ _).alloc (Nat.le_refl _) _).trans ((hb.mono (by simp)).trans (hb2.mono (by have := hb.size; simp at this; omega)))⟩

set_option maxHeartbeats 1000000 in
theorem may_invite (to : ByteArray) (self first : Bool) (sender target rule : ByteArray) (auth : Bool) (third level tl inv kick ban : Int) (w : World) (h : to.toList = wInvite) :
    Calls Try.prog 9 #[(Fs.mk to self first sender target rule auth third level tl inv kick ban).val] w fun e w' => e = .returned (.bool (Fs.mk to self first sender target rule auth third level tl inv kick ban).inviteB) ∧ Below w.heap.size w w' := by
  have hn : ∀ w, (binOp .neq 29 (.func (.func 13) #[] #[]) .nilFunc).run Try.prog w = .ok (.bool true) w := fun _ => by kernel_rfl
  have hv : ruleV to.toList = .func (.func 13) #[] #[] := by rw [h]; simp [ruleV]
  have H := Lib.hid h
  have HV := Lib.hid hv
  clear h hv
  go_enter Try.func9, Try.ntmps9
  go_wp2_with fail
  refine (rule_any to _).mono ?_
  rintro e w1 ⟨rfl, hb⟩
  rw [HV.out]
  obtain ⟨hc, hf⟩ := bcell hb
  go_wp2_with fail
  refine (invite_any (Fs.mk to self first sender target rule auth third level tl inv kick ban) _).mono ?_
  rintro e w2 ⟨rfl, hb2⟩
  go_wp2
  go_returns
  exact ⟨rfl, ((Below.refl _ _).alloc (Nat.le_refl _) _).trans ((hb.mono (by simp)).trans (hb2.mono (by have := hb.size; simp at this; omega)))⟩

set_option maxHeartbeats 1000000 in
theorem may_leave (to : ByteArray) (self first : Bool) (sender target rule : ByteArray) (auth : Bool) (third level tl inv kick ban : Int) (w : World) (h : to.toList = wLeave) :
    Calls Try.prog 9 #[(Fs.mk to self first sender target rule auth third level tl inv kick ban).val] w fun e w' => e = .returned (.bool (Fs.mk to self first sender target rule auth third level tl inv kick ban).leaveB) ∧ Below w.heap.size w w' := by
  have hn : ∀ w, (binOp .neq 29 (.func (.func 14) #[] #[]) .nilFunc).run Try.prog w = .ok (.bool true) w := fun _ => by kernel_rfl
  have hv : ruleV to.toList = .func (.func 14) #[] #[] := by rw [h]; simp [ruleV]
  have H := Lib.hid h
  have HV := Lib.hid hv
  clear h hv
  go_enter Try.func9, Try.ntmps9
  go_wp2_with fail
  refine (rule_any to _).mono ?_
  rintro e w1 ⟨rfl, hb⟩
  rw [HV.out]
  obtain ⟨hc, hf⟩ := bcell hb
  go_wp2_with fail
  refine (leave_any (Fs.mk to self first sender target rule auth third level tl inv kick ban) _).mono ?_
  rintro e w2 ⟨rfl, hb2⟩
  go_wp2
  go_returns
  exact ⟨rfl, ((Below.refl _ _).alloc (Nat.le_refl _) _).trans ((hb.mono (by simp)).trans (hb2.mono (by have := hb.size; simp at this; omega)))⟩

set_option maxHeartbeats 1000000 in
theorem may_ban (to : ByteArray) (self first : Bool) (sender target rule : ByteArray) (auth : Bool) (third level tl inv kick ban : Int) (w : World) (h : to.toList = wBan) :
    Calls Try.prog 9 #[(Fs.mk to self first sender target rule auth third level tl inv kick ban).val] w fun e w' => e = .returned (.bool (Fs.mk to self first sender target rule auth third level tl inv kick ban).banB) ∧ Below w.heap.size w w' := by
  have hn : ∀ w, (binOp .neq 29 (.func (.func 15) #[] #[]) .nilFunc).run Try.prog w = .ok (.bool true) w := fun _ => by kernel_rfl
  have hv : ruleV to.toList = .func (.func 15) #[] #[] := by rw [h]; simp [ruleV]
  have H := Lib.hid h
  have HV := Lib.hid hv
  clear h hv
  go_enter Try.func9, Try.ntmps9
  go_wp2_with fail
  refine (rule_any to _).mono ?_
  rintro e w1 ⟨rfl, hb⟩
  rw [HV.out]
  obtain ⟨hc, hf⟩ := bcell hb
  go_wp2_with fail
  refine (ban_any (Fs.mk to self first sender target rule auth third level tl inv kick ban) _).mono ?_
  rintro e w2 ⟨rfl, hb2⟩
  go_wp2
  go_returns
  exact ⟨rfl, ((Below.refl _ _).alloc (Nat.le_refl _) _).trans ((hb.mono (by simp)).trans (hb2.mono (by have := hb.size; simp at this; omega)))⟩

set_option maxHeartbeats 1000000 in
theorem may_knock (to : ByteArray) (self first : Bool) (sender target rule : ByteArray) (auth : Bool) (third level tl inv kick ban : Int) (w : World) (h : to.toList = wKnock) :
    Calls Try.prog 9 #[(Fs.mk to self first sender target rule auth third level tl inv kick ban).val] w fun e w' => e = .returned (.bool (Fs.mk to self first sender target rule auth third level tl inv kick ban).knockB) ∧ Below w.heap.size w w' := by
  have hn : ∀ w, (binOp .neq 29 (.func (.func 16) #[] #[]) .nilFunc).run Try.prog w = .ok (.bool true) w := fun _ => by kernel_rfl
  have hv : ruleV to.toList = .func (.func 16) #[] #[] := by rw [h]; simp [ruleV]
  have H := Lib.hid h
  have HV := Lib.hid hv
  clear h hv
  go_enter Try.func9, Try.ntmps9
  go_wp2_with fail
  refine (rule_any to _).mono ?_
  rintro e w1 ⟨rfl, hb⟩
  rw [HV.out]
  obtain ⟨hc, hf⟩ := bcell hb
  go_wp2_with fail
  refine (knock_any (Fs.mk to self first sender target rule auth third level tl inv kick ban) _).mono ?_
  rintro e w2 ⟨rfl, hb2⟩
  go_wp2
  go_returns
  exact ⟨rfl, ((Below.refl _ _).alloc (Nat.le_refl _) _).trans ((hb.mono (by simp)).trans (hb2.mono (by have := hb.size; simp at this; omega)))⟩

set_option maxHeartbeats 1000000 in
theorem may_none (to : ByteArray) (self first : Bool) (sender target rule : ByteArray) (auth : Bool) (third level tl inv kick ban : Int) (w : World) (h : to.toList ≠ wJoin ∧ to.toList ≠ wInvite ∧ to.toList ≠ wLeave ∧ to.toList ≠ wBan ∧ to.toList ≠ wKnock) :
    Calls Try.prog 9 #[(Fs.mk to self first sender target rule auth third level tl inv kick ban).val] w fun e w' => e = .returned (.bool false) ∧ Below w.heap.size w w' := by
  have hn : ∀ w, (binOp .neq 29 .nilFunc .nilFunc).run Try.prog w = .ok (.bool false) w := fun _ => by kernel_rfl
  have hv : ruleV to.toList = .nilFunc := by simp [ruleV, h]
  have HV := Lib.hid hv
  clear h hv
  go_enter Try.func9, Try.ntmps9
  go_wp2_with fail
  refine (rule_any to _).mono ?_
  rintro e w1 ⟨rfl, hb⟩
  rw [HV.out]
  obtain ⟨hc, hf⟩ := bcell hb
  go_wp2_with fail
  go_returns
  exact ⟨rfl, ((Below.refl _ _).alloc (Nat.le_refl _) _).trans (hb.mono (by simp))⟩

theorem may_any (f : Fs) (w : World) :
    Calls Try.prog 9 #[f.val] w fun e w' => e = .returned (.bool f.mayB) ∧ Below w.heap.size w w' := by
  obtain ⟨to, self, first, sender, target, rule, auth, third, level, tl, inv, kick, ban⟩ := f
  by_cases h1 : to.toList = wJoin
  · exact (may_join to self first sender target rule auth third level tl inv kick ban w h1).mono fun e w' ⟨he, hb⟩ => ⟨by rw [he]; simp [Fs.mayB, h1], hb⟩
  by_cases h2 : to.toList = wInvite
  · exact (may_invite to self first sender target rule auth third level tl inv kick ban w h2).mono fun e w' ⟨he, hb⟩ => ⟨by rw [he]; simp [Fs.mayB, h2], hb⟩
  by_cases h3 : to.toList = wLeave
  · exact (may_leave to self first sender target rule auth third level tl inv kick ban w h3).mono fun e w' ⟨he, hb⟩ => ⟨by rw [he]; simp [Fs.mayB, h3], hb⟩
  by_cases h4 : to.toList = wBan
  · exact (may_ban to self first sender target rule auth third level tl inv kick ban w h4).mono fun e w' ⟨he, hb⟩ => ⟨by rw [he]; simp [Fs.mayB, h4], hb⟩
  by_cases h5 : to.toList = wKnock
  · exact (may_knock to self first sender target rule auth third level tl inv kick ban w h5).mono fun e w' ⟨he, hb⟩ => ⟨by rw [he]; simp [Fs.mayB, h5], hb⟩
  exact (may_none to self first sender target rule auth third level tl inv kick ban w ⟨h1, h2, h3, h4, h5⟩).mono fun e w' ⟨he, hb⟩ => ⟨by rw [he]; simp [Fs.mayB, h1, h2, h3, h4, h5], hb⟩

end Go.Proofs.Ytngohnckelceoaa
