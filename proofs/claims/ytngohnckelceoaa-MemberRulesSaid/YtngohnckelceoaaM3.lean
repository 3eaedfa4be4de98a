/- introitref17.May tells Fs.mayB. No condition. -/
import Derived.Test.YtngohnckelceoaaM2
namespace Go.Proofs.Ytngohnckelceoaa
open Go.RowKit

theorem retB {a b : Bool} (h : a = b) : Ending.returned (.bool a) = .returned (.bool b) := by rw [h]

set_option maxRecDepth 100000 in
set_option maxHeartbeats 2000000 in
theorem ref_join (to : ByteArray) (self first : Bool) (sender target rule : ByteArray) (auth : Bool) (third level tl inv kick ban : Int) (w : World) (h : to.toList = [106, 111, 105, 110]) :
    Calls Try.prog 10 #[(Fs.mk to self first sender target rule auth third level tl inv kick ban).val] w fun e w' => e = .returned (.bool (Fs.mk to self first sender target rule auth third level tl inv kick ban).joinB) ∧ Below w.heap.size w w' := by
  go_enter Try.func10, Try.ntmps10
  go_wp2
  all_goals (go_returns; refine ⟨retB ?_, by go_grown⟩; first | (simp_all [Fs.joinB]; done) | (simp_all [Fs.joinB]; omega) | (unfold Fs.joinB; grind))

set_option maxRecDepth 100000 in
set_option maxHeartbeats 2000000 in
theorem ref_invite (to : ByteArray) (self first : Bool) (sender target rule : ByteArray) (auth : Bool) (third level tl inv kick ban : Int) (w : World) (h : to.toList = [105, 110, 118, 105, 116, 101]) :
    Calls Try.prog 10 #[(Fs.mk to self first sender target rule auth third level tl inv kick ban).val] w fun e w' => e = .returned (.bool (Fs.mk to self first sender target rule auth third level tl inv kick ban).inviteB) ∧ Below w.heap.size w w' := by
  go_enter Try.func10, Try.ntmps10
  go_wp2
  all_goals (go_returns; refine ⟨retB ?_, by go_grown⟩; first | (simp_all [Fs.inviteB]; done) | (simp_all [Fs.inviteB]; omega) | (unfold Fs.inviteB; grind))

set_option maxRecDepth 100000 in
set_option maxHeartbeats 2000000 in
theorem ref_leave (to : ByteArray) (self first : Bool) (sender target rule : ByteArray) (auth : Bool) (third level tl inv kick ban : Int) (w : World) (h : to.toList = [108, 101, 97, 118, 101]) :
    Calls Try.prog 10 #[(Fs.mk to self first sender target rule auth third level tl inv kick ban).val] w fun e w' => e = .returned (.bool (Fs.mk to self first sender target rule auth third level tl inv kick ban).leaveB) ∧ Below w.heap.size w w' := by
  go_enter Try.func10, Try.ntmps10
  go_wp2
  all_goals (go_returns; refine ⟨retB ?_, by go_grown⟩; first | (simp_all [Fs.leaveB]; done) | (simp_all [Fs.leaveB]; omega) | (unfold Fs.leaveB; grind))

set_option maxRecDepth 100000 in
set_option maxHeartbeats 2000000 in
theorem ref_ban (to : ByteArray) (self first : Bool) (sender target rule : ByteArray) (auth : Bool) (third level tl inv kick ban : Int) (w : World) (h : to.toList = [98, 97, 110]) :
    Calls Try.prog 10 #[(Fs.mk to self first sender target rule auth third level tl inv kick ban).val] w fun e w' => e = .returned (.bool (Fs.mk to self first sender target rule auth third level tl inv kick ban).banB) ∧ Below w.heap.size w w' := by
  go_enter Try.func10, Try.ntmps10
  go_wp2
  all_goals (go_returns; refine ⟨retB ?_, by go_grown⟩; first | (simp_all [Fs.banB]; done) | (simp_all [Fs.banB]; omega) | (unfold Fs.banB; grind))

set_option maxRecDepth 100000 in
set_option maxHeartbeats 2000000 in
theorem ref_knock (to : ByteArray) (self first : Bool) (sender target rule : ByteArray) (auth : Bool) (third level tl inv kick ban : Int) (w : World) (h : to.toList = [107, 110, 111, 99, 107]) :
    Calls Try.prog 10 #[(Fs.mk to self first sender target rule auth third level tl inv kick ban).val] w fun e w' => e = .returned (.bool (Fs.mk to self first sender target rule auth third level tl inv kick ban).knockB) ∧ Below w.heap.size w w' := by
  go_enter Try.func10, Try.ntmps10
  go_wp2
  all_goals (go_returns; refine ⟨retB ?_, by go_grown⟩; first | (simp_all [Fs.knockB]; done) | (simp_all [Fs.knockB]; omega) | (unfold Fs.knockB; grind))

set_option maxRecDepth 100000 in
set_option maxHeartbeats 2000000 in
theorem ref_none (to : ByteArray) (self first : Bool) (sender target rule : ByteArray) (auth : Bool) (third level tl inv kick ban : Int) (w : World) (h1 : (to.toList == wJoin) = false) (h2 : (to.toList == wInvite) = false) (h3 : (to.toList == wLeave) = false) (h4 : (to.toList == wBan) = false) (h5 : (to.toList == wKnock) = false) :
    Calls Try.prog 10 #[(Fs.mk to self first sender target rule auth third level tl inv kick ban).val] w fun e w' => e = .returned (.bool false) ∧ Below w.heap.size w w' := by
  go_enter Try.func10, Try.ntmps10
  go_wp2
  all_goals (go_returns; exact ⟨rfl, by go_grown⟩)

theorem ref_any (f : Fs) (w : World) :
    Calls Try.prog 10 #[f.val] w fun e w' => e = .returned (.bool f.mayB) ∧ Below w.heap.size w w' := by
  obtain ⟨to, self, first, sender, target, rule, auth, third, level, tl, inv, kick, ban⟩ := f
  by_cases h1 : to.toList = wJoin
  · exact (ref_join to self first sender target rule auth third level tl inv kick ban w h1).mono fun e w' ⟨he, hb⟩ => ⟨by rw [he]; simp [Fs.mayB, h1], hb⟩
  by_cases h2 : to.toList = wInvite
  · exact (ref_invite to self first sender target rule auth third level tl inv kick ban w h2).mono fun e w' ⟨he, hb⟩ => ⟨by rw [he]; simp [Fs.mayB, h2], hb⟩
  by_cases h3 : to.toList = wLeave
  · exact (ref_leave to self first sender target rule auth third level tl inv kick ban w h3).mono fun e w' ⟨he, hb⟩ => ⟨by rw [he]; simp [Fs.mayB, h3], hb⟩
  by_cases h4 : to.toList = wBan
  · exact (ref_ban to self first sender target rule auth third level tl inv kick ban w h4).mono fun e w' ⟨he, hb⟩ => ⟨by rw [he]; simp [Fs.mayB, h4], hb⟩
  by_cases h5 : to.toList = wKnock
  · exact (ref_knock to self first sender target rule auth third level tl inv kick ban w h5).mono fun e w' ⟨he, hb⟩ => ⟨by rw [he]; simp [Fs.mayB, h5], hb⟩
  exact (ref_none to self first sender target rule auth third level tl inv kick ban w (by simpa using h1) (by simpa using h2) (by simpa using h3) (by simpa using h4) (by simpa using h5)).mono fun e w' ⟨he, hb⟩ => ⟨by rw [he]; simp [Fs.mayB, h1, h2, h3, h4, h5], hb⟩

end Go.Proofs.Ytngohnckelceoaa
