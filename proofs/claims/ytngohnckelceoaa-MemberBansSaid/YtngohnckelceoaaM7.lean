/- MemberBans tells true. No condition. -/
import Derived.Test.YtngohnckelceoaaM4
namespace Go.Proofs.Ytngohnckelceoaa
open Go.RowKit

theorem bans_holds (to : ByteArray) (self first : Bool) (sender rule : ByteArray) (auth : Bool) (third level tl inv kick ban : Int)
    (hn : (Fs.mk to self first sender ⟨#[98, 97, 110]⟩ rule auth third level tl inv kick ban).mayB = true) (h1 : ¬ (first = true ∧ to.toList = wJoin)) :
    (to.toList = wLeave ∨ to.toList = wBan) ∧ (to.toList = wBan ∨ self = false) ∧ sender.toList = wJoin ∧ ban ≤ level ∧ tl < level ∧ (to.toList = wBan ∨ kick ≤ level) := by
  simp only [Fs.mayB, Fs.joinB, Fs.inviteB, Fs.leaveB, Fs.banB, Fs.knockB] at hn
  have ht : ((⟨#[98, 97, 110]⟩ : ByteArray).toList) = [98, 97, 110] := by rw [ByteArray.toList_eq]
  rw [ht] at hn
  by_cases a1 : to.toList = wJoin
  · simp [a1] at hn h1; simp [h1] at hn
  by_cases a2 : to.toList = wInvite
  · simp [a2] at hn
  by_cases a3 : to.toList = wLeave
  · simp only [a3] at hn ⊢
    cases self <;> simp at hn ⊢ <;> grind
  by_cases a4 : to.toList = wBan
  · simp only [a4] at hn ⊢
    simp at hn ⊢ ; grind
  by_cases a5 : to.toList = wKnock
  · simp [a5] at hn
  simp [a1, a2, a3, a4, a5] at hn

set_option maxRecDepth 100000 in
set_option maxHeartbeats 1000000 in
theorem bans_first (to : ByteArray) (self : Bool) (sender target rule : ByteArray) (auth : Bool) (third level tl inv kick ban : Int) (w : World) (h : to.toList = [106, 111, 105, 110]) :
    Calls Try.prog 6 #[(Fs.mk to self true sender target rule auth third level tl inv kick ban).val] w fun e w' => e = .returned (.bool true) ∧ Below w.heap.size w w' := by
  have hm : (Fs.mk to self true sender ⟨#[98, 97, 110]⟩ rule auth third level tl inv kick ban).mayB = true := by simp [Fs.mayB, h, Fs.joinB]
  have HM := Lib.hid hm
  clear hm
  go_enter Try.func6, Try.ntmps6
  go_wp2_with fail
  refine (awake_any _).mono ?_
  rintro e w1 ⟨rfl, hb1⟩
  obtain ⟨hc, hf⟩ := bcell hb1
  have hz : w.heap.size < w1.heap.size := by have := hb1.size; simp at this; omega
  have HB1 := Lib.hid hb1
  clear hb1
  go_wp2_with fail
  refine (may_any (Fs.mk to self true sender ⟨#[98, 97, 110]⟩ rule auth third level tl inv kick ban) _).mono ?_
  rintro e w2 ⟨rfl, hb2⟩
  rw [HM.out]
  go_wp2
  go_returns
  refine ⟨rfl, ?_⟩
  have := ((Below.refl w.heap.size w).alloc (Nat.le_refl _) _).trans (HB1.out.mono (by simp))
  exact (this.setCell (by simp) _).trans (hb2.mono (by simp; omega))

set_option maxRecDepth 100000 in
set_option maxHeartbeats 1000000 in
theorem bans_none (to : ByteArray) (self first : Bool) (sender target rule : ByteArray) (auth : Bool) (third level tl inv kick ban : Int) (w : World) (h : first = false ∨ (to.toList == [106, 111, 105, 110]) = false)
    (hm : (Fs.mk to self first sender ⟨#[98, 97, 110]⟩ rule auth third level tl inv kick ban).mayB = false) :
    Calls Try.prog 6 #[(Fs.mk to self first sender target rule auth third level tl inv kick ban).val] w fun e w' => e = .returned (.bool true) ∧ Below w.heap.size w w' := by
  have HM := Lib.hid hm
  clear hm
  have h : first = false ∨ (first = true ∧ (to.toList == [106, 111, 105, 110]) = false) := by
    cases first
    · exact .inl rfl
    · exact .inr ⟨rfl, by simpa using h⟩
  rcases h with rfl | ⟨rfl, h⟩
  all_goals
    go_enter Try.func6, Try.ntmps6
    go_wp2_with fail
    refine (awake_any _).mono ?_
    rintro e w1 ⟨rfl, hb1⟩
    obtain ⟨hc, hf⟩ := bcell hb1
    have hz : w.heap.size < w1.heap.size := by have := hb1.size; simp at this; omega
    have HB1 := Lib.hid hb1
    clear hb1
    go_wp2_with fail
    all_goals
      refine (may_any (Fs.mk to _ _ sender ⟨#[98, 97, 110]⟩ rule auth third level tl inv kick ban) _).mono ?_
      rintro e w2 ⟨rfl, hb2⟩
      rw [HM.out]
      go_wp2
      go_returns
      refine ⟨rfl, ?_⟩
      have := ((Below.refl w.heap.size w).alloc (Nat.le_refl _) _).trans (HB1.out.mono (by simp))
      exact (this.setCell (by simp) _).trans (hb2.mono (by simp; omega))

set_option maxRecDepth 100000 in
set_option maxHeartbeats 1000000 in
theorem bans_may (to : ByteArray) (self first : Bool) (sender target rule : ByteArray) (auth : Bool) (third level tl inv kick ban : Int) (w : World) (h : first = false ∨ (to.toList == [106, 111, 105, 110]) = false)
    (hm : (Fs.mk to self first sender ⟨#[98, 97, 110]⟩ rule auth third level tl inv kick ban).mayB = true)
    (hs : sender.toList = [106, 111, 105, 110]) (h1 : ban ≤ level) (h2 : tl < level) (h3 : to.toList = [98, 97, 110] ∨ (to.toList = [108, 101, 97, 118, 101] ∧ self = false ∧ kick ≤ level)) :
    Calls Try.prog 6 #[(Fs.mk to self first sender target rule auth third level tl inv kick ban).val] w fun e w' => e = .returned (.bool true) ∧ Below w.heap.size w w' := by
  have HM := Lib.hid hm
  clear hm
  have h : first = false ∨ (first = true ∧ (to.toList == [106, 111, 105, 110]) = false) := by
    cases first
    · exact .inl rfl
    · exact .inr ⟨rfl, by simpa using h⟩
  rcases h with rfl | ⟨rfl, h⟩ <;> rcases h3 with h3 | ⟨h3, rfl, h4⟩
  all_goals
    go_enter Try.func6, Try.ntmps6
    go_wp2_with fail
    refine (awake_any _).mono ?_
    rintro e w1 ⟨rfl, hb1⟩
    obtain ⟨hc, hf⟩ := bcell hb1
    have hz : w.heap.size < w1.heap.size := by have := hb1.size; simp at this; omega
    have HB1 := Lib.hid hb1
    clear hb1
    go_wp2_with fail
    all_goals
      refine (may_any (Fs.mk to _ _ sender ⟨#[98, 97, 110]⟩ rule auth third level tl inv kick ban) _).mono ?_
      rintro e w2 ⟨rfl, hb2⟩
      rw [HM.out]
      obtain ⟨hc2, hf2⟩ := bcell hb2
      have HB2 := Lib.hid hb2
      clear hb2
      go_wp2
      go_returns
      refine ⟨rfl, ?_⟩
      have := ((Below.refl w.heap.size w).alloc (Nat.le_refl _) _).trans (HB1.out.mono (by simp))
      exact (this.setCell (by simp) _).trans (HB2.out.mono (by simp; omega))

theorem bans_any (f : Fs) (w : World) : Calls Try.prog 6 #[f.val] w fun e w' => e = .returned (.bool true) ∧ Below w.heap.size w w' := by
  obtain ⟨to, self, first, sender, target, rule, auth, third, level, tl, inv, kick, ban⟩ := f
  by_cases h : first = true ∧ to.toList = wJoin
  · obtain ⟨rfl, h⟩ := h
    exact bans_first to self sender target rule auth third level tl inv kick ban w h
  · have h' : first = false ∨ (to.toList == [106, 111, 105, 110]) = false := by
      cases first
      · exact .inl rfl
      · exact .inr (by simpa using h)
    cases hm : (Fs.mk to self first sender ⟨#[98, 97, 110]⟩ rule auth third level tl inv kick ban).mayB with
    | false => exact bans_none to self first sender target rule auth third level tl inv kick ban w h' hm
    | true =>
      obtain ⟨a1, a2, a3, a4, a5, a6⟩ := bans_holds to self first sender rule auth third level tl inv kick ban hm h
      refine bans_may to self first sender target rule auth third level tl inv kick ban w h' hm a3 a4 a5 ?_
      by_cases hb : to.toList = wBan
      · exact .inl hb
      · exact .inr ⟨a1.resolve_right hb, a2.resolve_left hb, a6.resolve_left hb⟩

end Go.Proofs.Ytngohnckelceoaa
