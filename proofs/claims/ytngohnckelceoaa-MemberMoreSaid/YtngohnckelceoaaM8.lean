/- MemberMore tells true. No condition. -/
import Derived.Test.YtngohnckelceoaaM4
namespace Go.Proofs.Ytngohnckelceoaa
open Go.RowKit

theorem more_mono (to : ByteArray) (self first : Bool) (sender target rule : ByteArray) (auth : Bool) (third level tl inv kick ban n : Int) (hn : 0 < n) (h : (Fs.mk to self first sender target rule auth third level tl inv kick ban).mayB = true) : (Fs.mk to self first sender target rule auth third (level + n) tl inv kick ban).mayB = true := by
  unfold Fs.mayB at h ⊢
  by_cases a1 : to.toList = wJoin
  · simp only [a1, if_true, Fs.joinB] at h ⊢; exact h
  by_cases a2 : to.toList = wInvite
  · simp only [a2, Fs.inviteB] at h ⊢
    simp at h ⊢
    by_cases b1 : third = 1
    · simp [b1] at h ⊢; exact h
    by_cases b2 : third = 2
    · simp [b2] at h
    simp [b1, b2] at h ⊢
    exact ⟨h.1, by omega⟩
  by_cases a3 : to.toList = wLeave
  · simp only [a3, Fs.leaveB] at h ⊢
    simp at h ⊢
    cases self
    · simp at h ⊢
      exact ⟨⟨⟨h.1.1.1, by omega⟩, by omega⟩, h.2.imp id (by omega)⟩
    · simpa using h
  by_cases a4 : to.toList = wBan
  · simp only [a4, Fs.banB] at h ⊢
    simp at h ⊢
    exact ⟨⟨h.1.1, by omega⟩, by omega⟩
  by_cases a5 : to.toList = wKnock
  · simp only [a5, Fs.knockB] at h ⊢; exact h
  simp [a1, a2, a3, a4, a5] at h

theorem more_none (to : ByteArray) (first : Bool) (sender target rule : ByteArray) (auth : Bool) (third inv kick ban : Int) (h : to.toList = wBan ∨ to.toList = wLeave) : (Fs.mk to false first sender target rule auth third 0 0 inv kick ban).mayB = false := by
  rcases h with h | h <;> simp [Fs.mayB, h, Fs.leaveB, Fs.banB]

set_option maxRecDepth 100000 in
set_option maxHeartbeats 2000000 in
theorem more_a_false (to : ByteArray) (self first : Bool) (sender target rule : ByteArray) (auth : Bool) (third level tl inv kick ban n : Int) (w : World) (h0 : 0 < n) (h1 : level ≤ 1000) (h2 : n ≤ 1000) (hw : IntKind.i64.wrap (level + n) = level + n) (hf : (Fs.mk to self first sender target rule auth third level tl inv kick ban).mayB = false) :
    Calls Try.prog 5 #[(Fs.mk to self first sender target rule auth third level tl inv kick ban).val, .int .i64 n] w fun e w' => e = .returned (.bool true) ∧ Below w.heap.size w w' := by
  have HF := Lib.hid hf
  have HH := Lib.hid (more_none to first sender target rule auth third inv kick ban)
  clear hf
  go_enter Try.func5, Try.ntmps5
  go_wp2_with fail
  refine (awake_any _).mono ?_
  rintro e w1 ⟨rfl, hb1⟩
  obtain ⟨hc, hd⟩ := bcell hb1
  have hz : w.heap.size < w1.heap.size := by have := hb1.size; simp at this; omega
  have hA : Below w.heap.size w w1 := ((Below.refl _ _).alloc (Nat.le_refl _) _).trans (hb1.mono (by simp))
  have HA := Lib.hid hA
  clear hb1 hA
  go_wp2_with fail
  refine (may_any (Fs.mk to self first sender target rule auth third level tl inv kick ban) _).mono ?_
  rintro e w2 ⟨rfl, hb2⟩
  rw [HF.out]
  obtain ⟨hc2, hd2⟩ := bcell hb2
  have hz2 : w1.heap.size < w2.heap.size := by have := hb2.size; simp at this; omega
  have hz3 : w.heap.size < w2.heap.size := by omega
  have hB : Below w.heap.size w w2 := (HA.out.alloc (by omega) _).trans (hb2.mono (by simp; omega))
  have HB := Lib.hid hB
  clear hb2 hB
  go_wp2_with fail
  · refine (may_any (Fs.mk to false first sender target rule auth third 0 0 inv kick ban) _).mono ?_
    rintro e w4 ⟨rfl, hb4⟩
    rw [HH.out (.inl (by assumption))]
    go_wp2
    go_returns
    exact ⟨rfl, (HB.out.alloc (by omega) _).trans (hb4.mono (by simp; omega))⟩
  · refine (may_any (Fs.mk to false first sender target rule auth third 0 0 inv kick ban) _).mono ?_
    rintro e w4 ⟨rfl, hb4⟩
    rw [HH.out (.inr (by assumption))]
    go_wp2
    go_returns
    exact ⟨rfl, (HB.out.alloc (by omega) _).trans (hb4.mono (by simp; omega))⟩
  · go_returns
    exact ⟨rfl, HB.out.alloc (by omega) _⟩

set_option maxRecDepth 100000 in
set_option maxHeartbeats 2000000 in
theorem more_a_true (to : ByteArray) (self first : Bool) (sender target rule : ByteArray) (auth : Bool) (third level tl inv kick ban n : Int) (w : World) (h0 : 0 < n) (h1 : level ≤ 1000) (h2 : n ≤ 1000) (hw : IntKind.i64.wrap (level + n) = level + n) (hf : (Fs.mk to self first sender target rule auth third level tl inv kick ban).mayB = true) (hg : (Fs.mk to self first sender target rule auth third (level + n) tl inv kick ban).mayB = true) :
    Calls Try.prog 5 #[(Fs.mk to self first sender target rule auth third level tl inv kick ban).val, .int .i64 n] w fun e w' => e = .returned (.bool true) ∧ Below w.heap.size w w' := by
  have HF := Lib.hid hf
  have HG := Lib.hid hg
  have HH := Lib.hid (more_none to first sender target rule auth third inv kick ban)
  clear hf hg
  go_enter Try.func5, Try.ntmps5
  go_wp2_with fail
  refine (awake_any _).mono ?_
  rintro e w1 ⟨rfl, hb1⟩
  obtain ⟨hc, hd⟩ := bcell hb1
  have hz : w.heap.size < w1.heap.size := by have := hb1.size; simp at this; omega
  have hA : Below w.heap.size w w1 := ((Below.refl _ _).alloc (Nat.le_refl _) _).trans (hb1.mono (by simp))
  have HA := Lib.hid hA
  clear hb1 hA
  go_wp2_with fail
  refine (may_any (Fs.mk to self first sender target rule auth third level tl inv kick ban) _).mono ?_
  rintro e w2 ⟨rfl, hb2⟩
  rw [HF.out]
  obtain ⟨hc2, hd2⟩ := bcell hb2
  have hz2 : w1.heap.size < w2.heap.size := by have := hb2.size; simp at this; omega
  have hz3 : w.heap.size < w2.heap.size := by omega
  have hB : Below w.heap.size w w2 := (HA.out.alloc (by omega) _).trans (hb2.mono (by simp; omega))
  have HB2 := Lib.hid hB
  clear hb2 hB
  go_wp2_with fail
  refine (may_any (Fs.mk to self first sender target rule auth third (level + n) tl inv kick ban) _).mono ?_
  rintro e w3 ⟨rfl, hb3⟩
  rw [HG.out]
  obtain ⟨hc3, hd3⟩ := bcell hb3
  have hz4 : w1.heap.size < w3.heap.size := by have := hb3.size; omega
  have hz5 : w.heap.size < w3.heap.size := by omega
  have hB : Below w.heap.size w w3 := HB2.out.trans (hb3.mono (by omega))
  have HB := Lib.hid hB
  clear hb3 hB
  go_wp2_with fail
  · refine (may_any (Fs.mk to false first sender target rule auth third 0 0 inv kick ban) _).mono ?_
    rintro e w4 ⟨rfl, hb4⟩
    rw [HH.out (.inl (by assumption))]
    go_wp2
    go_returns
    exact ⟨rfl, (HB.out.alloc (by omega) _).trans (hb4.mono (by simp; omega))⟩
  · refine (may_any (Fs.mk to false first sender target rule auth third 0 0 inv kick ban) _).mono ?_
    rintro e w4 ⟨rfl, hb4⟩
    rw [HH.out (.inr (by assumption))]
    go_wp2
    go_returns
    exact ⟨rfl, (HB.out.alloc (by omega) _).trans (hb4.mono (by simp; omega))⟩
  · go_returns
    exact ⟨rfl, HB.out.alloc (by omega) _⟩

set_option maxRecDepth 100000 in
set_option maxHeartbeats 2000000 in
theorem more_b_false (to : ByteArray) (self first : Bool) (sender target rule : ByteArray) (auth : Bool) (third level tl inv kick ban n : Int) (w : World) (h0 : ¬ 0 < n) (hf : (Fs.mk to self first sender target rule auth third level tl inv kick ban).mayB = false) :
    Calls Try.prog 5 #[(Fs.mk to self first sender target rule auth third level tl inv kick ban).val, .int .i64 n] w fun e w' => e = .returned (.bool true) ∧ Below w.heap.size w w' := by
  have HF := Lib.hid hf
  have HH := Lib.hid (more_none to first sender target rule auth third inv kick ban)
  clear hf
  go_enter Try.func5, Try.ntmps5
  go_wp2_with fail
  refine (awake_any _).mono ?_
  rintro e w1 ⟨rfl, hb1⟩
  obtain ⟨hc, hd⟩ := bcell hb1
  have hz : w.heap.size < w1.heap.size := by have := hb1.size; simp at this; omega
  have hA : Below w.heap.size w w1 := ((Below.refl _ _).alloc (Nat.le_refl _) _).trans (hb1.mono (by simp))
  have HA := Lib.hid hA
  clear hb1 hA
  go_wp2_with fail
  refine (may_any (Fs.mk to self first sender target rule auth third level tl inv kick ban) _).mono ?_
  rintro e w2 ⟨rfl, hb2⟩
  rw [HF.out]
  obtain ⟨hc2, hd2⟩ := bcell hb2
  have hz2 : w1.heap.size < w2.heap.size := by have := hb2.size; simp at this; omega
  have hz3 : w.heap.size < w2.heap.size := by omega
  have hB : Below w.heap.size w w2 := (HA.out.alloc (by omega) _).trans (hb2.mono (by simp; omega))
  have HB := Lib.hid hB
  clear hb2 hB
  go_wp2_with fail
  · refine (may_any (Fs.mk to false first sender target rule auth third 0 0 inv kick ban) _).mono ?_
    rintro e w4 ⟨rfl, hb4⟩
    rw [HH.out (.inl (by assumption))]
    go_wp2
    go_returns
    exact ⟨rfl, (HB.out.alloc (by omega) _).trans (hb4.mono (by simp; omega))⟩
  · refine (may_any (Fs.mk to false first sender target rule auth third 0 0 inv kick ban) _).mono ?_
    rintro e w4 ⟨rfl, hb4⟩
    rw [HH.out (.inr (by assumption))]
    go_wp2
    go_returns
    exact ⟨rfl, (HB.out.alloc (by omega) _).trans (hb4.mono (by simp; omega))⟩
  · go_returns
    exact ⟨rfl, HB.out.alloc (by omega) _⟩

set_option maxRecDepth 100000 in
set_option maxHeartbeats 2000000 in
theorem more_b_true (to : ByteArray) (self first : Bool) (sender target rule : ByteArray) (auth : Bool) (third level tl inv kick ban n : Int) (w : World) (h0 : ¬ 0 < n) (hf : (Fs.mk to self first sender target rule auth third level tl inv kick ban).mayB = true) (hg : (Fs.mk to self first sender target rule auth third level tl inv kick ban).mayB = true) :
    Calls Try.prog 5 #[(Fs.mk to self first sender target rule auth third level tl inv kick ban).val, .int .i64 n] w fun e w' => e = .returned (.bool true) ∧ Below w.heap.size w w' := by
  have HF := Lib.hid hf
  have HG := Lib.hid hg
  have HH := Lib.hid (more_none to first sender target rule auth third inv kick ban)
  clear hf hg
  go_enter Try.func5, Try.ntmps5
  go_wp2_with fail
  refine (awake_any _).mono ?_
  rintro e w1 ⟨rfl, hb1⟩
  obtain ⟨hc, hd⟩ := bcell hb1
  have hz : w.heap.size < w1.heap.size := by have := hb1.size; simp at this; omega
  have hA : Below w.heap.size w w1 := ((Below.refl _ _).alloc (Nat.le_refl _) _).trans (hb1.mono (by simp))
  have HA := Lib.hid hA
  clear hb1 hA
  go_wp2_with fail
  refine (may_any (Fs.mk to self first sender target rule auth third level tl inv kick ban) _).mono ?_
  rintro e w2 ⟨rfl, hb2⟩
  rw [HF.out]
  obtain ⟨hc2, hd2⟩ := bcell hb2
  have hz2 : w1.heap.size < w2.heap.size := by have := hb2.size; simp at this; omega
  have hz3 : w.heap.size < w2.heap.size := by omega
  have hB : Below w.heap.size w w2 := (HA.out.alloc (by omega) _).trans (hb2.mono (by simp; omega))
  have HB2 := Lib.hid hB
  clear hb2 hB
  go_wp2_with fail
  refine (may_any (Fs.mk to self first sender target rule auth third level tl inv kick ban) _).mono ?_
  rintro e w3 ⟨rfl, hb3⟩
  rw [HG.out]
  obtain ⟨hc3, hd3⟩ := bcell hb3
  have hz4 : w1.heap.size < w3.heap.size := by have := hb3.size; omega
  have hz5 : w.heap.size < w3.heap.size := by omega
  have hB : Below w.heap.size w w3 := HB2.out.trans (hb3.mono (by omega))
  have HB := Lib.hid hB
  clear hb3 hB
  go_wp2_with fail
  · refine (may_any (Fs.mk to false first sender target rule auth third 0 0 inv kick ban) _).mono ?_
    rintro e w4 ⟨rfl, hb4⟩
    rw [HH.out (.inl (by assumption))]
    go_wp2
    go_returns
    exact ⟨rfl, (HB.out.alloc (by omega) _).trans (hb4.mono (by simp; omega))⟩
  · refine (may_any (Fs.mk to false first sender target rule auth third 0 0 inv kick ban) _).mono ?_
    rintro e w4 ⟨rfl, hb4⟩
    rw [HH.out (.inr (by assumption))]
    go_wp2
    go_returns
    exact ⟨rfl, (HB.out.alloc (by omega) _).trans (hb4.mono (by simp; omega))⟩
  · go_returns
    exact ⟨rfl, HB.out.alloc (by omega) _⟩

set_option maxRecDepth 100000 in
set_option maxHeartbeats 2000000 in
theorem more_c_false (to : ByteArray) (self first : Bool) (sender target rule : ByteArray) (auth : Bool) (third level tl inv kick ban n : Int) (w : World) (h0 : 0 < n) (h1 : ¬ level ≤ 1000) (hf : (Fs.mk to self first sender target rule auth third level tl inv kick ban).mayB = false) :
    Calls Try.prog 5 #[(Fs.mk to self first sender target rule auth third level tl inv kick ban).val, .int .i64 n] w fun e w' => e = .returned (.bool true) ∧ Below w.heap.size w w' := by
  have HF := Lib.hid hf
  have HH := Lib.hid (more_none to first sender target rule auth third inv kick ban)
  clear hf
  go_enter Try.func5, Try.ntmps5
  go_wp2_with fail
  refine (awake_any _).mono ?_
  rintro e w1 ⟨rfl, hb1⟩
  obtain ⟨hc, hd⟩ := bcell hb1
  have hz : w.heap.size < w1.heap.size := by have := hb1.size; simp at this; omega
  have hA : Below w.heap.size w w1 := ((Below.refl _ _).alloc (Nat.le_refl _) _).trans (hb1.mono (by simp))
  have HA := Lib.hid hA
  clear hb1 hA
  go_wp2_with fail
  refine (may_any (Fs.mk to self first sender target rule auth third level tl inv kick ban) _).mono ?_
  rintro e w2 ⟨rfl, hb2⟩
  rw [HF.out]
  obtain ⟨hc2, hd2⟩ := bcell hb2
  have hz2 : w1.heap.size < w2.heap.size := by have := hb2.size; simp at this; omega
  have hz3 : w.heap.size < w2.heap.size := by omega
  have hB : Below w.heap.size w w2 := (HA.out.alloc (by omega) _).trans (hb2.mono (by simp; omega))
  have HB := Lib.hid hB
  clear hb2 hB
  go_wp2_with fail
  · refine (may_any (Fs.mk to false first sender target rule auth third 0 0 inv kick ban) _).mono ?_
    rintro e w4 ⟨rfl, hb4⟩
    rw [HH.out (.inl (by assumption))]
    go_wp2
    go_returns
    exact ⟨rfl, (HB.out.alloc (by omega) _).trans (hb4.mono (by simp; omega))⟩
  · refine (may_any (Fs.mk to false first sender target rule auth third 0 0 inv kick ban) _).mono ?_
    rintro e w4 ⟨rfl, hb4⟩
    rw [HH.out (.inr (by assumption))]
    go_wp2
    go_returns
    exact ⟨rfl, (HB.out.alloc (by omega) _).trans (hb4.mono (by simp; omega))⟩
  · go_returns
    exact ⟨rfl, HB.out.alloc (by omega) _⟩

set_option maxRecDepth 100000 in
set_option maxHeartbeats 2000000 in
theorem more_c_true (to : ByteArray) (self first : Bool) (sender target rule : ByteArray) (auth : Bool) (third level tl inv kick ban n : Int) (w : World) (h0 : 0 < n) (h1 : ¬ level ≤ 1000) (hf : (Fs.mk to self first sender target rule auth third level tl inv kick ban).mayB = true) (hg : (Fs.mk to self first sender target rule auth third level tl inv kick ban).mayB = true) :
    Calls Try.prog 5 #[(Fs.mk to self first sender target rule auth third level tl inv kick ban).val, .int .i64 n] w fun e w' => e = .returned (.bool true) ∧ Below w.heap.size w w' := by
  have HF := Lib.hid hf
  have HG := Lib.hid hg
  have HH := Lib.hid (more_none to first sender target rule auth third inv kick ban)
  clear hf hg
  go_enter Try.func5, Try.ntmps5
  go_wp2_with fail
  refine (awake_any _).mono ?_
  rintro e w1 ⟨rfl, hb1⟩
  obtain ⟨hc, hd⟩ := bcell hb1
  have hz : w.heap.size < w1.heap.size := by have := hb1.size; simp at this; omega
  have hA : Below w.heap.size w w1 := ((Below.refl _ _).alloc (Nat.le_refl _) _).trans (hb1.mono (by simp))
  have HA := Lib.hid hA
  clear hb1 hA
  go_wp2_with fail
  refine (may_any (Fs.mk to self first sender target rule auth third level tl inv kick ban) _).mono ?_
  rintro e w2 ⟨rfl, hb2⟩
  rw [HF.out]
  obtain ⟨hc2, hd2⟩ := bcell hb2
  have hz2 : w1.heap.size < w2.heap.size := by have := hb2.size; simp at this; omega
  have hz3 : w.heap.size < w2.heap.size := by omega
  have hB : Below w.heap.size w w2 := (HA.out.alloc (by omega) _).trans (hb2.mono (by simp; omega))
  have HB2 := Lib.hid hB
  clear hb2 hB
  go_wp2_with fail
  refine (may_any (Fs.mk to self first sender target rule auth third level tl inv kick ban) _).mono ?_
  rintro e w3 ⟨rfl, hb3⟩
  rw [HG.out]
  obtain ⟨hc3, hd3⟩ := bcell hb3
  have hz4 : w1.heap.size < w3.heap.size := by have := hb3.size; omega
  have hz5 : w.heap.size < w3.heap.size := by omega
  have hB : Below w.heap.size w w3 := HB2.out.trans (hb3.mono (by omega))
  have HB := Lib.hid hB
  clear hb3 hB
  go_wp2_with fail
  · refine (may_any (Fs.mk to false first sender target rule auth third 0 0 inv kick ban) _).mono ?_
    rintro e w4 ⟨rfl, hb4⟩
    rw [HH.out (.inl (by assumption))]
    go_wp2
    go_returns
    exact ⟨rfl, (HB.out.alloc (by omega) _).trans (hb4.mono (by simp; omega))⟩
  · refine (may_any (Fs.mk to false first sender target rule auth third 0 0 inv kick ban) _).mono ?_
    rintro e w4 ⟨rfl, hb4⟩
    rw [HH.out (.inr (by assumption))]
    go_wp2
    go_returns
    exact ⟨rfl, (HB.out.alloc (by omega) _).trans (hb4.mono (by simp; omega))⟩
  · go_returns
    exact ⟨rfl, HB.out.alloc (by omega) _⟩

set_option maxRecDepth 100000 in
set_option maxHeartbeats 2000000 in
theorem more_d_false (to : ByteArray) (self first : Bool) (sender target rule : ByteArray) (auth : Bool) (third level tl inv kick ban n : Int) (w : World) (h0 : 0 < n) (h1 : level ≤ 1000) (h2 : ¬ n ≤ 1000) (hf : (Fs.mk to self first sender target rule auth third level tl inv kick ban).mayB = false) :
    Calls Try.prog 5 #[(Fs.mk to self first sender target rule auth third level tl inv kick ban).val, .int .i64 n] w fun e w' => e = .returned (.bool true) ∧ Below w.heap.size w w' := by
  have HF := Lib.hid hf
  have HH := Lib.hid (more_none to first sender target rule auth third inv kick ban)
  clear hf
  go_enter Try.func5, Try.ntmps5
  go_wp2_with fail
  refine (awake_any _).mono ?_
  rintro e w1 ⟨rfl, hb1⟩
  obtain ⟨hc, hd⟩ := bcell hb1
  have hz : w.heap.size < w1.heap.size := by have := hb1.size; simp at this; omega
  have hA : Below w.heap.size w w1 := ((Below.refl _ _).alloc (Nat.le_refl _) _).trans (hb1.mono (by simp))
  have HA := Lib.hid hA
  clear hb1 hA
  go_wp2_with fail
  refine (may_any (Fs.mk to self first sender target rule auth third level tl inv kick ban) _).mono ?_
  rintro e w2 ⟨rfl, hb2⟩
  rw [HF.out]
  obtain ⟨hc2, hd2⟩ := bcell hb2
  have hz2 : w1.heap.size < w2.heap.size := by have := hb2.size; simp at this; omega
  have hz3 : w.heap.size < w2.heap.size := by omega
  have hB : Below w.heap.size w w2 := (HA.out.alloc (by omega) _).trans (hb2.mono (by simp; omega))
  have HB := Lib.hid hB
  clear hb2 hB
  go_wp2_with fail
  · refine (may_any (Fs.mk to false first sender target rule auth third 0 0 inv kick ban) _).mono ?_
    rintro e w4 ⟨rfl, hb4⟩
    rw [HH.out (.inl (by assumption))]
    go_wp2
    go_returns
    exact ⟨rfl, (HB.out.alloc (by omega) _).trans (hb4.mono (by simp; omega))⟩
  · refine (may_any (Fs.mk to false first sender target rule auth third 0 0 inv kick ban) _).mono ?_
    rintro e w4 ⟨rfl, hb4⟩
    rw [HH.out (.inr (by assumption))]
    go_wp2
    go_returns
    exact ⟨rfl, (HB.out.alloc (by omega) _).trans (hb4.mono (by simp; omega))⟩
  · go_returns
    exact ⟨rfl, HB.out.alloc (by omega) _⟩

set_option maxRecDepth 100000 in
set_option maxHeartbeats 2000000 in
theorem more_d_true (to : ByteArray) (self first : Bool) (sender target rule : ByteArray) (auth : Bool) (third level tl inv kick ban n : Int) (w : World) (h0 : 0 < n) (h1 : level ≤ 1000) (h2 : ¬ n ≤ 1000) (hf : (Fs.mk to self first sender target rule auth third level tl inv kick ban).mayB = true) (hg : (Fs.mk to self first sender target rule auth third level tl inv kick ban).mayB = true) :
    Calls Try.prog 5 #[(Fs.mk to self first sender target rule auth third level tl inv kick ban).val, .int .i64 n] w fun e w' => e = .returned (.bool true) ∧ Below w.heap.size w w' := by
  have HF := Lib.hid hf
  have HG := Lib.hid hg
  have HH := Lib.hid (more_none to first sender target rule auth third inv kick ban)
  clear hf hg
  go_enter Try.func5, Try.ntmps5
  go_wp2_with fail
  refine (awake_any _).mono ?_
  rintro e w1 ⟨rfl, hb1⟩
  obtain ⟨hc, hd⟩ := bcell hb1
  have hz : w.heap.size < w1.heap.size := by have := hb1.size; simp at this; omega
  have hA : Below w.heap.size w w1 := ((Below.refl _ _).alloc (Nat.le_refl _) _).trans (hb1.mono (by simp))
  have HA := Lib.hid hA
  clear hb1 hA
  go_wp2_with fail
  refine (may_any (Fs.mk to self first sender target rule auth third level tl inv kick ban) _).mono ?_
  rintro e w2 ⟨rfl, hb2⟩
  rw [HF.out]
  obtain ⟨hc2, hd2⟩ := bcell hb2
  have hz2 : w1.heap.size < w2.heap.size := by have := hb2.size; simp at this; omega
  have hz3 : w.heap.size < w2.heap.size := by omega
  have hB : Below w.heap.size w w2 := (HA.out.alloc (by omega) _).trans (hb2.mono (by simp; omega))
  have HB2 := Lib.hid hB
  clear hb2 hB
  go_wp2_with fail
  refine (may_any (Fs.mk to self first sender target rule auth third level tl inv kick ban) _).mono ?_
  rintro e w3 ⟨rfl, hb3⟩
  rw [HG.out]
  obtain ⟨hc3, hd3⟩ := bcell hb3
  have hz4 : w1.heap.size < w3.heap.size := by have := hb3.size; omega
  have hz5 : w.heap.size < w3.heap.size := by omega
  have hB : Below w.heap.size w w3 := HB2.out.trans (hb3.mono (by omega))
  have HB := Lib.hid hB
  clear hb3 hB
  go_wp2_with fail
  · refine (may_any (Fs.mk to false first sender target rule auth third 0 0 inv kick ban) _).mono ?_
    rintro e w4 ⟨rfl, hb4⟩
    rw [HH.out (.inl (by assumption))]
    go_wp2
    go_returns
    exact ⟨rfl, (HB.out.alloc (by omega) _).trans (hb4.mono (by simp; omega))⟩
  · refine (may_any (Fs.mk to false first sender target rule auth third 0 0 inv kick ban) _).mono ?_
    rintro e w4 ⟨rfl, hb4⟩
    rw [HH.out (.inr (by assumption))]
    go_wp2
    go_returns
    exact ⟨rfl, (HB.out.alloc (by omega) _).trans (hb4.mono (by simp; omega))⟩
  · go_returns
    exact ⟨rfl, HB.out.alloc (by omega) _⟩

theorem more_any (f : Fs) (n : Int) (w : World) (hl : (Lit.int .i64 f.level).wf = true) :
    Calls Try.prog 5 #[f.val, .int .i64 n] w fun e w' => e = .returned (.bool true) ∧ Below w.heap.size w w' := by
  obtain ⟨to, self, first, sender, target, rule, auth, third, level, tl, inv, kick, ban⟩ := f
  have hlo : -9223372036854775808 ≤ level := by
    have := hl
    have hm : IntKind.i64.min = -9223372036854775808 := by decide
    simp [Lit.wf] at this
    omega
  by_cases h0 : 0 < n
  · by_cases h1 : level ≤ 1000
    · by_cases h2 : n ≤ 1000
      · have hw : IntKind.i64.wrap (level + n) = level + n := IntWalk.i64_in _ (by omega)
        cases hf : (Fs.mk to self first sender target rule auth third level tl inv kick ban).mayB with
        | false => exact more_a_false to self first sender target rule auth third level tl inv kick ban n w h0 h1 h2 hw hf
        | true => exact more_a_true to self first sender target rule auth third level tl inv kick ban n w h0 h1 h2 hw hf (more_mono to self first sender target rule auth third level tl inv kick ban n h0 hf)
      · cases hf : (Fs.mk to self first sender target rule auth third level tl inv kick ban).mayB with
        | false => exact more_d_false to self first sender target rule auth third level tl inv kick ban n w h0 h1 h2 hf
        | true => exact more_d_true to self first sender target rule auth third level tl inv kick ban n w h0 h1 h2 hf hf
    · cases hf : (Fs.mk to self first sender target rule auth third level tl inv kick ban).mayB with
      | false => exact more_c_false to self first sender target rule auth third level tl inv kick ban n w h0 h1 hf
      | true => exact more_c_true to self first sender target rule auth third level tl inv kick ban n w h0 h1 hf hf
  · cases hf : (Fs.mk to self first sender target rule auth third level tl inv kick ban).mayB with
    | false => exact more_b_false to self first sender target rule auth third level tl inv kick ban n w h0 hf
    | true => exact more_b_true to self first sender target rule auth third level tl inv kick ban n w h0 hf hf

end Go.Proofs.Ytngohnckelceoaa
