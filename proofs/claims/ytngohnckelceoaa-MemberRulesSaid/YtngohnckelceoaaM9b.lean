/- MemberRules tells true: one rule. No condition. -/
import Derived.Test.YtngohnckelceoaaM9
namespace Go.Proofs.Ytngohnckelceoaa
open Go.RowKit

set_option maxRecDepth 100000 in
set_option maxHeartbeats 4000000 in
theorem rules_invite_false (to : ByteArray) (self first : Bool) (sender target rule : ByteArray) (auth : Bool) (third level tl inv kick ban : Int) (gto : ByteArray) (gself gfirst : Bool) (gsender gtarget grule : ByteArray) (gauth : Bool) (gthird glevel gtl ginv gkick gban : Int) (w : World) (hr : rule.toList = [105, 110, 118, 105, 116, 101]) (hm : (Fs.mk ⟨#[106, 111, 105, 110]⟩ true false sender target rule auth third level tl inv kick ban).mayB = false) :
    Calls Try.prog 7 #[(Fs.mk to self first sender target rule auth third level tl inv kick ban).val, (Fs.mk gto gself gfirst gsender gtarget grule gauth gthird glevel gtl ginv gkick gban).val] w fun e w' => e = .returned (.bool true) ∧ Below w.heap.size w w' := by
  go_enter Try.func7, Try.ntmps7
  go_wp2_with fail
  refine (awake_any _).mono ?_
  rintro e w1 ⟨rfl, hb1⟩
  have r0 : Row w1 w.heap.size (#[.string to, .bool self, .bool first, .string sender, .string target, .string rule, .bool auth, .int .i64 third, .int .i64 level, .int .i64 tl, .int .i64 inv, .int .i64 kick, .int .i64 ban]) := ((Row.new w _ _).alloc _).below' hb1
  have r1 : Row w1 (w.heap.size + 1) (#[.string gto, .bool gself, .bool gfirst, .string gsender, .string gtarget, .string grule, .bool gauth, .int .i64 gthird, .int .i64 glevel, .int .i64 gtl, .int .i64 ginv, .int .i64 gkick, .int .i64 gban]) := by have := (Row.new (w.alloc (.cells (#[.string to, .bool self, .bool first, .string sender, .string target, .string rule, .bool auth, .int .i64 third, .int .i64 level, .int .i64 tl, .int .i64 inv, .int .i64 kick, .int .i64 ban]) 24)) (#[.string gto, .bool gself, .bool gfirst, .string gsender, .string gtarget, .string grule, .bool gauth, .int .i64 gthird, .int .i64 glevel, .int .i64 gtl, .int .i64 ginv, .int .i64 gkick, .int .i64 gban]) 24).below' hb1; simpa using this
  have hc0 := r0.cell
  have hf0 := r0.free
  have hc1 := r1.cell
  have hz : w.heap.size + 1 < w1.heap.size := r1.lt
  have hA : Below w.heap.size w w1 := (((Below.refl _ _).alloc (Nat.le_refl _) _).alloc (by simp) _).trans (hb1.mono (by simp; omega))
  have HA := Lib.hid hA
  have R0 := Lib.hid r0
  have R1 := Lib.hid r1
  clear hb1 hA r0 r1
  go_wp2_with fail
  have hcl : RC w (w.heap.size + 1) w1.heap.size (#[.string gto, .bool gself, .bool gfirst, .string gsender, .string gtarget, .string grule, .bool gauth, .int .i64 gthird, .int .i64 glevel, .int .i64 gtl, .int .i64 ginv, .int .i64 gkick, .int .i64 gban]) w.heap.size (#[.string ⟨#[106, 111, 105, 110]⟩, .bool true, .bool false, .string sender, .string target, .string rule, .bool auth, .int .i64 third, .int .i64 level, .int .i64 tl, .int .i64 inv, .int .i64 kick, .int .i64 ban]) target rule auth ((((w1.setCell ⟨w.heap.size, 0, none⟩ (.string ⟨#[106, 111, 105, 110]⟩)).setCell ⟨w.heap.size, 1, none⟩ (.bool true)).setCell ⟨w.heap.size, 2, none⟩ (.bool false)).alloc (.cells (#[.string ⟨#[106, 111, 105, 110]⟩, .bool true, .bool false, .string sender, .string target, .string rule, .bool auth, .int .i64 third, .int .i64 level, .int .i64 tl, .int .i64 inv, .int .i64 kick, .int .i64 ban]) 24)) := by
    have ha : ∀ (x : World) (o : Obj) (t : Nat), t = x.heap.size → (x.alloc o).heap[t]? = some o := fun x o t ht => by rw [ht]; exact (MapKept.heap_alloc x o).1
    refine ⟨((((HA.out.setCell (by simp) _).setCell (by simp) _).setCell (by simp) _).alloc (by simp; omega) _), (((R0.out.set 0 _).set 1 _).set 2 _).alloc _, (((R1.out.other (by simp) _).other (by simp) _).other (by simp) _).alloc _, sender, third, level, tl, inv, kick, ban, 24, ha _ _ _ (by simp)⟩
  have HCL := Lib.hid hcl
  clear hcl
  have n0 : w.heap.size ≤ w1.heap.size := by omega
  have n1 : w1.heap.size ≠ w.heap.size := by omega
  have n2 : w1.heap.size ≠ w.heap.size + 1 := by omega
  clear hc0 hf0 hc1
  refine wp_region_head (fun w' => RC w (w.heap.size + 1) w1.heap.size (#[.string gto, .bool gself, .bool gfirst, .string gsender, .string gtarget, .string grule, .bool gauth, .int .i64 gthird, .int .i64 glevel, .int .i64 gtl, .int .i64 ginv, .int .i64 gkick, .int .i64 gban]) w.heap.size (#[.string ⟨#[106, 111, 105, 110]⟩, .bool true, .bool false, .string sender, .string target, .string rule, .bool auth, .int .i64 third, .int .i64 level, .int .i64 tl, .int .i64 inv, .int .i64 kick, .int .i64 ban]) target rule auth w') (by kernel_rfl) (by kernel_rfl) HCL.out.drew ?_
  refine head_ex (by kernel_rfl) ?_
  apply Exists.intro
  refine ⟨fun w' hw' => ?_, ?_⟩
  · go_simp
    exact rfl
  simp only [Act.put, List.setIfInBounds_toArray, List.set_cons_zero, List.set_cons_succ]
  refine head_ex (by kernel_rfl) ?_
  apply Exists.intro
  refine ⟨fun w' hw' => ?_, ?_⟩
  · have hg := hw'.g.cell
    go_simp
    exact rfl
  simp only [Act.put, List.setIfInBounds_toArray, List.set_cons_zero, List.set_cons_succ]
  refine head_ex (by kernel_rfl) ?_
  apply Exists.intro
  refine ⟨fun w' hw' => ?_, ?_⟩
  · go_simp
    exact rfl
  simp only [Act.put, List.setIfInBounds_toArray, List.set_cons_zero, List.set_cons_succ]
  refine head_ex (by kernel_rfl) ?_
  apply Exists.intro
  refine ⟨fun w' hw' => ?_, ?_⟩
  · have hg := hw'.g.cell
    go_simp
    exact rfl
  simp only [Act.put, List.setIfInBounds_toArray, List.set_cons_zero, List.set_cons_succ]
  refine head_ex (by kernel_rfl) ?_
  apply Exists.intro
  refine ⟨fun w' hw' => ?_, ?_⟩
  · go_simp
    exact rfl
  simp only [Act.put, List.setIfInBounds_toArray, List.set_cons_zero, List.set_cons_succ]
  refine head_ex (by kernel_rfl) ?_
  apply Exists.intro
  refine ⟨fun w' hw' => ?_, ?_⟩
  · have hg := hw'.g.cell
    go_simp
    exact rfl
  simp only [Act.put, List.setIfInBounds_toArray, List.set_cons_zero, List.set_cons_succ]
  refine head_ex (by kernel_rfl) ?_
  apply Exists.intro
  refine ⟨fun w' hw' => ?_, ?_⟩
  · go_simp
    exact rfl
  simp only [Act.put, List.setIfInBounds_toArray, List.set_cons_zero, List.set_cons_succ]
  refine head_ex (by kernel_rfl) ?_
  apply Exists.intro
  refine ⟨fun w' hw' => ?_, ?_⟩
  · have hg := hw'.g.cell
    go_simp
    exact rfl
  simp only [Act.put, List.setIfInBounds_toArray, List.set_cons_zero, List.set_cons_succ]
  refine head_ex (by kernel_rfl) ?_
  apply Exists.intro
  refine ⟨fun w' hw' => ?_, ?_⟩
  · go_simp
    exact rfl
  simp only [Act.put, List.setIfInBounds_toArray, List.set_cons_zero, List.set_cons_succ]
  refine head_ex (by kernel_rfl) ?_
  apply Exists.intro
  refine ⟨fun w' hw' => ?_, ?_⟩
  · have hg := hw'.g.cell
    go_simp
    exact rfl
  simp only [Act.put, List.setIfInBounds_toArray, List.set_cons_zero, List.set_cons_succ]
  refine head_ex (by kernel_rfl) ?_
  apply Exists.intro
  refine ⟨fun w' hw' => ?_, ?_⟩
  · go_simp
    exact rfl
  simp only [Act.put, List.setIfInBounds_toArray, List.set_cons_zero, List.set_cons_succ]
  refine head_ex (by kernel_rfl) ?_
  apply Exists.intro
  refine ⟨fun w' hw' => ?_, ?_⟩
  · have hg := hw'.g.cell
    go_simp
    exact rfl
  simp only [Act.put, List.setIfInBounds_toArray, List.set_cons_zero, List.set_cons_succ]
  refine head_ex (by kernel_rfl) ?_
  apply Exists.intro
  refine ⟨fun w' hw' => ?_, ?_⟩
  · go_simp
    exact rfl
  simp only [Act.put, List.setIfInBounds_toArray, List.set_cons_zero, List.set_cons_succ]
  refine head_ex (by kernel_rfl) ?_
  apply Exists.intro
  refine ⟨fun w' hw' => ?_, ?_⟩
  · have hg := hw'.g.cell
    go_simp
    exact rfl
  simp only [Act.put, List.setIfInBounds_toArray, List.set_cons_zero, List.set_cons_succ]
  refine head_ex (by kernel_rfl) ?_
  apply Exists.intro
  refine ⟨fun w' hw' => ?_, ?_⟩
  · go_simp
    exact rfl
  simp only [Act.put, List.setIfInBounds_toArray, List.set_cons_zero, List.set_cons_succ]
  refine head_store (by kernel_rfl) (fun w' hw' => ⟨w'.setCell ⟨w1.heap.size, 3, none⟩ (.string gsender), ?_, ?_⟩) ?_
  · obtain ⟨s, a, b, c, d, e, f, hh⟩ := hw'.h
    have h1 := hh.cell
    have h2 := hh.free
    go_simp
  · exact hw'.str n0 n1 n2 _
  simp only [Act.put]
  refine head_ex (by kernel_rfl) ?_
  apply Exists.intro
  refine ⟨fun w' hw' => ?_, ?_⟩
  · go_simp
    exact rfl
  simp only [Act.put, List.setIfInBounds_toArray, List.set_cons_zero, List.set_cons_succ]
  refine head_store (by kernel_rfl) (fun w' hw' => ⟨w'.setCell ⟨w1.heap.size, 7, none⟩ (.int .i64 gthird), ?_, ?_⟩) ?_
  · obtain ⟨s, a, b, c, d, e, f, hh⟩ := hw'.h
    have h1 := hh.cell
    have h2 := hh.free
    go_simp
  · exact hw'.int7 n0 n1 n2 _
  simp only [Act.put]
  refine head_ex (by kernel_rfl) ?_
  apply Exists.intro
  refine ⟨fun w' hw' => ?_, ?_⟩
  · go_simp
    exact rfl
  simp only [Act.put, List.setIfInBounds_toArray, List.set_cons_zero, List.set_cons_succ]
  refine head_store (by kernel_rfl) (fun w' hw' => ⟨w'.setCell ⟨w1.heap.size, 8, none⟩ (.int .i64 glevel), ?_, ?_⟩) ?_
  · obtain ⟨s, a, b, c, d, e, f, hh⟩ := hw'.h
    have h1 := hh.cell
    have h2 := hh.free
    go_simp
  · exact hw'.int8 n0 n1 n2 _
  simp only [Act.put]
  refine head_ex (by kernel_rfl) ?_
  apply Exists.intro
  refine ⟨fun w' hw' => ?_, ?_⟩
  · go_simp
    exact rfl
  simp only [Act.put, List.setIfInBounds_toArray, List.set_cons_zero, List.set_cons_succ]
  refine head_store (by kernel_rfl) (fun w' hw' => ⟨w'.setCell ⟨w1.heap.size, 9, none⟩ (.int .i64 gtl), ?_, ?_⟩) ?_
  · obtain ⟨s, a, b, c, d, e, f, hh⟩ := hw'.h
    have h1 := hh.cell
    have h2 := hh.free
    go_simp
  · exact hw'.int9 n0 n1 n2 _
  simp only [Act.put]
  refine head_ex (by kernel_rfl) ?_
  apply Exists.intro
  refine ⟨fun w' hw' => ?_, ?_⟩
  · go_simp
    exact rfl
  simp only [Act.put, List.setIfInBounds_toArray, List.set_cons_zero, List.set_cons_succ]
  refine head_store (by kernel_rfl) (fun w' hw' => ⟨w'.setCell ⟨w1.heap.size, 10, none⟩ (.int .i64 ginv), ?_, ?_⟩) ?_
  · obtain ⟨s, a, b, c, d, e, f, hh⟩ := hw'.h
    have h1 := hh.cell
    have h2 := hh.free
    go_simp
  · exact hw'.int10 n0 n1 n2 _
  simp only [Act.put]
  refine head_ex (by kernel_rfl) ?_
  apply Exists.intro
  refine ⟨fun w' hw' => ?_, ?_⟩
  · go_simp
    exact rfl
  simp only [Act.put, List.setIfInBounds_toArray, List.set_cons_zero, List.set_cons_succ]
  refine head_store (by kernel_rfl) (fun w' hw' => ⟨w'.setCell ⟨w1.heap.size, 11, none⟩ (.int .i64 gkick), ?_, ?_⟩) ?_
  · obtain ⟨s, a, b, c, d, e, f, hh⟩ := hw'.h
    have h1 := hh.cell
    have h2 := hh.free
    go_simp
  · exact hw'.int11 n0 n1 n2 _
  simp only [Act.put]
  refine head_ex (by kernel_rfl) ?_
  apply Exists.intro
  refine ⟨fun w' hw' => ?_, ?_⟩
  · go_simp
    exact rfl
  simp only [Act.put, List.setIfInBounds_toArray, List.set_cons_zero, List.set_cons_succ]
  refine head_store (by kernel_rfl) (fun w' hw' => ⟨w'.setCell ⟨w1.heap.size, 12, none⟩ (.int .i64 gban), ?_, ?_⟩) ?_
  · obtain ⟨s, a, b, c, d, e, f, hh⟩ := hw'.h
    have h1 := hh.cell
    have h2 := hh.free
    go_simp
  · exact hw'.int12 n0 n1 n2 _
  simp only [Act.put]
  refine head_nil ?_
  intro w2 hw2
  clear HCL
  obtain ⟨hb2, rf, rg, s, a, b, c, d, e, f, rh⟩ := hw2
  have hcf := rf.cell
  have hff := rf.free
  have hz2 : w1.heap.size < w2.heap.size := rh.lt
  have hz3 : w.heap.size < w2.heap.size := by omega
  have HB2 := Lib.hid hb2
  have RF := Lib.hid rf
  have RH := Lib.hid rh
  clear hb2 rf rg rh n0 n1 n2 HA R0 R1
  obtain ⟨k1, k2, k3, k4⟩ := rules_holds (Fs.mk ⟨#[106, 111, 105, 110]⟩ true false sender target rule auth third level tl inv kick ban) (Fs.mk gto gself gfirst s gtarget grule gauth a b c d e f) rfl rfl rfl
  have K1 := Lib.hid k1
  have K2 := Lib.hid k2
  have K3 := Lib.hid k3
  have K4 := Lib.hid k4
  clear k1 k2 k3 k4
  have HM := Lib.hid hm
  clear hm
  go_wp2_with fail
  obtain ⟨w3, hw3⟩ : ∃ w3, w3 = (w2.alloc (.cells (#[.string ⟨#[106, 111, 105, 110]⟩, .bool true, .bool false, .string sender, .string target, .string ⟨#[112, 117, 98, 108, 105, 99]⟩, .bool auth, .int .i64 third, .int .i64 level, .int .i64 tl, .int .i64 inv, .int .i64 kick, .int .i64 ban]) 24)).alloc (.cells (#[.string ⟨#[106, 111, 105, 110]⟩, .bool true, .bool false, .string sender, .string ⟨#[105, 110, 118, 105, 116, 101]⟩, .string rule, .bool auth, .int .i64 third, .int .i64 level, .int .i64 tl, .int .i64 inv, .int .i64 kick, .int .i64 ban]) 24) := ⟨_, rfl⟩
  rw [← hw3]
  have q0 : Row w3 w.heap.size (#[.string ⟨#[106, 111, 105, 110]⟩, .bool true, .bool false, .string sender, .string target, .string rule, .bool auth, .int .i64 third, .int .i64 level, .int .i64 tl, .int .i64 inv, .int .i64 kick, .int .i64 ban]) := by rw [hw3]; exact (RF.out.alloc _).alloc _
  have q1 : Row w3 w1.heap.size (#[.string ⟨#[106, 111, 105, 110]⟩, .bool true, .bool false, .string s, .string target, .string rule, .bool auth, .int .i64 a, .int .i64 b, .int .i64 c, .int .i64 d, .int .i64 e, .int .i64 f]) := by rw [hw3]; exact (RH.out.alloc _).alloc _
  have q2 : Row w3 w2.heap.size (#[.string ⟨#[106, 111, 105, 110]⟩, .bool true, .bool false, .string sender, .string target, .string ⟨#[112, 117, 98, 108, 105, 99]⟩, .bool auth, .int .i64 third, .int .i64 level, .int .i64 tl, .int .i64 inv, .int .i64 kick, .int .i64 ban]) := by rw [hw3]; exact (Row.new _ _ _).alloc _
  have q3 : Row w3 (w2.heap.size + 1) (#[.string ⟨#[106, 111, 105, 110]⟩, .bool true, .bool false, .string sender, .string ⟨#[105, 110, 118, 105, 116, 101]⟩, .string rule, .bool auth, .int .i64 third, .int .i64 level, .int .i64 tl, .int .i64 inv, .int .i64 kick, .int .i64 ban]) := by rw [hw3]; have := Row.new (w2.alloc (.cells (#[.string ⟨#[106, 111, 105, 110]⟩, .bool true, .bool false, .string sender, .string target, .string ⟨#[112, 117, 98, 108, 105, 99]⟩, .bool auth, .int .i64 third, .int .i64 level, .int .i64 tl, .int .i64 inv, .int .i64 kick, .int .i64 ban]) 24)) (#[.string ⟨#[106, 111, 105, 110]⟩, .bool true, .bool false, .string sender, .string ⟨#[105, 110, 118, 105, 116, 101]⟩, .string rule, .bool auth, .int .i64 third, .int .i64 level, .int .i64 tl, .int .i64 inv, .int .i64 kick, .int .i64 ban]) 24; simpa using this
  have hb3 : Below w.heap.size w w3 := by rw [hw3]; exact (HB2.out.alloc (by omega) _).alloc (by simp; omega) _
  have Q0 := Lib.hid q0
  have Q1 := Lib.hid q1
  have Q2 := Lib.hid q2
  have Q3 := Lib.hid q3
  have HB3 := Lib.hid hb3
  clear q0 q1 q2 q3 hb3 hw3 hcf hff
  refine wp_region_head (fun w' => Below w3.heap.size w3 w') (by kernel_rfl) (by kernel_rfl) (Below.refl _ _).drew ?_
  refine head_ex (by kernel_rfl) ?_
  apply Exists.intro
  refine ⟨fun w' hw' => ?_, ?_⟩
  · have hg := (Q0.out.below' hw').cell
    go_simp
    exact rfl
  simp only [Act.put, List.setIfInBounds_toArray, List.set_cons_zero, List.set_cons_succ]
  refine head_call (.bool false) (by kernel_rfl) ?_
  apply Exists.intro
  apply Exists.intro
  refine ⟨fun w' hw' => ?_, fun w' hw' => ?_, ?_⟩
  · go_simp
    exact ⟨rfl, rfl⟩
  · have hcon := may_any (Fs.mk ⟨#[106, 111, 105, 110]⟩ true false sender target rule auth third level tl inv kick ban) w'
    rw [HM.out] at hcon
    exact hcon.mono fun e w2 ⟨he, hb⟩ => ⟨he, hw'.trans (hb.mono hw'.size)⟩
  simp only [Act.put, List.setIfInBounds_toArray, List.set_cons_zero, List.set_cons_succ]
  refine head_ex (by kernel_rfl) ?_
  apply Exists.intro
  refine ⟨fun w' hw' => ?_, ?_⟩
  · have hg := (Q1.out.below' hw').cell
    go_simp
    exact rfl
  simp only [Act.put, List.setIfInBounds_toArray, List.set_cons_zero, List.set_cons_succ]
  refine head_call (.bool false) (by kernel_rfl) ?_
  apply Exists.intro
  apply Exists.intro
  refine ⟨fun w' hw' => ?_, fun w' hw' => ?_, ?_⟩
  · go_simp
    exact ⟨rfl, rfl⟩
  · have hcon := may_any (Fs.mk ⟨#[106, 111, 105, 110]⟩ true false s target rule auth a b c d e f) w'
    rw [← K1.out, HM.out] at hcon
    exact hcon.mono fun e w2 ⟨he, hb⟩ => ⟨he, hw'.trans (hb.mono hw'.size)⟩
  simp only [Act.put, List.setIfInBounds_toArray, List.set_cons_zero, List.set_cons_succ]
  refine head_ex (by kernel_rfl) ?_
  apply Exists.intro
  refine ⟨fun w' hw' => ?_, ?_⟩
  · go_simp
    exact rfl
  simp only [Act.put, List.setIfInBounds_toArray, List.set_cons_zero, List.set_cons_succ]
  refine head_ex (by kernel_rfl) ?_
  apply Exists.intro
  refine ⟨fun w' hw' => ?_, ?_⟩
  · go_simp
    exact rfl
  simp only [Act.put, List.setIfInBounds_toArray, List.set_cons_zero, List.set_cons_succ]
  refine head_ex (by kernel_rfl) ?_
  apply Exists.intro
  refine ⟨fun w' hw' => ?_, ?_⟩
  · have hg := (Q2.out.below' hw').cell
    go_simp
    exact rfl
  simp only [Act.put, List.setIfInBounds_toArray, List.set_cons_zero, List.set_cons_succ]
  refine head_call (.bool !(target.toList == wBan)) (by kernel_rfl) ?_
  apply Exists.intro
  apply Exists.intro
  refine ⟨fun w' hw' => ?_, fun w' hw' => ?_, ?_⟩
  · go_simp
    exact ⟨rfl, rfl⟩
  · have hcon := may_any (Fs.mk ⟨#[106, 111, 105, 110]⟩ true false sender target ⟨#[112, 117, 98, 108, 105, 99]⟩ auth third level tl inv kick ban) w'
    rw [K2.out] at hcon
    exact hcon.mono fun e w2 ⟨he, hb⟩ => ⟨he, hw'.trans (hb.mono hw'.size)⟩
  simp only [Act.put, List.setIfInBounds_toArray, List.set_cons_zero, List.set_cons_succ]
  refine head_ex (by kernel_rfl) ?_
  apply Exists.intro
  refine ⟨fun w' hw' => ?_, ?_⟩
  · go_simp
    exact rfl
  simp only [Act.put, List.setIfInBounds_toArray, List.set_cons_zero, List.set_cons_succ]
  refine head_ex (by kernel_rfl) ?_
  apply Exists.intro
  refine ⟨fun w' hw' => ?_, ?_⟩
  · have hg := (Q0.out.below' hw').cell
    go_simp
    exact rfl
  simp only [Act.put, List.setIfInBounds_toArray, List.set_cons_zero, List.set_cons_succ]
  refine head_ex (by kernel_rfl) ?_
  apply Exists.intro
  refine ⟨fun w' hw' => ?_, ?_⟩
  · go_simp
    exact rfl
  simp only [Act.put, List.setIfInBounds_toArray, List.set_cons_zero, List.set_cons_succ]
  refine head_ex (by kernel_rfl) ?_
  apply Exists.intro
  refine ⟨fun w' hw' => ?_, ?_⟩
  · go_simp
    exact rfl
  simp only [Act.put, List.setIfInBounds_toArray, List.set_cons_zero, List.set_cons_succ]
  refine head_ex (by kernel_rfl) ?_
  apply Exists.intro
  refine ⟨fun w' hw' => ?_, ?_⟩
  · go_simp
    exact rfl
  simp only [Act.put, List.setIfInBounds_toArray, List.set_cons_zero, List.set_cons_succ]
  refine head_ex (by kernel_rfl) ?_
  apply Exists.intro
  refine ⟨fun w' hw' => ?_, ?_⟩
  · go_simp
    exact rfl
  simp only [Act.put, List.setIfInBounds_toArray, List.set_cons_zero, List.set_cons_succ]
  refine head_ex (by kernel_rfl) ?_
  apply Exists.intro
  refine ⟨fun w' hw' => ?_, ?_⟩
  · have hg := (Q3.out.below' hw').cell
    go_simp
    exact rfl
  simp only [Act.put, List.setIfInBounds_toArray, List.set_cons_zero, List.set_cons_succ]
  refine head_call (.bool true) (by kernel_rfl) ?_
  apply Exists.intro
  apply Exists.intro
  refine ⟨fun w' hw' => ?_, fun w' hw' => ?_, ?_⟩
  · go_simp
    exact ⟨rfl, rfl⟩
  · have hcon := may_any (Fs.mk ⟨#[106, 111, 105, 110]⟩ true false sender ⟨#[105, 110, 118, 105, 116, 101]⟩ rule auth third level tl inv kick ban) w'
    have hk : (Fs.mk ⟨#[106, 111, 105, 110]⟩ true false sender ⟨#[105, 110, 118, 105, 116, 101]⟩ rule auth third level tl inv kick ban).mayB = true := by rw [K3.out]; simp [*]
    rw [hk] at hcon
    exact hcon.mono fun e w2 ⟨he, hb⟩ => ⟨he, hw'.trans (hb.mono hw'.size)⟩
  simp only [Act.put, List.setIfInBounds_toArray, List.set_cons_zero, List.set_cons_succ]
  refine head_ex (by kernel_rfl) ?_
  apply Exists.intro
  refine ⟨fun w' hw' => ?_, ?_⟩
  · go_simp
    exact rfl
  simp only [Act.put, List.setIfInBounds_toArray, List.set_cons_zero, List.set_cons_succ]
  refine head_ex (by kernel_rfl) ?_
  apply Exists.intro
  refine ⟨fun w' hw' => ?_, ?_⟩
  · go_simp
    exact rfl
  simp only [Act.put, List.setIfInBounds_toArray, List.set_cons_zero, List.set_cons_succ]
  refine head_ex (by kernel_rfl) ?_
  apply Exists.intro
  refine ⟨fun w' hw' => ?_, ?_⟩
  · go_simp
    exact rfl
  simp only [Act.put, List.setIfInBounds_toArray, List.set_cons_zero, List.set_cons_succ]
  refine head_ex (by kernel_rfl) ?_
  apply Exists.intro
  refine ⟨fun w' hw' => ?_, ?_⟩
  · go_simp
    exact rfl
  simp only [Act.put, List.setIfInBounds_toArray, List.set_cons_zero, List.set_cons_succ]
  refine head_ex (by kernel_rfl) ?_
  apply Exists.intro
  refine ⟨fun w' hw' => ?_, ?_⟩
  · have hg := (Q0.out.below' hw').cell
    go_simp
    exact rfl
  simp only [Act.put, List.setIfInBounds_toArray, List.set_cons_zero, List.set_cons_succ]
  refine head_call (.bool false) (by kernel_rfl) ?_
  apply Exists.intro
  apply Exists.intro
  refine ⟨fun w' hw' => ?_, fun w' hw' => ?_, ?_⟩
  · go_simp
    exact ⟨rfl, rfl⟩
  · have hcon := may_any (Fs.mk ⟨#[106, 111, 105, 110]⟩ true false sender target rule auth third level tl inv kick ban) w'
    rw [HM.out] at hcon
    exact hcon.mono fun e w2 ⟨he, hb⟩ => ⟨he, hw'.trans (hb.mono hw'.size)⟩
  simp only [Act.put, List.setIfInBounds_toArray, List.set_cons_zero, List.set_cons_succ]
  refine head_ex (by kernel_rfl) ?_
  apply Exists.intro
  refine ⟨fun w' hw' => ?_, ?_⟩
  · go_simp
    exact rfl
  simp only [Act.put, List.setIfInBounds_toArray, List.set_cons_zero, List.set_cons_succ]
  refine head_ex (by kernel_rfl) ?_
  apply Exists.intro
  refine ⟨fun w' hw' => ?_, ?_⟩
  · go_simp
    exact rfl
  simp only [Act.put, List.setIfInBounds_toArray, List.set_cons_zero, List.set_cons_succ]
  refine head_skip (by kernel_rfl) ?_
  simp only [Act.put, List.setIfInBounds_toArray, List.set_cons_zero, List.set_cons_succ]
  refine head_ex (by kernel_rfl) ?_
  apply Exists.intro
  refine ⟨fun w' hw' => ?_, ?_⟩
  · go_simp
    exact rfl
  simp only [Act.put, List.setIfInBounds_toArray, List.set_cons_zero, List.set_cons_succ]
  refine head_ex (by kernel_rfl) ?_
  apply Exists.intro
  refine ⟨fun w' hw' => ?_, ?_⟩
  · go_simp
    exact rfl
  simp only [Act.put, List.setIfInBounds_toArray, List.set_cons_zero, List.set_cons_succ]
  refine head_ex (by kernel_rfl) ?_
  apply Exists.intro
  refine ⟨fun w' hw' => ?_, ?_⟩
  · go_simp
    exact rfl
  simp only [Act.put, List.setIfInBounds_toArray, List.set_cons_zero, List.set_cons_succ]
  refine head_nil ?_
  intro w4 hw4
  go_wp2
  go_returns
  exact ⟨rfl, HB3.out.trans (hw4.mono HB3.out.size)⟩

set_option maxRecDepth 100000 in
set_option maxHeartbeats 4000000 in
theorem rules_invite_true (to : ByteArray) (self first : Bool) (sender target rule : ByteArray) (auth : Bool) (third level tl inv kick ban : Int) (gto : ByteArray) (gself gfirst : Bool) (gsender gtarget grule : ByteArray) (gauth : Bool) (gthird glevel gtl ginv gkick gban : Int) (w : World) (hr : rule.toList = [105, 110, 118, 105, 116, 101]) (hm : (Fs.mk ⟨#[106, 111, 105, 110]⟩ true false sender target rule auth third level tl inv kick ban).mayB = true) :
    Calls Try.prog 7 #[(Fs.mk to self first sender target rule auth third level tl inv kick ban).val, (Fs.mk gto gself gfirst gsender gtarget grule gauth gthird glevel gtl ginv gkick gban).val] w fun e w' => e = .returned (.bool true) ∧ Below w.heap.size w w' := by
  go_enter Try.func7, Try.ntmps7
  go_wp2_with fail
  refine (awake_any _).mono ?_
  rintro e w1 ⟨rfl, hb1⟩
  have r0 : Row w1 w.heap.size (#[.string to, .bool self, .bool first, .string sender, .string target, .string rule, .bool auth, .int .i64 third, .int .i64 level, .int .i64 tl, .int .i64 inv, .int .i64 kick, .int .i64 ban]) := ((Row.new w _ _).alloc _).below' hb1
  have r1 : Row w1 (w.heap.size + 1) (#[.string gto, .bool gself, .bool gfirst, .string gsender, .string gtarget, .string grule, .bool gauth, .int .i64 gthird, .int .i64 glevel, .int .i64 gtl, .int .i64 ginv, .int .i64 gkick, .int .i64 gban]) := by have := (Row.new (w.alloc (.cells (#[.string to, .bool self, .bool first, .string sender, .string target, .string rule, .bool auth, .int .i64 third, .int .i64 level, .int .i64 tl, .int .i64 inv, .int .i64 kick, .int .i64 ban]) 24)) (#[.string gto, .bool gself, .bool gfirst, .string gsender, .string gtarget, .string grule, .bool gauth, .int .i64 gthird, .int .i64 glevel, .int .i64 gtl, .int .i64 ginv, .int .i64 gkick, .int .i64 gban]) 24).below' hb1; simpa using this
  have hc0 := r0.cell
  have hf0 := r0.free
  have hc1 := r1.cell
  have hz : w.heap.size + 1 < w1.heap.size := r1.lt
  have hA : Below w.heap.size w w1 := (((Below.refl _ _).alloc (Nat.le_refl _) _).alloc (by simp) _).trans (hb1.mono (by simp; omega))
  have HA := Lib.hid hA
  have R0 := Lib.hid r0
  have R1 := Lib.hid r1
  clear hb1 hA r0 r1
  go_wp2_with fail
  have hcl : RC w (w.heap.size + 1) w1.heap.size (#[.string gto, .bool gself, .bool gfirst, .string gsender, .string gtarget, .string grule, .bool gauth, .int .i64 gthird, .int .i64 glevel, .int .i64 gtl, .int .i64 ginv, .int .i64 gkick, .int .i64 gban]) w.heap.size (#[.string ⟨#[106, 111, 105, 110]⟩, .bool true, .bool false, .string sender, .string target, .string rule, .bool auth, .int .i64 third, .int .i64 level, .int .i64 tl, .int .i64 inv, .int .i64 kick, .int .i64 ban]) target rule auth ((((w1.setCell ⟨w.heap.size, 0, none⟩ (.string ⟨#[106, 111, 105, 110]⟩)).setCell ⟨w.heap.size, 1, none⟩ (.bool true)).setCell ⟨w.heap.size, 2, none⟩ (.bool false)).alloc (.cells (#[.string ⟨#[106, 111, 105, 110]⟩, .bool true, .bool false, .string sender, .string target, .string rule, .bool auth, .int .i64 third, .int .i64 level, .int .i64 tl, .int .i64 inv, .int .i64 kick, .int .i64 ban]) 24)) := by
    have ha : ∀ (x : World) (o : Obj) (t : Nat), t = x.heap.size → (x.alloc o).heap[t]? = some o := fun x o t ht => by rw [ht]; exact (MapKept.heap_alloc x o).1
    refine ⟨((((HA.out.setCell (by simp) _).setCell (by simp) _).setCell (by simp) _).alloc (by simp; omega) _), (((R0.out.set 0 _).set 1 _).set 2 _).alloc _, (((R1.out.other (by simp) _).other (by simp) _).other (by simp) _).alloc _, sender, third, level, tl, inv, kick, ban, 24, ha _ _ _ (by simp)⟩
  have HCL := Lib.hid hcl
  clear hcl
  have n0 : w.heap.size ≤ w1.heap.size := by omega
  have n1 : w1.heap.size ≠ w.heap.size := by omega
  have n2 : w1.heap.size ≠ w.heap.size + 1 := by omega
  clear hc0 hf0 hc1
  refine wp_region_head (fun w' => RC w (w.heap.size + 1) w1.heap.size (#[.string gto, .bool gself, .bool gfirst, .string gsender, .string gtarget, .string grule, .bool gauth, .int .i64 gthird, .int .i64 glevel, .int .i64 gtl, .int .i64 ginv, .int .i64 gkick, .int .i64 gban]) w.heap.size (#[.string ⟨#[106, 111, 105, 110]⟩, .bool true, .bool false, .string sender, .string target, .string rule, .bool auth, .int .i64 third, .int .i64 level, .int .i64 tl, .int .i64 inv, .int .i64 kick, .int .i64 ban]) target rule auth w') (by kernel_rfl) (by kernel_rfl) HCL.out.drew ?_
  refine head_ex (by kernel_rfl) ?_
  apply Exists.intro
  refine ⟨fun w' hw' => ?_, ?_⟩
  · go_simp
    exact rfl
  simp only [Act.put, List.setIfInBounds_toArray, List.set_cons_zero, List.set_cons_succ]
  refine head_ex (by kernel_rfl) ?_
  apply Exists.intro
  refine ⟨fun w' hw' => ?_, ?_⟩
  · have hg := hw'.g.cell
    go_simp
    exact rfl
  simp only [Act.put, List.setIfInBounds_toArray, List.set_cons_zero, List.set_cons_succ]
  refine head_ex (by kernel_rfl) ?_
  apply Exists.intro
  refine ⟨fun w' hw' => ?_, ?_⟩
  · go_simp
    exact rfl
  simp only [Act.put, List.setIfInBounds_toArray, List.set_cons_zero, List.set_cons_succ]
  refine head_ex (by kernel_rfl) ?_
  apply Exists.intro
  refine ⟨fun w' hw' => ?_, ?_⟩
  · have hg := hw'.g.cell
    go_simp
    exact rfl
  simp only [Act.put, List.setIfInBounds_toArray, List.set_cons_zero, List.set_cons_succ]
  refine head_ex (by kernel_rfl) ?_
  apply Exists.intro
  refine ⟨fun w' hw' => ?_, ?_⟩
  · go_simp
    exact rfl
  simp only [Act.put, List.setIfInBounds_toArray, List.set_cons_zero, List.set_cons_succ]
  refine head_ex (by kernel_rfl) ?_
  apply Exists.intro
  refine ⟨fun w' hw' => ?_, ?_⟩
  · have hg := hw'.g.cell
    go_simp
    exact rfl
  simp only [Act.put, List.setIfInBounds_toArray, List.set_cons_zero, List.set_cons_succ]
  refine head_ex (by kernel_rfl) ?_
  apply Exists.intro
  refine ⟨fun w' hw' => ?_, ?_⟩
  · go_simp
    exact rfl
  simp only [Act.put, List.setIfInBounds_toArray, List.set_cons_zero, List.set_cons_succ]
  refine head_ex (by kernel_rfl) ?_
  apply Exists.intro
  refine ⟨fun w' hw' => ?_, ?_⟩
  · have hg := hw'.g.cell
    go_simp
    exact rfl
  simp only [Act.put, List.setIfInBounds_toArray, List.set_cons_zero, List.set_cons_succ]
  refine head_ex (by kernel_rfl) ?_
  apply Exists.intro
  refine ⟨fun w' hw' => ?_, ?_⟩
  · go_simp
    exact rfl
  simp only [Act.put, List.setIfInBounds_toArray, List.set_cons_zero, List.set_cons_succ]
  refine head_ex (by kernel_rfl) ?_
  apply Exists.intro
  refine ⟨fun w' hw' => ?_, ?_⟩
  · have hg := hw'.g.cell
    go_simp
    exact rfl
  simp only [Act.put, List.setIfInBounds_toArray, List.set_cons_zero, List.set_cons_succ]
  refine head_ex (by kernel_rfl) ?_
  apply Exists.intro
  refine ⟨fun w' hw' => ?_, ?_⟩
  · go_simp
    exact rfl
  simp only [Act.put, List.setIfInBounds_toArray, List.set_cons_zero, List.set_cons_succ]
  refine head_ex (by kernel_rfl) ?_
  apply Exists.intro
  refine ⟨fun w' hw' => ?_, ?_⟩
  · have hg := hw'.g.cell
    go_simp
    exact rfl
  simp only [Act.put, List.setIfInBounds_toArray, List.set_cons_zero, List.set_cons_succ]
  refine head_ex (by kernel_rfl) ?_
  apply Exists.intro
  refine ⟨fun w' hw' => ?_, ?_⟩
  · go_simp
    exact rfl
  simp only [Act.put, List.setIfInBounds_toArray, List.set_cons_zero, List.set_cons_succ]
  refine head_ex (by kernel_rfl) ?_
  apply Exists.intro
  refine ⟨fun w' hw' => ?_, ?_⟩
  · have hg := hw'.g.cell
    go_simp
    exact rfl
  simp only [Act.put, List.setIfInBounds_toArray, List.set_cons_zero, List.set_cons_succ]
  refine head_ex (by kernel_rfl) ?_
  apply Exists.intro
  refine ⟨fun w' hw' => ?_, ?_⟩
  · go_simp
    exact rfl
  simp only [Act.put, List.setIfInBounds_toArray, List.set_cons_zero, List.set_cons_succ]
  refine head_store (by kernel_rfl) (fun w' hw' => ⟨w'.setCell ⟨w1.heap.size, 3, none⟩ (.string gsender), ?_, ?_⟩) ?_
  · obtain ⟨s, a, b, c, d, e, f, hh⟩ := hw'.h
    have h1 := hh.cell
    have h2 := hh.free
    go_simp
  · exact hw'.str n0 n1 n2 _
  simp only [Act.put]
  refine head_ex (by kernel_rfl) ?_
  apply Exists.intro
  refine ⟨fun w' hw' => ?_, ?_⟩
  · go_simp
    exact rfl
  simp only [Act.put, List.setIfInBounds_toArray, List.set_cons_zero, List.set_cons_succ]
  refine head_store (by kernel_rfl) (fun w' hw' => ⟨w'.setCell ⟨w1.heap.size, 7, none⟩ (.int .i64 gthird), ?_, ?_⟩) ?_
  · obtain ⟨s, a, b, c, d, e, f, hh⟩ := hw'.h
    have h1 := hh.cell
    have h2 := hh.free
    go_simp
  · exact hw'.int7 n0 n1 n2 _
  simp only [Act.put]
  refine head_ex (by kernel_rfl) ?_
  apply Exists.intro
  refine ⟨fun w' hw' => ?_, ?_⟩
  · go_simp
    exact rfl
  simp only [Act.put, List.setIfInBounds_toArray, List.set_cons_zero, List.set_cons_succ]
  refine head_store (by kernel_rfl) (fun w' hw' => ⟨w'.setCell ⟨w1.heap.size, 8, none⟩ (.int .i64 glevel), ?_, ?_⟩) ?_
  · obtain ⟨s, a, b, c, d, e, f, hh⟩ := hw'.h
    have h1 := hh.cell
    have h2 := hh.free
    go_simp
  · exact hw'.int8 n0 n1 n2 _
  simp only [Act.put]
  refine head_ex (by kernel_rfl) ?_
  apply Exists.intro
  refine ⟨fun w' hw' => ?_, ?_⟩
  · go_simp
    exact rfl
  simp only [Act.put, List.setIfInBounds_toArray, List.set_cons_zero, List.set_cons_succ]
  refine head_store (by kernel_rfl) (fun w' hw' => ⟨w'.setCell ⟨w1.heap.size, 9, none⟩ (.int .i64 gtl), ?_, ?_⟩) ?_
  · obtain ⟨s, a, b, c, d, e, f, hh⟩ := hw'.h
    have h1 := hh.cell
    have h2 := hh.free
    go_simp
  · exact hw'.int9 n0 n1 n2 _
  simp only [Act.put]
  refine head_ex (by kernel_rfl) ?_
  apply Exists.intro
  refine ⟨fun w' hw' => ?_, ?_⟩
  · go_simp
    exact rfl
  simp only [Act.put, List.setIfInBounds_toArray, List.set_cons_zero, List.set_cons_succ]
  refine head_store (by kernel_rfl) (fun w' hw' => ⟨w'.setCell ⟨w1.heap.size, 10, none⟩ (.int .i64 ginv), ?_, ?_⟩) ?_
  · obtain ⟨s, a, b, c, d, e, f, hh⟩ := hw'.h
    have h1 := hh.cell
    have h2 := hh.free
    go_simp
  · exact hw'.int10 n0 n1 n2 _
  simp only [Act.put]
  refine head_ex (by kernel_rfl) ?_
  apply Exists.intro
  refine ⟨fun w' hw' => ?_, ?_⟩
  · go_simp
    exact rfl
  simp only [Act.put, List.setIfInBounds_toArray, List.set_cons_zero, List.set_cons_succ]
  refine head_store (by kernel_rfl) (fun w' hw' => ⟨w'.setCell ⟨w1.heap.size, 11, none⟩ (.int .i64 gkick), ?_, ?_⟩) ?_
  · obtain ⟨s, a, b, c, d, e, f, hh⟩ := hw'.h
    have h1 := hh.cell
    have h2 := hh.free
    go_simp
  · exact hw'.int11 n0 n1 n2 _
  simp only [Act.put]
  refine head_ex (by kernel_rfl) ?_
  apply Exists.intro
  refine ⟨fun w' hw' => ?_, ?_⟩
  · go_simp
    exact rfl
  simp only [Act.put, List.setIfInBounds_toArray, List.set_cons_zero, List.set_cons_succ]
  refine head_store (by kernel_rfl) (fun w' hw' => ⟨w'.setCell ⟨w1.heap.size, 12, none⟩ (.int .i64 gban), ?_, ?_⟩) ?_
  · obtain ⟨s, a, b, c, d, e, f, hh⟩ := hw'.h
    have h1 := hh.cell
    have h2 := hh.free
    go_simp
  · exact hw'.int12 n0 n1 n2 _
  simp only [Act.put]
  refine head_nil ?_
  intro w2 hw2
  clear HCL
  obtain ⟨hb2, rf, rg, s, a, b, c, d, e, f, rh⟩ := hw2
  have hcf := rf.cell
  have hff := rf.free
  have hz2 : w1.heap.size < w2.heap.size := rh.lt
  have hz3 : w.heap.size < w2.heap.size := by omega
  have HB2 := Lib.hid hb2
  have RF := Lib.hid rf
  have RH := Lib.hid rh
  clear hb2 rf rg rh n0 n1 n2 HA R0 R1
  obtain ⟨k1, k2, k3, k4⟩ := rules_holds (Fs.mk ⟨#[106, 111, 105, 110]⟩ true false sender target rule auth third level tl inv kick ban) (Fs.mk gto gself gfirst s gtarget grule gauth a b c d e f) rfl rfl rfl
  have K1 := Lib.hid k1
  have K2 := Lib.hid k2
  have K3 := Lib.hid k3
  have K4 := Lib.hid k4
  clear k1 k2 k3 k4
  have HM := Lib.hid hm
  clear hm
  go_wp2_with fail
  obtain ⟨w3, hw3⟩ : ∃ w3, w3 = (w2.alloc (.cells (#[.string ⟨#[106, 111, 105, 110]⟩, .bool true, .bool false, .string sender, .string target, .string ⟨#[112, 117, 98, 108, 105, 99]⟩, .bool auth, .int .i64 third, .int .i64 level, .int .i64 tl, .int .i64 inv, .int .i64 kick, .int .i64 ban]) 24)).alloc (.cells (#[.string ⟨#[106, 111, 105, 110]⟩, .bool true, .bool false, .string sender, .string ⟨#[105, 110, 118, 105, 116, 101]⟩, .string rule, .bool auth, .int .i64 third, .int .i64 level, .int .i64 tl, .int .i64 inv, .int .i64 kick, .int .i64 ban]) 24) := ⟨_, rfl⟩
  rw [← hw3]
  have q0 : Row w3 w.heap.size (#[.string ⟨#[106, 111, 105, 110]⟩, .bool true, .bool false, .string sender, .string target, .string rule, .bool auth, .int .i64 third, .int .i64 level, .int .i64 tl, .int .i64 inv, .int .i64 kick, .int .i64 ban]) := by rw [hw3]; exact (RF.out.alloc _).alloc _
  have q1 : Row w3 w1.heap.size (#[.string ⟨#[106, 111, 105, 110]⟩, .bool true, .bool false, .string s, .string target, .string rule, .bool auth, .int .i64 a, .int .i64 b, .int .i64 c, .int .i64 d, .int .i64 e, .int .i64 f]) := by rw [hw3]; exact (RH.out.alloc _).alloc _
  have q2 : Row w3 w2.heap.size (#[.string ⟨#[106, 111, 105, 110]⟩, .bool true, .bool false, .string sender, .string target, .string ⟨#[112, 117, 98, 108, 105, 99]⟩, .bool auth, .int .i64 third, .int .i64 level, .int .i64 tl, .int .i64 inv, .int .i64 kick, .int .i64 ban]) := by rw [hw3]; exact (Row.new _ _ _).alloc _
  have q3 : Row w3 (w2.heap.size + 1) (#[.string ⟨#[106, 111, 105, 110]⟩, .bool true, .bool false, .string sender, .string ⟨#[105, 110, 118, 105, 116, 101]⟩, .string rule, .bool auth, .int .i64 third, .int .i64 level, .int .i64 tl, .int .i64 inv, .int .i64 kick, .int .i64 ban]) := by rw [hw3]; have := Row.new (w2.alloc (.cells (#[.string ⟨#[106, 111, 105, 110]⟩, .bool true, .bool false, .string sender, .string target, .string ⟨#[112, 117, 98, 108, 105, 99]⟩, .bool auth, .int .i64 third, .int .i64 level, .int .i64 tl, .int .i64 inv, .int .i64 kick, .int .i64 ban]) 24)) (#[.string ⟨#[106, 111, 105, 110]⟩, .bool true, .bool false, .string sender, .string ⟨#[105, 110, 118, 105, 116, 101]⟩, .string rule, .bool auth, .int .i64 third, .int .i64 level, .int .i64 tl, .int .i64 inv, .int .i64 kick, .int .i64 ban]) 24; simpa using this
  have hb3 : Below w.heap.size w w3 := by rw [hw3]; exact (HB2.out.alloc (by omega) _).alloc (by simp; omega) _
  have Q0 := Lib.hid q0
  have Q1 := Lib.hid q1
  have Q2 := Lib.hid q2
  have Q3 := Lib.hid q3
  have HB3 := Lib.hid hb3
  clear q0 q1 q2 q3 hb3 hw3 hcf hff
  refine wp_region_head (fun w' => Below w3.heap.size w3 w') (by kernel_rfl) (by kernel_rfl) (Below.refl _ _).drew ?_
  refine head_ex (by kernel_rfl) ?_
  apply Exists.intro
  refine ⟨fun w' hw' => ?_, ?_⟩
  · have hg := (Q0.out.below' hw').cell
    go_simp
    exact rfl
  simp only [Act.put, List.setIfInBounds_toArray, List.set_cons_zero, List.set_cons_succ]
  refine head_call (.bool true) (by kernel_rfl) ?_
  apply Exists.intro
  apply Exists.intro
  refine ⟨fun w' hw' => ?_, fun w' hw' => ?_, ?_⟩
  · go_simp
    exact ⟨rfl, rfl⟩
  · have hcon := may_any (Fs.mk ⟨#[106, 111, 105, 110]⟩ true false sender target rule auth third level tl inv kick ban) w'
    rw [HM.out] at hcon
    exact hcon.mono fun e w2 ⟨he, hb⟩ => ⟨he, hw'.trans (hb.mono hw'.size)⟩
  simp only [Act.put, List.setIfInBounds_toArray, List.set_cons_zero, List.set_cons_succ]
  refine head_ex (by kernel_rfl) ?_
  apply Exists.intro
  refine ⟨fun w' hw' => ?_, ?_⟩
  · have hg := (Q1.out.below' hw').cell
    go_simp
    exact rfl
  simp only [Act.put, List.setIfInBounds_toArray, List.set_cons_zero, List.set_cons_succ]
  refine head_call (.bool true) (by kernel_rfl) ?_
  apply Exists.intro
  apply Exists.intro
  refine ⟨fun w' hw' => ?_, fun w' hw' => ?_, ?_⟩
  · go_simp
    exact ⟨rfl, rfl⟩
  · have hcon := may_any (Fs.mk ⟨#[106, 111, 105, 110]⟩ true false s target rule auth a b c d e f) w'
    rw [← K1.out, HM.out] at hcon
    exact hcon.mono fun e w2 ⟨he, hb⟩ => ⟨he, hw'.trans (hb.mono hw'.size)⟩
  simp only [Act.put, List.setIfInBounds_toArray, List.set_cons_zero, List.set_cons_succ]
  refine head_ex (by kernel_rfl) ?_
  apply Exists.intro
  refine ⟨fun w' hw' => ?_, ?_⟩
  · go_simp
    exact rfl
  simp only [Act.put, List.setIfInBounds_toArray, List.set_cons_zero, List.set_cons_succ]
  refine head_ex (by kernel_rfl) ?_
  apply Exists.intro
  refine ⟨fun w' hw' => ?_, ?_⟩
  · go_simp
    exact rfl
  simp only [Act.put, List.setIfInBounds_toArray, List.set_cons_zero, List.set_cons_succ]
  refine head_ex (by kernel_rfl) ?_
  apply Exists.intro
  refine ⟨fun w' hw' => ?_, ?_⟩
  · have hg := (Q2.out.below' hw').cell
    go_simp
    exact rfl
  simp only [Act.put, List.setIfInBounds_toArray, List.set_cons_zero, List.set_cons_succ]
  refine head_call (.bool !(target.toList == wBan)) (by kernel_rfl) ?_
  apply Exists.intro
  apply Exists.intro
  refine ⟨fun w' hw' => ?_, fun w' hw' => ?_, ?_⟩
  · go_simp
    exact ⟨rfl, rfl⟩
  · have hcon := may_any (Fs.mk ⟨#[106, 111, 105, 110]⟩ true false sender target ⟨#[112, 117, 98, 108, 105, 99]⟩ auth third level tl inv kick ban) w'
    rw [K2.out] at hcon
    exact hcon.mono fun e w2 ⟨he, hb⟩ => ⟨he, hw'.trans (hb.mono hw'.size)⟩
  simp only [Act.put, List.setIfInBounds_toArray, List.set_cons_zero, List.set_cons_succ]
  refine head_ex (by kernel_rfl) ?_
  apply Exists.intro
  refine ⟨fun w' hw' => ?_, ?_⟩
  · go_simp
    exact rfl
  simp only [Act.put, List.setIfInBounds_toArray, List.set_cons_zero, List.set_cons_succ]
  refine head_ex (by kernel_rfl) ?_
  apply Exists.intro
  refine ⟨fun w' hw' => ?_, ?_⟩
  · have hg := (Q0.out.below' hw').cell
    go_simp
    exact rfl
  simp only [Act.put, List.setIfInBounds_toArray, List.set_cons_zero, List.set_cons_succ]
  refine head_ex (by kernel_rfl) ?_
  apply Exists.intro
  refine ⟨fun w' hw' => ?_, ?_⟩
  · go_simp
    exact rfl
  simp only [Act.put, List.setIfInBounds_toArray, List.set_cons_zero, List.set_cons_succ]
  refine head_ex (by kernel_rfl) ?_
  apply Exists.intro
  refine ⟨fun w' hw' => ?_, ?_⟩
  · go_simp
    exact rfl
  simp only [Act.put, List.setIfInBounds_toArray, List.set_cons_zero, List.set_cons_succ]
  refine head_ex (by kernel_rfl) ?_
  apply Exists.intro
  refine ⟨fun w' hw' => ?_, ?_⟩
  · go_simp
    exact rfl
  simp only [Act.put, List.setIfInBounds_toArray, List.set_cons_zero, List.set_cons_succ]
  refine head_ex (by kernel_rfl) ?_
  apply Exists.intro
  refine ⟨fun w' hw' => ?_, ?_⟩
  · go_simp
    exact rfl
  simp only [Act.put, List.setIfInBounds_toArray, List.set_cons_zero, List.set_cons_succ]
  refine head_ex (by kernel_rfl) ?_
  apply Exists.intro
  refine ⟨fun w' hw' => ?_, ?_⟩
  · have hg := (Q3.out.below' hw').cell
    go_simp
    exact rfl
  simp only [Act.put, List.setIfInBounds_toArray, List.set_cons_zero, List.set_cons_succ]
  refine head_call (.bool true) (by kernel_rfl) ?_
  apply Exists.intro
  apply Exists.intro
  refine ⟨fun w' hw' => ?_, fun w' hw' => ?_, ?_⟩
  · go_simp
    exact ⟨rfl, rfl⟩
  · have hcon := may_any (Fs.mk ⟨#[106, 111, 105, 110]⟩ true false sender ⟨#[105, 110, 118, 105, 116, 101]⟩ rule auth third level tl inv kick ban) w'
    have hk : (Fs.mk ⟨#[106, 111, 105, 110]⟩ true false sender ⟨#[105, 110, 118, 105, 116, 101]⟩ rule auth third level tl inv kick ban).mayB = true := by rw [K3.out]; simp [*]
    rw [hk] at hcon
    exact hcon.mono fun e w2 ⟨he, hb⟩ => ⟨he, hw'.trans (hb.mono hw'.size)⟩
  simp only [Act.put, List.setIfInBounds_toArray, List.set_cons_zero, List.set_cons_succ]
  refine head_ex (by kernel_rfl) ?_
  apply Exists.intro
  refine ⟨fun w' hw' => ?_, ?_⟩
  · go_simp
    exact rfl
  simp only [Act.put, List.setIfInBounds_toArray, List.set_cons_zero, List.set_cons_succ]
  refine head_ex (by kernel_rfl) ?_
  apply Exists.intro
  refine ⟨fun w' hw' => ?_, ?_⟩
  · go_simp
    exact rfl
  simp only [Act.put, List.setIfInBounds_toArray, List.set_cons_zero, List.set_cons_succ]
  refine head_ex (by kernel_rfl) ?_
  apply Exists.intro
  refine ⟨fun w' hw' => ?_, ?_⟩
  · go_simp
    exact rfl
  simp only [Act.put, List.setIfInBounds_toArray, List.set_cons_zero, List.set_cons_succ]
  refine head_ex (by kernel_rfl) ?_
  apply Exists.intro
  refine ⟨fun w' hw' => ?_, ?_⟩
  · go_simp
    exact rfl
  simp only [Act.put, List.setIfInBounds_toArray, List.set_cons_zero, List.set_cons_succ]
  refine head_ex (by kernel_rfl) ?_
  apply Exists.intro
  refine ⟨fun w' hw' => ?_, ?_⟩
  · have hg := (Q0.out.below' hw').cell
    go_simp
    exact rfl
  simp only [Act.put, List.setIfInBounds_toArray, List.set_cons_zero, List.set_cons_succ]
  refine head_call (.bool true) (by kernel_rfl) ?_
  apply Exists.intro
  apply Exists.intro
  refine ⟨fun w' hw' => ?_, fun w' hw' => ?_, ?_⟩
  · go_simp
    exact ⟨rfl, rfl⟩
  · have hcon := may_any (Fs.mk ⟨#[106, 111, 105, 110]⟩ true false sender target rule auth third level tl inv kick ban) w'
    rw [HM.out] at hcon
    exact hcon.mono fun e w2 ⟨he, hb⟩ => ⟨he, hw'.trans (hb.mono hw'.size)⟩
  simp only [Act.put, List.setIfInBounds_toArray, List.set_cons_zero, List.set_cons_succ]
  refine head_ex (by kernel_rfl) ?_
  apply Exists.intro
  refine ⟨fun w' hw' => ?_, ?_⟩
  · go_simp
    exact rfl
  simp only [Act.put, List.setIfInBounds_toArray, List.set_cons_zero, List.set_cons_succ]
  refine head_ex (by kernel_rfl) ?_
  apply Exists.intro
  refine ⟨fun w' hw' => ?_, ?_⟩
  · go_simp
    exact rfl
  simp only [Act.put, List.setIfInBounds_toArray, List.set_cons_zero, List.set_cons_succ]
  refine head_ex (by kernel_rfl) ?_
  apply Exists.intro
  refine ⟨fun w' hw' => ?_, ?_⟩
  · go_simp
    exact rfl
  simp only [Act.put, List.setIfInBounds_toArray, List.set_cons_zero, List.set_cons_succ]
  refine head_ex (by kernel_rfl) ?_
  apply Exists.intro
  refine ⟨fun w' hw' => ?_, ?_⟩
  · go_simp
    exact rfl
  simp only [Act.put, List.setIfInBounds_toArray, List.set_cons_zero, List.set_cons_succ]
  refine head_ex (by kernel_rfl) ?_
  apply Exists.intro
  refine ⟨fun w' hw' => ?_, ?_⟩
  · go_simp
    exact rfl
  simp only [Act.put, List.setIfInBounds_toArray, List.set_cons_zero, List.set_cons_succ]
  refine head_ex (by kernel_rfl) ?_
  apply Exists.intro
  refine ⟨fun w' hw' => ?_, ?_⟩
  · go_simp
    exact rfl
  simp only [Act.put, List.setIfInBounds_toArray, List.set_cons_zero, List.set_cons_succ]
  refine head_nil ?_
  intro w4 hw4
  go_wp2
  go_returns
  exact ⟨rfl, HB3.out.trans (hw4.mono HB3.out.size)⟩

end Go.Proofs.Ytngohnckelceoaa
