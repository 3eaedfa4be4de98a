/- MemberSays tells true. No condition. -/
import Derived.Test.YtngohnckelceoaaM4
import Derived.BigQuiet
namespace Go.Proofs.Ytngohnckelceoaa
open Go.RowKit

section
variable {P : Program} {ops : Array Oper} {C : World → Prop} {Q : Act → Prop} {a : Act} {o : Oper} {rest : List Oper} {v : Value}
theorem wpq_value (hw : Region.wanted o (yielded ops a.tmps) = true) (hrun : ∀ w, C w → (execOp a.eval o).run P w = .ok (.value v) w)
    (h : wpQuiet P ops C Q rest (a.put o.dst v)) : wpQuiet P ops C Q (o :: rest) a := by
  unfold wpQuiet
  rw [if_pos hw]
  exact ⟨v, fun w hC => by unfold Oper.quietAt; rw [hrun w hC]; exact ⟨rfl, rfl⟩, h⟩
theorem wpq_ex (hw : Region.wanted o (yielded ops a.tmps) = true) (h : ∃ v, (∀ w, C w → (execOp a.eval o).run P w = .ok (.value v) w) ∧ wpQuiet P ops C Q rest (a.put o.dst v)) :
    wpQuiet P ops C Q (o :: rest) a := let ⟨_, h1, h2⟩ := h; wpq_value hw h1 h2
theorem wpq_call {f : FuncId} {args : Array Value} (hw : Region.wanted o (yielded ops a.tmps) = true) (hrun : ∀ w, C w → (execOp a.eval o).run P w = .ok (.enter f args) w)
    (hc : ∀ w, C w → Calls P f args w fun e w' => e = .returned v ∧ C w') (h : wpQuiet P ops C Q rest (a.put o.dst v)) : wpQuiet P ops C Q (o :: rest) a := by
  unfold wpQuiet
  rw [if_pos hw]
  exact ⟨v, fun w hC => by unfold Oper.quietAt; rw [hrun w hC]; exact ⟨rfl, hc w hC⟩, h⟩
theorem wpq_exc (v : Value) (hw : Region.wanted o (yielded ops a.tmps) = true) (h : ∃ f args, (∀ w, C w → (execOp a.eval o).run P w = .ok (.enter f args) w) ∧ (∀ w, C w → Calls P f args w fun e w' => e = .returned v ∧ C w') ∧ wpQuiet P ops C Q rest (a.put o.dst v)) :
    wpQuiet P ops C Q (o :: rest) a := let ⟨_, _, h1, h2, h3⟩ := h; wpq_call hw h1 h2 h3
end

set_option maxRecDepth 100000 in
set_option maxHeartbeats 1000000 in
theorem says_any (f : Fs) (w : World) : Calls Try.prog 4 #[f.val] w fun e w' => e = .returned (.bool true) ∧ Below w.heap.size w w' := by
  obtain ⟨to, self, first, sender, target, rule, auth, third, level, tl, inv, kick, ban⟩ := f
  go_enter Try.func4, Try.ntmps4
  go_wp2_with fail
  refine (awake_any _).mono ?_
  rintro e w1 ⟨rfl, hb1⟩
  obtain ⟨W, hW⟩ : ∃ W, W = w.alloc (.cells #[.string to, .bool self, .bool first, .string sender, .string target, .string rule, .bool auth, .int .i64 third, .int .i64 level, .int .i64 tl, .int .i64 inv, .int .i64 kick, .int .i64 ban] 24) := ⟨_, rfl⟩
  go_wp2_with fail
  rw [← hW] at hb1
  have HC : ∀ w', Below W.heap.size W w' → ∀ o, w'.cell? ⟨w.heap.size, o, none⟩ = (w.alloc (.cells #[.string to, .bool self, .bool first, .string sender, .string target, .string rule, .bool auth, .int .i64 third, .int .i64 level, .int .i64 tl, .int .i64 inv, .int .i64 kick, .int .i64 ban] 24)).cell? ⟨w.heap.size, o, none⟩ := by
    intro w' h o
    have := (bcell h).1 w.heap.size o (by rw [hW]; simp)
    rw [this, hW]
  have HW := Lib.hid hW
  clear hW
  refine wp_region_quiet (C := fun w' => Below W.heap.size W w') (by kernel_rfl) (by kernel_rfl) hb1.drew ?_
  refine wpq_ex (by kernel_rfl) ?_
  apply Exists.intro
  refine ⟨fun w' hw' => ?_, ?_⟩
  · have hc' := HC w' hw'
    go_simp
    exact rfl
  simp only [Act.put, List.setIfInBounds_toArray, List.set_cons_zero, List.set_cons_succ]
  refine wpq_exc (.bool (Fs.mk to self first sender target rule auth third level tl inv kick ban).mayB) (by kernel_rfl) ?_
  apply Exists.intro
  apply Exists.intro
  refine ⟨fun w' hw' => ?_, fun w' hw' => ?_, ?_⟩
  · go_simp
    exact ⟨rfl, rfl⟩
  · exact (may_any (Fs.mk to self first sender target rule auth third level tl inv kick ban) w').mono fun e w2 ⟨he, hb⟩ => ⟨he, hw'.trans (hb.mono hw'.size)⟩
  simp only [Act.put, List.setIfInBounds_toArray, List.set_cons_zero, List.set_cons_succ]
  refine wpq_ex (by kernel_rfl) ?_
  apply Exists.intro
  refine ⟨fun w' hw' => ?_, ?_⟩
  · have hc' := HC w' hw'
    go_simp
    exact rfl
  simp only [Act.put, List.setIfInBounds_toArray, List.set_cons_zero, List.set_cons_succ]
  refine wpq_exc (.bool (Fs.mk to self first sender target rule auth third level tl inv kick ban).mayB) (by kernel_rfl) ?_
  apply Exists.intro
  apply Exists.intro
  refine ⟨fun w' hw' => ?_, fun w' hw' => ?_, ?_⟩
  · go_simp
    exact ⟨rfl, rfl⟩
  · exact (ref_any (Fs.mk to self first sender target rule auth third level tl inv kick ban) w').mono fun e w2 ⟨he, hb⟩ => ⟨he, hw'.trans (hb.mono hw'.size)⟩
  simp only [Act.put, List.setIfInBounds_toArray, List.set_cons_zero, List.set_cons_succ]
  refine wpq_ex (by kernel_rfl) ?_
  apply Exists.intro
  refine ⟨fun w' hw' => ?_, ?_⟩
  · have hc' := HC w' hw'
    go_simp
    exact rfl
  simp only [Act.put, List.setIfInBounds_toArray, List.set_cons_zero, List.set_cons_succ]
  refine wpq_ex (by kernel_rfl) ?_
  apply Exists.intro
  refine ⟨fun w' hw' => ?_, ?_⟩
  · have hc' := HC w' hw'
    go_simp
    exact rfl
  simp only [Act.put, List.setIfInBounds_toArray, List.set_cons_zero, List.set_cons_succ]
  refine wpQuiet_nil ?_
  intro w2 hw2
  go_wp2
  go_returns
  refine ⟨by simp, ?_⟩
  exact (show Below w.heap.size w W by rw [HW.out]; exact (Below.refl _ _).alloc (Nat.le_refl _) _).trans (hw2.mono (by rw [HW.out]; simp))

end Go.Proofs.Ytngohnckelceoaa
