/- DiskFuses: for any number of calls till the fuse goes off and any calls it goes off at just its Write or Sync, which is not done; the law returns true. No condition. -/
import Derived.Test.YtnfglcfjjemjmaaOpen
import Derived.Test.YtnfglcfjjemjmaaDk5
namespace Go.Proofs.Ytnfglcfjjemjmaa.diskFuses
open Go.ChangeShapes Go.WideShapes Go.ChangeAt Go.RowKit
open Go.ChangeMaps (open_string shut_string)
open Go.Proofs.Ytnfglcfjjemjmaa
set_option maxRecDepth 100000 in
theorem walk {H : Type} {enc : TypeId × Value → H} {base : Nat} (W : World) {v0 : Value} {d0 : DataW H} {p0 : List MemPlace} (hv0 : Value.okWide Try.prog W .any base 3 v0) (h0 : DataW.Trod enc Try.prog W 0 (fun _ => true) true 3 v0 d0 p0) {v1 : Value} {d1 : DataW H} {p1 : List MemPlace} (hv1 : Value.okWide Try.prog W .any base 22 v1) (h1 : DataW.Trod enc Try.prog W 0 (fun _ => true) true 22 v1 d1 p1) : Calls Try.prog 4 #[v0, v1] W fun e w' => e = .returned (.bool true) ∧ Below W.heap.size W w' := by
  obtain ⟨n0, rfl, rfl, rfl, w0⟩ := open_int Try.underlying3 hv0 h0
  rcases arg_slice Try.underlying22 Try.underlying3 (by kernel_rfl) hv1 h1 with rfl | ⟨x1, o1, base1, len1, cap1, l1, lc1, cm1, ll1, w1, r1, m1⟩
  · obtain ⟨D, E, H, N, hs⟩ := fusesN_W (x := n0)
    exact law_T mixed cT7_ok hs (by simp) (mrel_nil W _) (VRels.cons (by rw [VRel]) (VRels.cons (by rw [VRel]) VRels.nil))
  · have n1 : len1 ≤ l1.length := by omega
    obtain ⟨D, E, H, N, hs⟩ := fuses_W (x := n0) (o := o1) (base := base1) (lim := some (o1 + cap1)) n1
    exact law_T mixed cT7_ok hs (by simp) (mrel_1 m1) (VRels.cons (by rw [VRel]) (VRels.cons (r1 _ 0 rfl) VRels.nil))

set_option maxRecDepth 100000 in
theorem lifted (os : Os) (started : os.Started) (H : Type) (enc : TypeId × Value → H) :
    ReturnsInHanded {} Try.checked os 4 .any (Rows.diskFusesSpec.pre6 enc Try.prog Try.f4 Rows.diskFusesRow.domain false) (Rows.diskFusesSpec.post enc Try.prog Try.f4 false true false false) := by
  refine returnsInHanded_of_change (C := Try.checked) Try.ownKnob started (by kernel_rfl) Try.func4
    (ChangeSpec.witness6 (enc := enc) (C := Try.checked) false ⟨#[], #[.int .i64 0, .slice none 0 0], []⟩ 8 (by kernel_rfl) (by kernel_rfl) (by kernel_rfl) (by kernel_rfl)) ?_
  intro W base args ds gs before hval0 hW hcnd _
  have hval : ∀ (j : Nat) t v, Try.f4.params[j]? = some t → args[j]? = some v → Value.okWide Try.prog W .any base t v := hval0
  have hW' := hW
  obtain ⟨p, q, hA0, hV, rfl, hfz, hnd⟩ := hW
  have hA : DataW.TrodAll enc Try.prog W 0 (fun _ => true) true Try.f4.params.toList args.toList ds p := hA0
  rw [Try.params4] at hA hval
  obtain ⟨v0, vs0, d0, ds0, p0, q0, hargs, rfl, rfl, h0, r0⟩ := trodAll_cons hA
  obtain ⟨v1, vs1, d1, ds1, p1, q1, rfl, rfl, rfl, h1, r1⟩ := trodAll_cons r0
  obtain ⟨rfl, rfl, rfl⟩ := trodAll_nil r1
  obtain rfl : args = #[v0, v1] := by cases args; simp_all
  obtain ⟨rfl, rfl⟩ := trodVars_none hV
  have k0 := h0
  have lt0 : ∀ x ∈ p0, x.block < W.heap.size := by obtain ⟨m, hm⟩ := k0; exact DataW.trod_lt m _ _ _ hm
  have k1 := h1
  have lt1 : ∀ x ∈ p1, x.block < W.heap.size := by obtain ⟨m, hm⟩ := k1; exact DataW.trod_lt m _ _ _ hm
  clear hA0 hval0
  refine (walk (enc := enc) W (hval 0 3 v0 rfl rfl) h0 (hval 1 22 v1 rfl rfl) h1).mono fun e W' ⟨he, bel⟩ => ?_
  subst he
  exact ⟨_, rfl, _, _, _, [], _, [], hW', trodAll_mk1 (shut_bool Try.underlying4 _), (trodAll_cons_mk (Below.trod Try.laidOut (by kernel_rfl) (of_decide_eq_true (by kernel_rfl)) k0 bel lt0) (trodAll_cons_mk (Below.trod Try.laidOut (by kernel_rfl) (of_decide_eq_true (by kernel_rfl)) k1 bel lt1) trodAll_mk0)), rfl, bel.frame _, fun h => by cases h⟩

theorem over : Rows.diskFusesRow.holds Try.pinned (OpenSpec.ofChange Rows.diskFusesSpec) :=
  OpenClaim.holds_of_wide 4 Try.f4 rfl rfl rfl rfl rfl rfl rfl ⟨rfl, rfl, rfl, rfl, rfl⟩ rfl rfl rfl rfl rfl (by kernel_rfl) Try.func4 (by kernel_rfl)
    (of_decide_eq_true (by kernel_rfl)) (by unfold Func.isWrapper; rw [if_neg (of_decide_eq_false (by kernel_rfl))]; exact ⟨rfl, rfl⟩)
    (fun os started H enc _ => lifted os started H enc)

theorem proved : Rows.DiskFusesSaid := over
#print axioms proved
end Go.Proofs.Ytnfglcfjjemjmaa.diskFuses
