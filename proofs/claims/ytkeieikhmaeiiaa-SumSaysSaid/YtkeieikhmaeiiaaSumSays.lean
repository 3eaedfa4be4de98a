/- SumSays: for any bytes, at most a thousand of them, both sums and their digits are as the reference tells them; the law returns true. No condition. -/
import Derived.Test.YtkeieikhmaeiiaaOpen
import Derived.Test.YtkeieikhmaeiiaaSh14
namespace Go.Proofs.Ytkeieikhmaeiiaa.sumSays
open Go.ChangeShapes Go.WideShapes Go.ChangeAt Go.RowKit
open Go.ChangeMaps (open_string shut_string)
open Go.Proofs.Ytkeieikhmaeiiaa
set_option maxRecDepth 100000 in
theorem walk {H : Type} {enc : TypeId × Value → H} {base : Nat} (W : World) {v0 : Value} {d0 : DataW H} {p0 : List MemPlace} (hv0 : Value.okWide Try.prog W .any base 23 v0) (h0 : DataW.Trod enc Try.prog W 0 (fun _ => true) true 23 v0 d0 p0) : Calls Try.prog 5 #[v0] W fun e w' => e = .returned (.bool true) ∧ Below W.heap.size W w' := by
  rcases arg_slice Try.underlying23 Try.underlying5 (by kernel_rfl) hv0 h0 with rfl | ⟨x0, o0, base0, len0, cap0, l0, lc0, cm0, ll0, w0, r0, m0⟩
  · obtain ⟨D, H, N, hs⟩ := says6N_W
    exact law_W mixed cH15_ok hs (by simp) (mrel_nil W _) (VRels.cons (by rw [VRel]) VRels.nil)
  · have b0 : Bys l0 := fun x hx => has_u8 (w0 x hx)
    have n0 : len0 ≤ l0.length := by omega
    obtain ⟨D, H, N, hs⟩ := says6_W (o := o0) (base := base0) (lim := some (o0 + cap0)) b0 n0
    exact law_W mixed cH15_ok hs (by simp) (mrel_1 m0) (VRels.cons (r0 _ 0 rfl) VRels.nil)

set_option maxRecDepth 100000 in
theorem lifted (os : Os) (started : os.Started) (H : Type) (enc : TypeId × Value → H) :
    ReturnsInHanded {} Try.checked os 5 .any (Rows.sumSaysSpec.pre6 enc Try.prog Try.f5 Rows.sumSaysRow.domain false) (Rows.sumSaysSpec.post enc Try.prog Try.f5 false true false false) := by
  refine returnsInHanded_of_change (C := Try.checked) Try.ownKnob started (by kernel_rfl) Try.func5
    (ChangeSpec.witness6 (enc := enc) (C := Try.checked) false ⟨#[], #[.slice none 0 0], []⟩ 8 (by kernel_rfl) (by kernel_rfl) (by kernel_rfl) (by kernel_rfl)) ?_
  intro W base args ds gs before hval0 hW hcnd _
  have hval : ∀ (j : Nat) t v, Try.f5.params[j]? = some t → args[j]? = some v → Value.okWide Try.prog W .any base t v := hval0
  have hW' := hW
  obtain ⟨p, q, hA0, hV, rfl, hfz, hnd⟩ := hW
  have hA : DataW.TrodAll enc Try.prog W 0 (fun _ => true) true Try.f5.params.toList args.toList ds p := hA0
  rw [Try.params5] at hA hval
  obtain ⟨v0, vs0, d0, ds0, p0, q0, hargs, rfl, rfl, h0, r0⟩ := trodAll_cons hA
  obtain ⟨rfl, rfl, rfl⟩ := trodAll_nil r0
  obtain rfl : args = #[v0] := by cases args; simp_all
  obtain ⟨rfl, rfl⟩ := trodVars_none hV
  have k0 := h0
  have lt0 : ∀ x ∈ p0, x.block < W.heap.size := by obtain ⟨m, hm⟩ := k0; exact DataW.trod_lt m _ _ _ hm
  clear hA0 hval0
  refine (walk (enc := enc) W (hval 0 23 v0 rfl rfl) h0).mono fun e W' ⟨he, bel⟩ => ?_
  subst he
  exact ⟨_, rfl, _, _, _, [], _, [], hW', trodAll_mk1 (shut_bool Try.underlying4 _), (trodAll_cons_mk (Below.trod Try.laidOut (by kernel_rfl) (of_decide_eq_true (by kernel_rfl)) k0 bel lt0) trodAll_mk0), rfl, bel.frame _, fun h => by cases h⟩

theorem over : Rows.sumSaysRow.holds Try.pinned (OpenSpec.ofChange Rows.sumSaysSpec) :=
  OpenClaim.holds_of_wide 5 Try.f5 rfl rfl rfl rfl rfl rfl rfl ⟨rfl, rfl, rfl, rfl, rfl⟩ rfl rfl rfl rfl rfl (by kernel_rfl) Try.func5 (by kernel_rfl)
    (of_decide_eq_true (by kernel_rfl)) (by unfold Func.isWrapper; rw [if_neg (of_decide_eq_false (by kernel_rfl))]; exact ⟨rfl, rfl⟩)
    (fun os started H enc _ => lifted os started H enc)

theorem proved : Rows.SumSaysSaid := over
#print axioms proved
end Go.Proofs.Ytkeieikhmaeiiaa.sumSays
