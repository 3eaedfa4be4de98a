/- What a law's run on the small machine says of the law. No condition. -/
import Derived.Test.YtnfglcfjjemjmaaAm19
namespace Go.Proofs.Ytnfglcfjjemjmaa
open Go Go.RowKit

theorem mrel_nil (w : World) (B : Nat) : MRel B noF [] w := ⟨fun _ _ h => by simp [noF] at h, by simp, by simp, by simp, by simp⟩
theorem law_ok {P : Program} {C : Orc} (hC : OrcOK P C) {g : FuncId} {args : List AV} {M M' : Mem} (h : C g args M = some (.bool true, M')) (hcl : ∀ b ∈ M, b.dirty = false) {f : FM} {W : World} (hm : MRel W.heap.size f M W) {Vs : Array Value} (hv : VRels f args Vs.toList) :
    Calls P g Vs W (fun e w' => e = .returned (.bool true) ∧ Below W.heap.size W w') := by
  obtain ⟨_, _, _, h4⟩ := hC g args M _ M' h hcl
  refine (h4 W.heap.size f W Vs hm (Nat.le_refl _) hv).mono ?_
  rintro e w' ⟨f', V, rfl, _, _, hV, hw⟩
  rw [VRel] at hV; subst hV
  exact ⟨rfl, hw.below hm (Nat.le_refl _)⟩
def isTrue : Option (AV × Mem) → Bool
  | some (.bool true, _) => true
  | _ => false
theorem isTrue_spec {r : Option (AV × Mem)} (h : isTrue r = true) : ∃ M', r = some (.bool true, M') := by
  unfold isTrue at h
  split at h
  · exact ⟨_, rfl⟩
  · cases h
theorem law_closed {P : Program} {C : Orc} (hC : OrcOK P C) {g : FuncId} (h : isTrue (C g [] []) = true) (W : World) : Calls P g #[] W (fun e w' => e = .returned (.bool true) ∧ Below W.heap.size W w') := by
  obtain ⟨M', h⟩ := isTrue_spec h
  exact law_ok hC h (by simp) (mrel_nil W _) (by simp [VRels])
end Go.Proofs.Ytnfglcfjjemjmaa
