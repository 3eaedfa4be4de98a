/- MemberRules tells true. No condition. -/
import Derived.Test.YtngohnckelceoaaM5
import Derived.Test.YtngohnckelceoaaReg
import Derived.Test.YtngohnckelceoaaRow
namespace Go.Proofs.Ytngohnckelceoaa
open Go.RowKit

/-- What the three sentences of the law come to. -/
theorem rules_holds (f g : Fs) (hto : f.to = ⟨#[106, 111, 105, 110]⟩) (hs : f.self = true) (hfi : f.first = false) :
    f.mayB = ({ f with sender := g.sender, third := g.third, level := g.level, tl := g.tl, inv := g.inv, kick := g.kick, ban := g.ban } : Fs).mayB ∧
    ({ f with rule := ⟨#[112, 117, 98, 108, 105, 99]⟩ } : Fs).mayB = !(f.target.toList == wBan) ∧
    ({ f with target := ⟨#[105, 110, 118, 105, 116, 101]⟩ } : Fs).mayB = (f.rule.toList == wPublic || f.rule.toList == wInvite || f.rule.toList == wKnock || f.rule.toList == wRestricted || f.rule.toList == wKnockR) ∧
    (f.mayB = true → (f.rule.toList == wPublic || f.rule.toList == wInvite || f.rule.toList == wKnock || f.rule.toList == wRestricted || f.rule.toList == wKnockR) = true) := by
  obtain ⟨to, self, first, sender, target, rule, auth, third, level, tl, inv, kick, ban⟩ := f
  simp only at hto hs hfi
  subst hto hs hfi
  have h1 : (⟨#[106, 111, 105, 110]⟩ : ByteArray).toList = wJoin := by rw [ByteArray.toList_eq]
  have h2 : (⟨#[112, 117, 98, 108, 105, 99]⟩ : ByteArray).toList = wPublic := by rw [ByteArray.toList_eq]
  have h3 : (⟨#[105, 110, 118, 105, 116, 101]⟩ : ByteArray).toList = wInvite := by rw [ByteArray.toList_eq]
  simp only [Fs.mayB, h1, h2, h3, if_true, Fs.joinB]
  refine ⟨trivial, by simp, ?_, ?_⟩
  · generalize rule.toList = r
    simp
    simp [Bool.or_assoc]
  · generalize rule.toList = r
    generalize target.toList = t
    simp
    grind

/-- What the worlds have in common in which h's fields are being set. -/
structure RC (w : World) (bG bH : Nat) (G : Array Value) (bF : Nat) (F : Array Value) (target rule : ByteArray) (auth : Bool) (w' : World) : Prop where
  below : Below w.heap.size w w'
  f : Row w' bF F
  g : Row w' bG G
  h : ∃ s a b c d e f, Row w' bH (#[.string ⟨#[106, 111, 105, 110]⟩, .bool true, .bool false, .string s, .string target, .string rule, .bool auth, .int .i64 a, .int .i64 b, .int .i64 c, .int .i64 d, .int .i64 e, .int .i64 f])

section
variable {w w' : World} {bG bH bF : Nat} {F G : Array Value} {target rule : ByteArray} {auth : Bool}
theorem RC.drew (h : RC w bG bH G bF F target rule auth w') : RC w bG bH G bF F target rule auth w'.drew :=
  ⟨h.below.drew, h.f.drew, h.g.drew, h.h⟩
theorem RC.str (h : RC w bG bH G bF F target rule auth w') (hn : w.heap.size ≤ bH) (h1 : bH ≠ bF) (h2 : bH ≠ bG) (x : ByteArray) : RC w bG bH G bF F target rule auth (w'.setCell ⟨bH, 3, none⟩ (.string x)) := by
  obtain ⟨hb, hf, hg, s, a, b, c, d, e, f, hh⟩ := h
  exact ⟨hb.setCell hn _, hf.other h1 _, hg.other h2 _, x, a, b, c, d, e, f, hh.set 3 _⟩
theorem RC.int7 (h : RC w bG bH G bF F target rule auth w') (hn : w.heap.size ≤ bH) (h1 : bH ≠ bF) (h2 : bH ≠ bG) (x : Int) : RC w bG bH G bF F target rule auth (w'.setCell ⟨bH, 7, none⟩ (.int .i64 x)) := by
  obtain ⟨hb, hf, hg, s, a, b, c, d, e, f, hh⟩ := h
  exact ⟨hb.setCell hn _, hf.other h1 _, hg.other h2 _, s, x, b, c, d, e, f, hh.set 7 _⟩
theorem RC.int8 (h : RC w bG bH G bF F target rule auth w') (hn : w.heap.size ≤ bH) (h1 : bH ≠ bF) (h2 : bH ≠ bG) (x : Int) : RC w bG bH G bF F target rule auth (w'.setCell ⟨bH, 8, none⟩ (.int .i64 x)) := by
  obtain ⟨hb, hf, hg, s, a, b, c, d, e, f, hh⟩ := h
  exact ⟨hb.setCell hn _, hf.other h1 _, hg.other h2 _, s, a, x, c, d, e, f, hh.set 8 _⟩
theorem RC.int9 (h : RC w bG bH G bF F target rule auth w') (hn : w.heap.size ≤ bH) (h1 : bH ≠ bF) (h2 : bH ≠ bG) (x : Int) : RC w bG bH G bF F target rule auth (w'.setCell ⟨bH, 9, none⟩ (.int .i64 x)) := by
  obtain ⟨hb, hf, hg, s, a, b, c, d, e, f, hh⟩ := h
  exact ⟨hb.setCell hn _, hf.other h1 _, hg.other h2 _, s, a, b, x, d, e, f, hh.set 9 _⟩
theorem RC.int10 (h : RC w bG bH G bF F target rule auth w') (hn : w.heap.size ≤ bH) (h1 : bH ≠ bF) (h2 : bH ≠ bG) (x : Int) : RC w bG bH G bF F target rule auth (w'.setCell ⟨bH, 10, none⟩ (.int .i64 x)) := by
  obtain ⟨hb, hf, hg, s, a, b, c, d, e, f, hh⟩ := h
  exact ⟨hb.setCell hn _, hf.other h1 _, hg.other h2 _, s, a, b, c, x, e, f, hh.set 10 _⟩
theorem RC.int11 (h : RC w bG bH G bF F target rule auth w') (hn : w.heap.size ≤ bH) (h1 : bH ≠ bF) (h2 : bH ≠ bG) (x : Int) : RC w bG bH G bF F target rule auth (w'.setCell ⟨bH, 11, none⟩ (.int .i64 x)) := by
  obtain ⟨hb, hf, hg, s, a, b, c, d, e, f, hh⟩ := h
  exact ⟨hb.setCell hn _, hf.other h1 _, hg.other h2 _, s, a, b, c, d, x, f, hh.set 11 _⟩
theorem RC.int12 (h : RC w bG bH G bF F target rule auth w') (hn : w.heap.size ≤ bH) (h1 : bH ≠ bF) (h2 : bH ≠ bG) (x : Int) : RC w bG bH G bF F target rule auth (w'.setCell ⟨bH, 12, none⟩ (.int .i64 x)) := by
  obtain ⟨hb, hf, hg, s, a, b, c, d, e, f, hh⟩ := h
  exact ⟨hb.setCell hn _, hf.other h1 _, hg.other h2 _, s, a, b, c, d, e, x, hh.set 12 _⟩
end

end Go.Proofs.Ytngohnckelceoaa
