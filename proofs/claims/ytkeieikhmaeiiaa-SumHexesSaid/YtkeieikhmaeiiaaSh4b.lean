/- Bits of a number as a list of truth values. No condition. -/
import Derived.Test.YtkeieikhmaeiiaaSh4
namespace Go.Proofs.Ytkeieikhmaeiiaa
open Go Go.RowKit
def bl410 (m : Nat) : List SV := (List.range 410).map fun i => .bool (m.testBit i)
theorem bl410_len (m : Nat) : (bl410 m).length = 410 := by simp [bl410]
theorem bl410_get {m i : Nat} (h : i < 410) : (bl410 m)[i]? = some (.bool (m.testBit i)) := by
  simp [bl410, List.getElem?_map, List.getElem?_range h]
theorem bl410_set {m q : Nat} (h : q < 410) : (bl410 m).set q (.bool true) = bl410 (m ||| 2 ^ q) := by
  apply List.ext_getElem?
  intro i
  by_cases hi : i < 410
  · rw [bl410_get hi, List.getElem?_set]
    by_cases hq : q = i
    · subst hq; simp [bl410_len, h, Nat.testBit_or, Nat.testBit_two_pow_self]
    · rw [if_neg hq, bl410_get hi, Nat.testBit_or, Nat.testBit_two_pow_of_ne hq, Bool.or_false]
  · rw [List.getElem?_eq_none (by simp [bl410_len]; omega), List.getElem?_eq_none (by simp [bl410_len]; omega)]
end Go.Proofs.Ytkeieikhmaeiiaa
