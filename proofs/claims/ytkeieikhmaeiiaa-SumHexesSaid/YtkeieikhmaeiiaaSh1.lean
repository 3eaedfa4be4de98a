/- How a root's bits are tried. No condition. -/
import Derived.Test.YtkeieikhmaeiiaaCm
namespace Go.Proofs.Ytkeieikhmaeiiaa
open Go Go.RowKit
theorem wa (a b : Nat) : AV.int .u64 (IntKind.u64.wrap (Int.ofNat a + Int.ofNat b)) = AV.int .u64 (Int.ofNat ((a + b) % 18446744073709551616)) := congrArg (AV.int .u64) (wrap64 (a + b))
theorem wm (a b : Nat) : AV.int .u64 (IntKind.u64.wrap (Int.ofNat a * Int.ofNat b)) = AV.int .u64 (Int.ofNat ((a * b) % 18446744073709551616)) := congrArg (AV.int .u64) (wrap64 (a * b))
theorem wl (a b : Nat) : decide (Int.ofNat a < Int.ofNat b) = decide (a < b) := by
  by_cases h : a < b
  · rw [decide_eq_true h]; exact decide_eq_true (Int.ofNat_lt.2 h)
  · rw [decide_eq_false h]; exact decide_eq_false fun k => h (Int.ofNat_lt.1 k)
theorem dv_lt {a b : Nat} (ha : a < 18446744073709551616) (hb : b < 18446744073709551616) : a * b / 18446744073709551616 < 18446744073709551616 := Nat.div_lt_of_lt_mul (Nat.mul_lt_mul'' ha hb)
theorem ac_le {x y c : Nat} (hx : x < 18446744073709551616) (hy : y < 18446744073709551616) (hc : c ≤ 1) : ac x y c ≤ 1 := by unfold ac; omega
def qS34a (w l : Nat) : Nat := (l * l / 18446744073709551616)
def qS34b (w l : Nat) : Nat := (l * l % 18446744073709551616)
theorem qS34b_lt (w l : Nat) : qS34b w l < 18446744073709551616 := Nat.mod_lt _ (by decide)
def qS41 (w l : Nat) : Nat := (2 * w) % 18446744073709551616
theorem qS41_lt (w l : Nat) : qS41 w l < 18446744073709551616 := Nat.mod_lt _ (by decide)
def qS42a (w l : Nat) : Nat := (l * (qS41 w l) / 18446744073709551616)
def qS42b (w l : Nat) : Nat := (l * (qS41 w l) % 18446744073709551616)
theorem qS42b_lt (w l : Nat) : qS42b w l < 18446744073709551616 := Nat.mod_lt _ (by decide)
def qS48a (w l : Nat) : Nat := (ab (qS34a w l) (qS42b w l) 0)
theorem qS48a_lt (w l : Nat) : qS48a w l < 18446744073709551616 := Nat.mod_lt _ (by decide)
def qS48b (w l : Nat) : Nat := (ac (qS34a w l) (qS42b w l) 0)
def qS55 (w l : Nat) : Nat := (w * w) % 18446744073709551616
theorem qS55_lt (w l : Nat) : qS55 w l < 18446744073709551616 := Nat.mod_lt _ (by decide)
def qS57 (w l : Nat) : Nat := ((qS55 w l) + (qS42a w l)) % 18446744073709551616
theorem qS57_lt (w l : Nat) : qS57 w l < 18446744073709551616 := Nat.mod_lt _ (by decide)
def qS59 (w l : Nat) : Nat := ((qS57 w l) + (qS48b w l)) % 18446744073709551616
theorem qS59_lt (w l : Nat) : qS59 w l < 18446744073709551616 := Nat.mod_lt _ (by decide)
def belowS (p w l : Nat) : Bool := (decide ((qS59 w l) < p))
def h_belowS (p w l : Nat) : Hints := ⟨fun it t => match t with
  | 34 => bif eqIt [] it then some (.val (.tup [(.int .u64 (Int.ofNat (qS34a w l))), (.int .u64 (Int.ofNat (qS34b w l)))])) else none
  | 41 => bif eqIt [] it then some (.val (.int .u64 (Int.ofNat (qS41 w l)))) else none
  | 42 => bif eqIt [] it then some (.val (.tup [(.int .u64 (Int.ofNat (qS42a w l))), (.int .u64 (Int.ofNat (qS42b w l)))])) else none
  | 48 => bif eqIt [] it then some (.val (.tup [(.int .u64 (Int.ofNat (qS48a w l))), (.int .u64 (Int.ofNat (qS48b w l)))])) else none
  | 55 => bif eqIt [] it then some (.val (.int .u64 (Int.ofNat (qS55 w l)))) else none
  | 57 => bif eqIt [] it then some (.val (.int .u64 (Int.ofNat (qS57 w l)))) else none
  | 59 => bif eqIt [] it then some (.val (.int .u64 (Int.ofNat (qS59 w l)))) else none
  | 66 => bif eqIt [] it then some (.val (.bool (decide ((qS59 w l) < p)))) else none
  | _ => none, fun it id => match id, it with
  | _, _ => none⟩
theorem run_belowS (p w l : Nat) : specW Try.prog noD (cS Try.prog) (h_belowS p w l) 1000 64 [(.flat [(.int .u64 (Int.ofNat p)), (.int .u64 (Int.ofNat w)), (.bool false)]), (.int .u64 (Int.ofNat l))] [] (fun v M => v = (.bool (belowS p w l)) ∧ M = []) =
  ((l < 18446744073709551616 ∧ l < 18446744073709551616) ∧ (AV.tup [(.int .u64 (Int.ofNat (l * l / 18446744073709551616))), (.int .u64 (Int.ofNat (l * l % 18446744073709551616)))]) = (AV.tup [(.int .u64 (Int.ofNat (qS34a w l))), (.int .u64 (Int.ofNat (qS34b w l)))]) ∧ (AV.int .u64 (IntKind.u64.wrap ((2 : Int) * (Int.ofNat w)))) = (AV.int .u64 (Int.ofNat (qS41 w l))) ∧ (l < 18446744073709551616 ∧ (qS41 w l) < 18446744073709551616) ∧ (AV.tup [(.int .u64 (Int.ofNat (l * (qS41 w l) / 18446744073709551616))), (.int .u64 (Int.ofNat (l * (qS41 w l) % 18446744073709551616)))]) = (AV.tup [(.int .u64 (Int.ofNat (qS42a w l))), (.int .u64 (Int.ofNat (qS42b w l)))]) ∧ (AV.tup [(.int .u64 (Int.ofNat (ab (qS34a w l) (qS42b w l) 0))), (.int .u64 (Int.ofNat (ac (qS34a w l) (qS42b w l) 0)))]) = (AV.tup [(.int .u64 (Int.ofNat (qS48a w l))), (.int .u64 (Int.ofNat (qS48b w l)))]) ∧ (AV.int .u64 (IntKind.u64.wrap ((Int.ofNat w) * (Int.ofNat w)))) = (AV.int .u64 (Int.ofNat (qS55 w l))) ∧ (AV.int .u64 (IntKind.u64.wrap ((Int.ofNat (qS55 w l)) + (Int.ofNat (qS42a w l))))) = (AV.int .u64 (Int.ofNat (qS57 w l))) ∧ (AV.int .u64 (IntKind.u64.wrap ((Int.ofNat (qS57 w l)) + (Int.ofNat (qS48b w l))))) = (AV.int .u64 (Int.ofNat (qS59 w l))) ∧ (AV.bool (decide ((Int.ofNat (qS59 w l)) < (Int.ofNat p)))) = (AV.bool (decide ((qS59 w l) < p))) ∧ ((AV.bool (decide ((qS59 w l) < p))) = (AV.bool (belowS p w l)) ∧ ([] : Mem) = [])) := by kernel_rfl
theorem belowS_ok {p w l : Nat} (hyp : l < 18446744073709551616 ∧ w < 18446744073709551616) : ∃ D H N, specW Try.prog D (cS Try.prog) H N 64 [(.flat [(.int .u64 (Int.ofNat p)), (.int .u64 (Int.ofNat w)), (.bool false)]), (.int .u64 (Int.ofNat l))] [] fun v M => v = (.bool (belowS p w l)) ∧ M = [] := by
  obtain ⟨hl, hw⟩ := hyp
  refine ⟨noD, _, 1000, Eq.mpr (run_belowS p w l) ⟨⟨hl, hl⟩, rfl, (wm _ _), ⟨hl, (qS41_lt w l)⟩, rfl, rfl, (wm _ _), (wa _ _), (wa _ _), (aB (wl _ _)), ⟨rfl, rfl⟩⟩⟩
def qC34a (w l : Nat) : Nat := (l * l / 18446744073709551616)
def qC34b (w l : Nat) : Nat := (l * l % 18446744073709551616)
theorem qC34b_lt (w l : Nat) : qC34b w l < 18446744073709551616 := Nat.mod_lt _ (by decide)
def qC41 (w l : Nat) : Nat := (2 * w) % 18446744073709551616
theorem qC41_lt (w l : Nat) : qC41 w l < 18446744073709551616 := Nat.mod_lt _ (by decide)
def qC42a (w l : Nat) : Nat := (l * (qC41 w l) / 18446744073709551616)
def qC42b (w l : Nat) : Nat := (l * (qC41 w l) % 18446744073709551616)
theorem qC42b_lt (w l : Nat) : qC42b w l < 18446744073709551616 := Nat.mod_lt _ (by decide)
def qC48a (w l : Nat) : Nat := (ab (qC34a w l) (qC42b w l) 0)
theorem qC48a_lt (w l : Nat) : qC48a w l < 18446744073709551616 := Nat.mod_lt _ (by decide)
def qC48b (w l : Nat) : Nat := (ac (qC34a w l) (qC42b w l) 0)
def qC55 (w l : Nat) : Nat := (w * w) % 18446744073709551616
theorem qC55_lt (w l : Nat) : qC55 w l < 18446744073709551616 := Nat.mod_lt _ (by decide)
def qC57 (w l : Nat) : Nat := ((qC55 w l) + (qC42a w l)) % 18446744073709551616
theorem qC57_lt (w l : Nat) : qC57 w l < 18446744073709551616 := Nat.mod_lt _ (by decide)
def qC59 (w l : Nat) : Nat := ((qC57 w l) + (qC48b w l)) % 18446744073709551616
theorem qC59_lt (w l : Nat) : qC59 w l < 18446744073709551616 := Nat.mod_lt _ (by decide)
def qC70a (w l : Nat) : Nat := ((qC34b w l) * l / 18446744073709551616)
def qC70b (w l : Nat) : Nat := ((qC34b w l) * l % 18446744073709551616)
theorem qC70b_lt (w l : Nat) : qC70b w l < 18446744073709551616 := Nat.mod_lt _ (by decide)
def qC76a (w l : Nat) : Nat := ((qC48a w l) * l / 18446744073709551616)
def qC76b (w l : Nat) : Nat := ((qC48a w l) * l % 18446744073709551616)
theorem qC76b_lt (w l : Nat) : qC76b w l < 18446744073709551616 := Nat.mod_lt _ (by decide)
def qC83a (w l : Nat) : Nat := ((qC34b w l) * w / 18446744073709551616)
def qC83b (w l : Nat) : Nat := ((qC34b w l) * w % 18446744073709551616)
theorem qC83b_lt (w l : Nat) : qC83b w l < 18446744073709551616 := Nat.mod_lt _ (by decide)
def qC89a (w l : Nat) : Nat := ((qC59 w l) * l / 18446744073709551616)
def qC89b (w l : Nat) : Nat := ((qC59 w l) * l % 18446744073709551616)
theorem qC89b_lt (w l : Nat) : qC89b w l < 18446744073709551616 := Nat.mod_lt _ (by decide)
def qC96a (w l : Nat) : Nat := ((qC48a w l) * w / 18446744073709551616)
def qC96b (w l : Nat) : Nat := ((qC48a w l) * w % 18446744073709551616)
theorem qC96b_lt (w l : Nat) : qC96b w l < 18446744073709551616 := Nat.mod_lt _ (by decide)
def qC102a (w l : Nat) : Nat := (ab (qC70a w l) (qC76b w l) 0)
theorem qC102a_lt (w l : Nat) : qC102a w l < 18446744073709551616 := Nat.mod_lt _ (by decide)
def qC102b (w l : Nat) : Nat := (ac (qC70a w l) (qC76b w l) 0)
def qC108a (w l : Nat) : Nat := (ab (qC102a w l) (qC83b w l) 0)
theorem qC108a_lt (w l : Nat) : qC108a w l < 18446744073709551616 := Nat.mod_lt _ (by decide)
def qC108b (w l : Nat) : Nat := (ac (qC102a w l) (qC83b w l) 0)
def qC115a (w l : Nat) : Nat := (ab (qC76a w l) (qC83a w l) (qC102b w l))
theorem qC115a_lt (w l : Nat) : qC115a w l < 18446744073709551616 := Nat.mod_lt _ (by decide)
def qC115b (w l : Nat) : Nat := (ac (qC76a w l) (qC83a w l) (qC102b w l))
def qC122a (w l : Nat) : Nat := (ab (qC115a w l) (qC89b w l) (qC108b w l))
theorem qC122a_lt (w l : Nat) : qC122a w l < 18446744073709551616 := Nat.mod_lt _ (by decide)
def qC122b (w l : Nat) : Nat := (ac (qC115a w l) (qC89b w l) (qC108b w l))
def qC128a (w l : Nat) : Nat := (ab (qC122a w l) (qC96b w l) 0)
theorem qC128a_lt (w l : Nat) : qC128a w l < 18446744073709551616 := Nat.mod_lt _ (by decide)
def qC128b (w l : Nat) : Nat := (ac (qC122a w l) (qC96b w l) 0)
def qC134 (w l : Nat) : Nat := ((qC59 w l) * w) % 18446744073709551616
theorem qC134_lt (w l : Nat) : qC134 w l < 18446744073709551616 := Nat.mod_lt _ (by decide)
def qC136 (w l : Nat) : Nat := ((qC134 w l) + (qC89a w l)) % 18446744073709551616
theorem qC136_lt (w l : Nat) : qC136 w l < 18446744073709551616 := Nat.mod_lt _ (by decide)
def qC138 (w l : Nat) : Nat := ((qC136 w l) + (qC96a w l)) % 18446744073709551616
theorem qC138_lt (w l : Nat) : qC138 w l < 18446744073709551616 := Nat.mod_lt _ (by decide)
def qC140 (w l : Nat) : Nat := ((qC138 w l) + (qC115b w l)) % 18446744073709551616
theorem qC140_lt (w l : Nat) : qC140 w l < 18446744073709551616 := Nat.mod_lt _ (by decide)
def qC142 (w l : Nat) : Nat := ((qC140 w l) + (qC122b w l)) % 18446744073709551616
theorem qC142_lt (w l : Nat) : qC142 w l < 18446744073709551616 := Nat.mod_lt _ (by decide)
def qC144 (w l : Nat) : Nat := ((qC142 w l) + (qC128b w l)) % 18446744073709551616
theorem qC144_lt (w l : Nat) : qC144 w l < 18446744073709551616 := Nat.mod_lt _ (by decide)
def belowC (p w l : Nat) : Bool := (decide ((qC144 w l) < p))
def h_belowC (p w l : Nat) : Hints := ⟨fun it t => match t with
  | 34 => bif eqIt [] it then some (.val (.tup [(.int .u64 (Int.ofNat (qC34a w l))), (.int .u64 (Int.ofNat (qC34b w l)))])) else none
  | 41 => bif eqIt [] it then some (.val (.int .u64 (Int.ofNat (qC41 w l)))) else none
  | 42 => bif eqIt [] it then some (.val (.tup [(.int .u64 (Int.ofNat (qC42a w l))), (.int .u64 (Int.ofNat (qC42b w l)))])) else none
  | 48 => bif eqIt [] it then some (.val (.tup [(.int .u64 (Int.ofNat (qC48a w l))), (.int .u64 (Int.ofNat (qC48b w l)))])) else none
  | 55 => bif eqIt [] it then some (.val (.int .u64 (Int.ofNat (qC55 w l)))) else none
  | 57 => bif eqIt [] it then some (.val (.int .u64 (Int.ofNat (qC57 w l)))) else none
  | 59 => bif eqIt [] it then some (.val (.int .u64 (Int.ofNat (qC59 w l)))) else none
  | 70 => bif eqIt [] it then some (.val (.tup [(.int .u64 (Int.ofNat (qC70a w l))), (.int .u64 (Int.ofNat (qC70b w l)))])) else none
  | 76 => bif eqIt [] it then some (.val (.tup [(.int .u64 (Int.ofNat (qC76a w l))), (.int .u64 (Int.ofNat (qC76b w l)))])) else none
  | 83 => bif eqIt [] it then some (.val (.tup [(.int .u64 (Int.ofNat (qC83a w l))), (.int .u64 (Int.ofNat (qC83b w l)))])) else none
  | 89 => bif eqIt [] it then some (.val (.tup [(.int .u64 (Int.ofNat (qC89a w l))), (.int .u64 (Int.ofNat (qC89b w l)))])) else none
  | 96 => bif eqIt [] it then some (.val (.tup [(.int .u64 (Int.ofNat (qC96a w l))), (.int .u64 (Int.ofNat (qC96b w l)))])) else none
  | 102 => bif eqIt [] it then some (.val (.tup [(.int .u64 (Int.ofNat (qC102a w l))), (.int .u64 (Int.ofNat (qC102b w l)))])) else none
  | 108 => bif eqIt [] it then some (.val (.tup [(.int .u64 (Int.ofNat (qC108a w l))), (.int .u64 (Int.ofNat (qC108b w l)))])) else none
  | 115 => bif eqIt [] it then some (.askv (.tup [(.int .u64 (Int.ofNat (qC115a w l))), (.int .u64 (Int.ofNat (qC115b w l)))])) else none
  | 122 => bif eqIt [] it then some (.askv (.tup [(.int .u64 (Int.ofNat (qC122a w l))), (.int .u64 (Int.ofNat (qC122b w l)))])) else none
  | 128 => bif eqIt [] it then some (.val (.tup [(.int .u64 (Int.ofNat (qC128a w l))), (.int .u64 (Int.ofNat (qC128b w l)))])) else none
  | 134 => bif eqIt [] it then some (.val (.int .u64 (Int.ofNat (qC134 w l)))) else none
  | 136 => bif eqIt [] it then some (.val (.int .u64 (Int.ofNat (qC136 w l)))) else none
  | 138 => bif eqIt [] it then some (.val (.int .u64 (Int.ofNat (qC138 w l)))) else none
  | 140 => bif eqIt [] it then some (.val (.int .u64 (Int.ofNat (qC140 w l)))) else none
  | 142 => bif eqIt [] it then some (.val (.int .u64 (Int.ofNat (qC142 w l)))) else none
  | 144 => bif eqIt [] it then some (.val (.int .u64 (Int.ofNat (qC144 w l)))) else none
  | 147 => bif eqIt [] it then some (.val (.bool (decide ((qC144 w l) < p)))) else none
  | _ => none, fun it id => match id, it with
  | _, _ => none⟩
theorem run_belowC (p w l : Nat) : specW Try.prog noD (cS Try.prog) (h_belowC p w l) 1000 64 [(.flat [(.int .u64 (Int.ofNat p)), (.int .u64 (Int.ofNat w)), (.bool true)]), (.int .u64 (Int.ofNat l))] [] (fun v M => v = (.bool (belowC p w l)) ∧ M = []) =
  ((l < 18446744073709551616 ∧ l < 18446744073709551616) ∧ (AV.tup [(.int .u64 (Int.ofNat (l * l / 18446744073709551616))), (.int .u64 (Int.ofNat (l * l % 18446744073709551616)))]) = (AV.tup [(.int .u64 (Int.ofNat (qC34a w l))), (.int .u64 (Int.ofNat (qC34b w l)))]) ∧ (AV.int .u64 (IntKind.u64.wrap ((2 : Int) * (Int.ofNat w)))) = (AV.int .u64 (Int.ofNat (qC41 w l))) ∧ (l < 18446744073709551616 ∧ (qC41 w l) < 18446744073709551616) ∧ (AV.tup [(.int .u64 (Int.ofNat (l * (qC41 w l) / 18446744073709551616))), (.int .u64 (Int.ofNat (l * (qC41 w l) % 18446744073709551616)))]) = (AV.tup [(.int .u64 (Int.ofNat (qC42a w l))), (.int .u64 (Int.ofNat (qC42b w l)))]) ∧ (AV.tup [(.int .u64 (Int.ofNat (ab (qC34a w l) (qC42b w l) 0))), (.int .u64 (Int.ofNat (ac (qC34a w l) (qC42b w l) 0)))]) = (AV.tup [(.int .u64 (Int.ofNat (qC48a w l))), (.int .u64 (Int.ofNat (qC48b w l)))]) ∧ (AV.int .u64 (IntKind.u64.wrap ((Int.ofNat w) * (Int.ofNat w)))) = (AV.int .u64 (Int.ofNat (qC55 w l))) ∧ (AV.int .u64 (IntKind.u64.wrap ((Int.ofNat (qC55 w l)) + (Int.ofNat (qC42a w l))))) = (AV.int .u64 (Int.ofNat (qC57 w l))) ∧ (AV.int .u64 (IntKind.u64.wrap ((Int.ofNat (qC57 w l)) + (Int.ofNat (qC48b w l))))) = (AV.int .u64 (Int.ofNat (qC59 w l))) ∧ ((qC34b w l) < 18446744073709551616 ∧ l < 18446744073709551616) ∧ (AV.tup [(.int .u64 (Int.ofNat ((qC34b w l) * l / 18446744073709551616))), (.int .u64 (Int.ofNat ((qC34b w l) * l % 18446744073709551616)))]) = (AV.tup [(.int .u64 (Int.ofNat (qC70a w l))), (.int .u64 (Int.ofNat (qC70b w l)))]) ∧ ((qC48a w l) < 18446744073709551616 ∧ l < 18446744073709551616) ∧ (AV.tup [(.int .u64 (Int.ofNat ((qC48a w l) * l / 18446744073709551616))), (.int .u64 (Int.ofNat ((qC48a w l) * l % 18446744073709551616)))]) = (AV.tup [(.int .u64 (Int.ofNat (qC76a w l))), (.int .u64 (Int.ofNat (qC76b w l)))]) ∧ ((qC34b w l) < 18446744073709551616 ∧ w < 18446744073709551616) ∧ (AV.tup [(.int .u64 (Int.ofNat ((qC34b w l) * w / 18446744073709551616))), (.int .u64 (Int.ofNat ((qC34b w l) * w % 18446744073709551616)))]) = (AV.tup [(.int .u64 (Int.ofNat (qC83a w l))), (.int .u64 (Int.ofNat (qC83b w l)))]) ∧ ((qC59 w l) < 18446744073709551616 ∧ l < 18446744073709551616) ∧ (AV.tup [(.int .u64 (Int.ofNat ((qC59 w l) * l / 18446744073709551616))), (.int .u64 (Int.ofNat ((qC59 w l) * l % 18446744073709551616)))]) = (AV.tup [(.int .u64 (Int.ofNat (qC89a w l))), (.int .u64 (Int.ofNat (qC89b w l)))]) ∧ ((qC48a w l) < 18446744073709551616 ∧ w < 18446744073709551616) ∧ (AV.tup [(.int .u64 (Int.ofNat ((qC48a w l) * w / 18446744073709551616))), (.int .u64 (Int.ofNat ((qC48a w l) * w % 18446744073709551616)))]) = (AV.tup [(.int .u64 (Int.ofNat (qC96a w l))), (.int .u64 (Int.ofNat (qC96b w l)))]) ∧ (AV.tup [(.int .u64 (Int.ofNat (ab (qC70a w l) (qC76b w l) 0))), (.int .u64 (Int.ofNat (ac (qC70a w l) (qC76b w l) 0)))]) = (AV.tup [(.int .u64 (Int.ofNat (qC102a w l))), (.int .u64 (Int.ofNat (qC102b w l)))]) ∧ (AV.tup [(.int .u64 (Int.ofNat (ab (qC102a w l) (qC83b w l) 0))), (.int .u64 (Int.ofNat (ac (qC102a w l) (qC83b w l) 0)))]) = (AV.tup [(.int .u64 (Int.ofNat (qC108a w l))), (.int .u64 (Int.ofNat (qC108b w l)))]) ∧ ((qC102b w l) ≤ 1) ∧ (AV.tup [(.int .u64 (Int.ofNat (ab (qC76a w l) (qC83a w l) (qC102b w l)))), (.int .u64 (Int.ofNat (ac (qC76a w l) (qC83a w l) (qC102b w l))))]) = (AV.tup [(.int .u64 (Int.ofNat (qC115a w l))), (.int .u64 (Int.ofNat (qC115b w l)))]) ∧ ((qC108b w l) ≤ 1) ∧ (AV.tup [(.int .u64 (Int.ofNat (ab (qC115a w l) (qC89b w l) (qC108b w l)))), (.int .u64 (Int.ofNat (ac (qC115a w l) (qC89b w l) (qC108b w l))))]) = (AV.tup [(.int .u64 (Int.ofNat (qC122a w l))), (.int .u64 (Int.ofNat (qC122b w l)))]) ∧ (AV.tup [(.int .u64 (Int.ofNat (ab (qC122a w l) (qC96b w l) 0))), (.int .u64 (Int.ofNat (ac (qC122a w l) (qC96b w l) 0)))]) = (AV.tup [(.int .u64 (Int.ofNat (qC128a w l))), (.int .u64 (Int.ofNat (qC128b w l)))]) ∧ (AV.int .u64 (IntKind.u64.wrap ((Int.ofNat (qC59 w l)) * (Int.ofNat w)))) = (AV.int .u64 (Int.ofNat (qC134 w l))) ∧ (AV.int .u64 (IntKind.u64.wrap ((Int.ofNat (qC134 w l)) + (Int.ofNat (qC89a w l))))) = (AV.int .u64 (Int.ofNat (qC136 w l))) ∧ (AV.int .u64 (IntKind.u64.wrap ((Int.ofNat (qC136 w l)) + (Int.ofNat (qC96a w l))))) = (AV.int .u64 (Int.ofNat (qC138 w l))) ∧ (AV.int .u64 (IntKind.u64.wrap ((Int.ofNat (qC138 w l)) + (Int.ofNat (qC115b w l))))) = (AV.int .u64 (Int.ofNat (qC140 w l))) ∧ (AV.int .u64 (IntKind.u64.wrap ((Int.ofNat (qC140 w l)) + (Int.ofNat (qC122b w l))))) = (AV.int .u64 (Int.ofNat (qC142 w l))) ∧ (AV.int .u64 (IntKind.u64.wrap ((Int.ofNat (qC142 w l)) + (Int.ofNat (qC128b w l))))) = (AV.int .u64 (Int.ofNat (qC144 w l))) ∧ (AV.bool (decide ((Int.ofNat (qC144 w l)) < (Int.ofNat p)))) = (AV.bool (decide ((qC144 w l) < p))) ∧ ((AV.bool (decide ((qC144 w l) < p))) = (AV.bool (belowC p w l)) ∧ ([] : Mem) = [])) := by kernel_rfl
theorem belowC_ok {p w l : Nat} (hyp : l < 18446744073709551616 ∧ w < 18446744073709551616) : ∃ D H N, specW Try.prog D (cS Try.prog) H N 64 [(.flat [(.int .u64 (Int.ofNat p)), (.int .u64 (Int.ofNat w)), (.bool true)]), (.int .u64 (Int.ofNat l))] [] fun v M => v = (.bool (belowC p w l)) ∧ M = [] := by
  obtain ⟨hl, hw⟩ := hyp
  refine ⟨noD, _, 1000, Eq.mpr (run_belowC p w l) ⟨⟨hl, hl⟩, rfl, (wm _ _), ⟨hl, (qC41_lt w l)⟩, rfl, rfl, (wm _ _), (wa _ _), (wa _ _), ⟨(qC34b_lt w l), hl⟩, rfl, ⟨(qC48a_lt w l), hl⟩, rfl, ⟨(qC34b_lt w l), hw⟩, rfl, ⟨(qC59_lt w l), hl⟩, rfl, ⟨(qC48a_lt w l), hw⟩, rfl, rfl, rfl, (ac_le (dv_lt (qC34b_lt w l) hl) (qC76b_lt w l) (by decide)), rfl, (ac_le (qC102a_lt w l) (qC83b_lt w l) (by decide)), rfl, rfl, (wm _ _), (wa _ _), (wa _ _), (wa _ _), (wa _ _), (wa _ _), (aB (wl _ _)), ⟨rfl, rfl⟩⟩⟩
end Go.Proofs.Ytkeieikhmaeiiaa
