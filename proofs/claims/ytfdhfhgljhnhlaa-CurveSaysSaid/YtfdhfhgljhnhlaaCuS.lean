/- What CurveSays reckons. No condition. -/
import Derived.Test.YtfdhfhgljhnhlaaCuB
namespace Go.Proofs.Ytfdhfhgljhnhlaa
open Go Go.RowKit
def h_csays (la lb lk : List Int) : Hints := ⟨fun it t => match t with
  | 29 => bif eqIt [] it then some .ask else none
  | 30 => bif eqIt [] it then some .ask else none
  | 100007 => bif eqIt [] it then some .ask else none
  | 100008 => bif eqIt [] it then some .ask else none
  | 32 => bif eqIt [] it then some .ask else none
  | 100009 => bif eqIt [] it then some .ask else none
  | 100010 => bif eqIt [] it then some .ask else none
  | 38 => bif eqIt [] it then some .ask else none
  | 100012 => bif eqIt [] it then some .ask else none
  | 100013 => bif eqIt [] it then some .ask else none
  | 44 => bif eqIt [] it then some .ask else none
  | 45 => bif eqIt [] it then some .ask else none
  | 100015 => bif eqIt [] it then some .ask else none
  | 50 => bif eqIt [] it then some .ask else none
  | 51 => bif eqIt [] it then some .ask else none
  | 100017 => bif eqIt [] it then some .ask else none
  | 56 => bif eqIt [] it then some .ask else none
  | 100019 => bif eqIt [] it then some .ask else none
  | 61 => bif eqIt [] it then some .ask else none
  | 100021 => bif eqIt [] it then some .ask else none
  | 66 => bif eqIt [] it then some .ask else none
  | 67 => bif eqIt [] it then some .ask else none
  | 100023 => bif eqIt [] it then some .ask else none
  | 72 => bif eqIt [] it then some .ask else none
  | 73 => bif eqIt [] it then some .ask else none
  | 100025 => bif eqIt [] it then some .ask else none
  | 77 => bif eqIt [] it then some .ask else none
  | 79 => bif eqIt [] it then some .ask else none
  | 81 => bif eqIt [] it then some (.val (.bool true)) else none
  | 83 => bif eqIt [] it then some .ask else none
  | 84 => bif eqIt [] it then some .ask else none
  | 85 => bif eqIt [] it then some (.askv (.bool true)) else none
  | 88 => bif eqIt [] it then some .ask else none
  | 89 => bif eqIt [] it then some .ask else none
  | 90 => bif eqIt [] it then some (.askv (.bool true)) else none
  | 95 => bif eqIt [] it then some (.val (.bool true)) else none
  | 98 => bif eqIt [] it then some .ask else none
  | 99 => bif eqIt [] it then some .ask else none
  | 100 => bif eqIt [] it then some (.askv (.bool true)) else none
  | 105 => bif eqIt [] it then some (.val (.bool true)) else none
  | 108 => bif eqIt [] it then some .ask else none
  | 109 => bif eqIt [] it then some .ask else none
  | 110 => bif eqIt [] it then some (.askv (.bool true)) else none
  | 115 => bif eqIt [] it then some (.val (.bool true)) else none
  | 118 => bif eqIt [] it then some .ask else none
  | 119 => bif eqIt [] it then some .ask else none
  | 120 => bif eqIt [] it then some (.askv (.bool true)) else none
  | 125 => bif eqIt [] it then some (.val (.bool true)) else none
  | _ => none, fun it id => match id, it with
  | _, _ => none⟩
set_option maxRecDepth 100000 in
theorem run_csays (la lb lk : List Int) : specW Try.prog noD (cC7 Try.prog) (h_csays la lb lk) 1000 8 [(.nums .u8 la), (.nums .u8 lb), (.nums .u8 lk)] [] (fun v _ => v = .bool true) =
  ((0 = 0 ∧ la.length = 32) ∧ (0 = 0 ∧ lb.length = 32) ∧ (IntKind.u8 = IntKind.u8 ∧ 0 = 0 ∧ la.length = 32 ∧ ([0, 0, 0, 0, 0, 0, 0, 0, 0, 0, 0, 0, 0, 0, 0, 0, 0, 0, 0, 0, 0, 0, 0, 0, 0, 0, 0, 0, 0, 0, 0, 0] : List Int).length = 32) ∧ (IntKind.u8 = IntKind.u8 ∧ 0 = 0 ∧ lb.length = 32 ∧ ([0, 0, 0, 0, 0, 0, 0, 0, 0, 0, 0, 0, 0, 0, 0, 0, 0, 0, 0, 0, 0, 0, 0, 0, 0, 0, 0, 0, 0, 0, 0, 0] : List Int).length = 32) ∧ (0 = 0 ∧ la.length = 32) ∧ (By la) ∧ (IntKind.u8 = IntKind.u8 ∧ 0 = 0 ∧ (B32 (sxN (V la))).length = 32 ∧ ([0, 0, 0, 0, 0, 0, 0, 0, 0, 0, 0, 0, 0, 0, 0, 0, 0, 0, 0, 0, 0, 0, 0, 0, 0, 0, 0, 0, 0, 0, 0, 0] : List Int).length = 32) ∧ (IntKind.u8 = IntKind.u8 ∧ 0 = 0 ∧ (B32 (syN (V la))).length = 32 ∧ ([0, 0, 0, 0, 0, 0, 0, 0, 0, 0, 0, 0, 0, 0, 0, 0, 0, 0, 0, 0, 0, 0, 0, 0, 0, 0, 0, 0, 0, 0, 0, 0] : List Int).length = 32) ∧ (0 = 0 ∧ la.length = 32) ∧ (By la) ∧ (IntKind.u8 = IntKind.u8 ∧ 0 = 0 ∧ (B32 (sxN (V la))).length = 32 ∧ ([0, 0, 0, 0, 0, 0, 0, 0, 0, 0, 0, 0, 0, 0, 0, 0, 0, 0, 0, 0, 0, 0, 0, 0, 0, 0, 0, 0, 0, 0, 0, 0] : List Int).length = 32) ∧ (IntKind.u8 = IntKind.u8 ∧ 0 = 0 ∧ (B32 (syN (V la))).length = 32 ∧ ([0, 0, 0, 0, 0, 0, 0, 0, 0, 0, 0, 0, 0, 0, 0, 0, 0, 0, 0, 0, 0, 0, 0, 0, 0, 0, 0, 0, 0, 0, 0, 0] : List Int).length = 32) ∧ (0 = 0 ∧ la.length = 32) ∧ (0 = 0 ∧ lb.length = 32) ∧ (By la ∧ By lb) ∧ (IntKind.u8 = IntKind.u8 ∧ 0 = 0 ∧ (B32 (addE (V la) (V lb))).length = 32 ∧ ([0, 0, 0, 0, 0, 0, 0, 0, 0, 0, 0, 0, 0, 0, 0, 0, 0, 0, 0, 0, 0, 0, 0, 0, 0, 0, 0, 0, 0, 0, 0, 0] : List Int).length = 32) ∧ (0 = 0 ∧ la.length = 32) ∧ (0 = 0 ∧ lb.length = 32) ∧ (By la ∧ By lb) ∧ (IntKind.u8 = IntKind.u8 ∧ 0 = 0 ∧ (B32 (addE (V la) (V lb))).length = 32 ∧ ([0, 0, 0, 0, 0, 0, 0, 0, 0, 0, 0, 0, 0, 0, 0, 0, 0, 0, 0, 0, 0, 0, 0, 0, 0, 0, 0, 0, 0, 0, 0, 0] : List Int).length = 32) ∧ (0 = 0 ∧ la.length = 32) ∧ (By la) ∧ (IntKind.u8 = IntKind.u8 ∧ 0 = 0 ∧ (B32 (negE (V la))).length = 32 ∧ ([0, 0, 0, 0, 0, 0, 0, 0, 0, 0, 0, 0, 0, 0, 0, 0, 0, 0, 0, 0, 0, 0, 0, 0, 0, 0, 0, 0, 0, 0, 0, 0] : List Int).length = 32) ∧ (0 = 0 ∧ la.length = 32) ∧ (By la) ∧ (IntKind.u8 = IntKind.u8 ∧ 0 = 0 ∧ (B32 (negE (V la))).length = 32 ∧ ([0, 0, 0, 0, 0, 0, 0, 0, 0, 0, 0, 0, 0, 0, 0, 0, 0, 0, 0, 0, 0, 0, 0, 0, 0, 0, 0, 0, 0, 0, 0, 0] : List Int).length = 32) ∧ (0 = 0 ∧ lk.length = 32) ∧ (0 = 0 ∧ la.length = 32) ∧ (By lk ∧ By la) ∧ (IntKind.u8 = IntKind.u8 ∧ 0 = 0 ∧ (B32 (timesE (V lk) (V la))).length = 32 ∧ ([0, 0, 0, 0, 0, 0, 0, 0, 0, 0, 0, 0, 0, 0, 0, 0, 0, 0, 0, 0, 0, 0, 0, 0, 0, 0, 0, 0, 0, 0, 0, 0] : List Int).length = 32) ∧ (0 = 0 ∧ lk.length = 32) ∧ (0 = 0 ∧ la.length = 32) ∧ (By lk ∧ By la) ∧ (IntKind.u8 = IntKind.u8 ∧ 0 = 0 ∧ (B32 (timesE (V lk) (V la))).length = 32 ∧ ([0, 0, 0, 0, 0, 0, 0, 0, 0, 0, 0, 0, 0, 0, 0, 0, 0, 0, 0, 0, 0, 0, 0, 0, 0, 0, 0, 0, 0, 0, 0, 0] : List Int).length = 32) ∧ (0 = 0 ∧ la.length = 32) ∧ (By la) ∧ (0 = 0 ∧ la.length = 32) ∧ (By la) ∧ (AV.bool ((okN (V la)) == (okN (V la)))) = (AV.bool true) ∧ (0 = 0 ∧ (B32 (sxN (V la))).length = 32) ∧ (0 = 0 ∧ (B32 (sxN (V la))).length = 32) ∧ (IntKind.u8 = IntKind.u8 ∧ (B32 (sxN (V la))).length = 32 ∧ (B32 (sxN (V la))).length = 32) ∧ (AV.bool (bif false then !((B32 (sxN (V la))) == (B32 (sxN (V la)))) else ((B32 (sxN (V la))) == (B32 (sxN (V la)))))) = (AV.bool true) ∧ (0 = 0 ∧ (B32 (syN (V la))).length = 32) ∧ (0 = 0 ∧ (B32 (syN (V la))).length = 32) ∧ (IntKind.u8 = IntKind.u8 ∧ (B32 (syN (V la))).length = 32 ∧ (B32 (syN (V la))).length = 32) ∧ (AV.bool (bif false then !((B32 (syN (V la))) == (B32 (syN (V la)))) else ((B32 (syN (V la))) == (B32 (syN (V la)))))) = (AV.bool true) ∧ (AV.bool ((okN (V la)) == (okN (V la)))) = (AV.bool true) ∧ (0 = 0 ∧ (B32 (addE (V la) (V lb))).length = 32) ∧ (0 = 0 ∧ (B32 (addE (V la) (V lb))).length = 32) ∧ (IntKind.u8 = IntKind.u8 ∧ (B32 (addE (V la) (V lb))).length = 32 ∧ (B32 (addE (V la) (V lb))).length = 32) ∧ (AV.bool (bif false then !((B32 (addE (V la) (V lb))) == (B32 (addE (V la) (V lb)))) else ((B32 (addE (V la) (V lb))) == (B32 (addE (V la) (V lb)))))) = (AV.bool true) ∧ (AV.bool (((okN (V la)) && (okN (V lb))) == ((okN (V la)) && (okN (V lb))))) = (AV.bool true) ∧ (0 = 0 ∧ (B32 (negE (V la))).length = 32) ∧ (0 = 0 ∧ (B32 (negE (V la))).length = 32) ∧ (IntKind.u8 = IntKind.u8 ∧ (B32 (negE (V la))).length = 32 ∧ (B32 (negE (V la))).length = 32) ∧ (AV.bool (bif false then !((B32 (negE (V la))) == (B32 (negE (V la)))) else ((B32 (negE (V la))) == (B32 (negE (V la)))))) = (AV.bool true) ∧ (AV.bool ((okN (V la)) == (okN (V la)))) = (AV.bool true) ∧ (0 = 0 ∧ (B32 (timesE (V lk) (V la))).length = 32) ∧ (0 = 0 ∧ (B32 (timesE (V lk) (V la))).length = 32) ∧ (IntKind.u8 = IntKind.u8 ∧ (B32 (timesE (V lk) (V la))).length = 32 ∧ (B32 (timesE (V lk) (V la))).length = 32) ∧ (AV.bool (bif false then !((B32 (timesE (V lk) (V la))) == (B32 (timesE (V lk) (V la)))) else ((B32 (timesE (V lk) (V la))) == (B32 (timesE (V lk) (V la)))))) = (AV.bool true) ∧ (AV.bool ((okN (V la)) == (okN (V la)))) = (AV.bool true) ∧ (AV.bool true) = (AV.bool true)) := by kernel_rfl
theorem csays_W {la lb lk : List Int} (ha : By la) (hb : By lb) (hk : By lk) : ∃ D H N, specW Try.prog D (cC7 Try.prog) H N 8 [(.nums .u8 la), (.nums .u8 lb), (.nums .u8 lk)] [] fun v _ => v = .bool true := by
  refine ⟨noD, _, 1000, Eq.mpr (run_csays la lb lk) ⟨⟨rfl, ha.1⟩, ⟨rfl, hb.1⟩, ⟨rfl, rfl, ha.1, rfl⟩, ⟨rfl, rfl, hb.1, rfl⟩, ⟨rfl, ha.1⟩, ha, ⟨rfl, rfl, B32_len _, rfl⟩, ⟨rfl, rfl, B32_len _, rfl⟩, ⟨rfl, ha.1⟩, ha, ⟨rfl, rfl, B32_len _, rfl⟩, ⟨rfl, rfl, B32_len _, rfl⟩, ⟨rfl, ha.1⟩, ⟨rfl, hb.1⟩, ⟨ha, hb⟩, ⟨rfl, rfl, B32_len _, rfl⟩, ⟨rfl, ha.1⟩, ⟨rfl, hb.1⟩, ⟨ha, hb⟩, ⟨rfl, rfl, B32_len _, rfl⟩, ⟨rfl, ha.1⟩, ha, ⟨rfl, rfl, B32_len _, rfl⟩, ⟨rfl, ha.1⟩, ha, ⟨rfl, rfl, B32_len _, rfl⟩, ⟨rfl, hk.1⟩, ⟨rfl, ha.1⟩, ⟨hk, ha⟩, ⟨rfl, rfl, B32_len _, rfl⟩, ⟨rfl, hk.1⟩, ⟨rfl, ha.1⟩, ⟨hk, ha⟩, ⟨rfl, rfl, B32_len _, rfl⟩, ⟨rfl, ha.1⟩, ha, ⟨rfl, ha.1⟩, ha, ?_, ⟨rfl, B32_len _⟩, ⟨rfl, B32_len _⟩, ⟨rfl, B32_len _, B32_len _⟩, ?_, ⟨rfl, B32_len _⟩, ⟨rfl, B32_len _⟩, ⟨rfl, B32_len _, B32_len _⟩, ?_, ?_, ⟨rfl, B32_len _⟩, ⟨rfl, B32_len _⟩, ⟨rfl, B32_len _, B32_len _⟩, ?_, ?_, ⟨rfl, B32_len _⟩, ⟨rfl, B32_len _⟩, ⟨rfl, B32_len _, B32_len _⟩, ?_, ?_, ⟨rfl, B32_len _⟩, ⟨rfl, B32_len _⟩, ⟨rfl, B32_len _, B32_len _⟩, ?_, ?_, rfl⟩⟩
  all_goals exact beqF rfl
end Go.Proofs.Ytfdhfhgljhnhlaa
