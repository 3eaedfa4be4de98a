/- What CurveEight reckons. No condition. -/
import Derived.Test.YtfdhfhgljhnhlaaCuB
namespace Go.Proofs.Ytfdhfhgljhnhlaa
open Go Go.RowKit
noncomputable def h_c8A (la : List Int) : Hints := ⟨fun it t => match t with
  | 18 => bif eqIt [] it then some .ask else none
  | 100003 => bif eqIt [] it then some .ask else none
  | 21 => bif eqIt [] it then some .ask else none
  | 22 => bif eqIt [] it then some (.val (.tup [(.nums .u8 (B32 (timesE 1 (V la)))), (.bool false)])) else none
  | 100004 => bif eqIt [] it then some .ask else none
  | 25 => bif eqIt [] it then some .ask else none
  | 26 => bif eqIt [] it then some (.val (.bool false)) else none
  | 31 => bif eqIt [] it then some .ask else none
  | 33 => bif eqIt [] it then some (.askv (.bool true)) else none
  | _ => none, fun it id => match id, it with
  | _, _ => none⟩
set_option maxRecDepth 100000 in
theorem run_c8A (la : List Int) : specW Try.prog noD (cC7 Try.prog) (h_c8A la) 1000 5 [(.nums .u8 la)] [] (fun v _ => v = .bool true) =
  ((0 = 0 ∧ la.length = 32) ∧ (IntKind.u8 = IntKind.u8 ∧ 0 = 0 ∧ la.length = 32 ∧ ([0, 0, 0, 0, 0, 0, 0, 0, 0, 0, 0, 0, 0, 0, 0, 0, 0, 0, 0, 0, 0, 0, 0, 0, 0, 0, 0, 0, 0, 0, 0, 0] : List Int).length = 32) ∧ (0 = 0 ∧ la.length = 32) ∧ (By ([1, 0, 0, 0, 0, 0, 0, 0, 0, 0, 0, 0, 0, 0, 0, 0, 0, 0, 0, 0, 0, 0, 0, 0, 0, 0, 0, 0, 0, 0, 0, 0] : List Int) ∧ By la) ∧ (AV.tup [(.nums .u8 (B32 (timesE (V ([1, 0, 0, 0, 0, 0, 0, 0, 0, 0, 0, 0, 0, 0, 0, 0, 0, 0, 0, 0, 0, 0, 0, 0, 0, 0, 0, 0, 0, 0, 0, 0] : List Int)) (V la)))), (.bool (okN (V la)))]) = (AV.tup [(.nums .u8 (B32 (timesE 1 (V la)))), (.bool false)]) ∧ (IntKind.u8 = IntKind.u8 ∧ 0 = 0 ∧ (B32 (timesE 1 (V la))).length = 32 ∧ ([0, 0, 0, 0, 0, 0, 0, 0, 0, 0, 0, 0, 0, 0, 0, 0, 0, 0, 0, 0, 0, 0, 0, 0, 0, 0, 0, 0, 0, 0, 0, 0] : List Int).length = 32) ∧ (0 = 0 ∧ la.length = 32) ∧ (By la) ∧ (AV.bool (okN (V la))) = (AV.bool false) ∧ (0 = 0 ∧ (B32 (timesE 1 (V la))).length = 32) ∧ (IntKind.u8 = IntKind.u8 ∧ (B32 (timesE 1 (V la))).length = 32 ∧ ([0, 0, 0, 0, 0, 0, 0, 0, 0, 0, 0, 0, 0, 0, 0, 0, 0, 0, 0, 0, 0, 0, 0, 0, 0, 0, 0, 0, 0, 0, 0, 0] : List Int).length = 32) ∧ (AV.bool (bif false then !((B32 (timesE 1 (V la))) == ([0, 0, 0, 0, 0, 0, 0, 0, 0, 0, 0, 0, 0, 0, 0, 0, 0, 0, 0, 0, 0, 0, 0, 0, 0, 0, 0, 0, 0, 0, 0, 0] : List Int)) else ((B32 (timesE 1 (V la))) == ([0, 0, 0, 0, 0, 0, 0, 0, 0, 0, 0, 0, 0, 0, 0, 0, 0, 0, 0, 0, 0, 0, 0, 0, 0, 0, 0, 0, 0, 0, 0, 0] : List Int)))) = (AV.bool true) ∧ (AV.bool true) = (AV.bool true)) := by kernel_rfl
theorem c8A_W {la : List Int} (ha : By la) (hno : okN (V la) = false) : ∃ D H N, specW Try.prog D (cC7 Try.prog) H N 5 [(.nums .u8 la)] [] fun v _ => v = .bool true := by
  refine ⟨noD, _, 1000, Eq.mpr (run_c8A la) ⟨⟨rfl, ha.1⟩, ⟨rfl, rfl, ha.1, rfl⟩, ⟨rfl, ha.1⟩, ⟨(by decide), ha⟩, (by simp only [hno, show V [1, 0, 0, 0, 0, 0, 0, 0, 0, 0, 0, 0, 0, 0, 0, 0, 0, 0, 0, 0, 0, 0, 0, 0, 0, 0, 0, 0, 0, 0, 0, 0] = 1 by decide]), ⟨rfl, rfl, B32_len _, rfl⟩, ⟨rfl, ha.1⟩, ha, (by simp only [hno]), ⟨rfl, B32_len _⟩, ⟨rfl, B32_len _, rfl⟩, ?_, rfl⟩⟩
  · exact beqF (timesE_no hno)
noncomputable def h_c8B (p : Pt) : Hints := ⟨fun it t => match t with
  | 18 => bif eqIt [] it then some .ask else none
  | 100003 => bif eqIt [] it then some .ask else none
  | 21 => bif eqIt [] it then some .ask else none
  | 22 => bif eqIt [] it then some (.val (.tup [(.nums .u8 (B32 (encP (smul 1 p)))), (.bool true)])) else none
  | 100004 => bif eqIt [] it then some .ask else none
  | 25 => bif eqIt [] it then some .ask else none
  | 26 => bif eqIt [] it then some (.val (.bool true)) else none
  | 37 => bif eqIt [] it then some .ask else none
  | 38 => bif eqIt [] it then some (.val (.tup [(.nums .u8 (B32 (encP (smul 2 p)))), (.bool true)])) else none
  | 100006 => bif eqIt [] it then some .ask else none
  | 42 => bif eqIt [] it then some .ask else none
  | 43 => bif eqIt [] it then some .ask else none
  | 44 => bif eqIt [] it then some (.val (.tup [(.nums .u8 (B32 (encP (padd p p)))), (.bool true)])) else none
  | 100008 => bif eqIt [] it then some .ask else none
  | 49 => bif eqIt [] it then some .ask else none
  | 50 => bif eqIt [] it then some (.val (.tup [(.nums .u8 (B32 (encP (smul 0 p)))), (.bool true)])) else none
  | 100010 => bif eqIt [] it then some .ask else none
  | 55 => bif eqIt [] it then some .ask else none
  | 56 => bif eqIt [] it then some (.val (.tup [(.nums .u8 (B32 (encP (smul 8 p)))), (.bool true)])) else none
  | 100012 => bif eqIt [] it then some .ask else none
  | 61 => bif eqIt [] it then some .ask else none
  | 62 => bif eqIt [] it then some (.val (.tup [(.nums .u8 (B32 (encP (smul 7237005577332262213973186563042994240857116359379907606001950938285454250989 (smul 8 p))))), (.bool true)])) else none
  | 100014 => bif eqIt [] it then some .ask else none
  | 82 => bif eqIt [] it then some .ask else none
  | 83 => bif eqIt [] it then some .ask else none
  | 84 => bif eqIt [] it then some (.askv (.bool true)) else none
  | 87 => bif eqIt [] it then some .ask else none
  | 88 => bif eqIt [] it then some .ask else none
  | 89 => bif eqIt [] it then some (.askv (.bool true)) else none
  | 92 => bif eqIt [] it then some .ask else none
  | 93 => bif eqIt [] it then some (.val (.nums .u8 (B32 (encP pz)))) else none
  | 94 => bif eqIt [] it then some (.askv (.bool true)) else none
  | 97 => bif eqIt [] it then some .ask else none
  | 98 => bif eqIt [] it then some (.val (.nums .u8 (B32 (encP pz)))) else none
  | 99 => bif eqIt [] it then some (.askv (.bool true)) else none
  | _ => none, fun it id => match id, it with
  | _, _ => none⟩
set_option maxRecDepth 100000 in
theorem run_c8B (p : Pt) : specW Try.prog noD (cC7 Try.prog) (h_c8B p) 1000 5 [(.nums .u8 (B32 (encP p)))] [] (fun v _ => v = .bool true) =
  ((0 = 0 ∧ (B32 (encP p)).length = 32) ∧ (IntKind.u8 = IntKind.u8 ∧ 0 = 0 ∧ (B32 (encP p)).length = 32 ∧ ([0, 0, 0, 0, 0, 0, 0, 0, 0, 0, 0, 0, 0, 0, 0, 0, 0, 0, 0, 0, 0, 0, 0, 0, 0, 0, 0, 0, 0, 0, 0, 0] : List Int).length = 32) ∧ (0 = 0 ∧ (B32 (encP p)).length = 32) ∧ (By ([1, 0, 0, 0, 0, 0, 0, 0, 0, 0, 0, 0, 0, 0, 0, 0, 0, 0, 0, 0, 0, 0, 0, 0, 0, 0, 0, 0, 0, 0, 0, 0] : List Int) ∧ By (B32 (encP p))) ∧ (AV.tup [(.nums .u8 (B32 (timesE (V ([1, 0, 0, 0, 0, 0, 0, 0, 0, 0, 0, 0, 0, 0, 0, 0, 0, 0, 0, 0, 0, 0, 0, 0, 0, 0, 0, 0, 0, 0, 0, 0] : List Int)) (V (B32 (encP p)))))), (.bool (okN (V (B32 (encP p)))))]) = (AV.tup [(.nums .u8 (B32 (encP (smul 1 p)))), (.bool true)]) ∧ (IntKind.u8 = IntKind.u8 ∧ 0 = 0 ∧ (B32 (encP (smul 1 p))).length = 32 ∧ ([0, 0, 0, 0, 0, 0, 0, 0, 0, 0, 0, 0, 0, 0, 0, 0, 0, 0, 0, 0, 0, 0, 0, 0, 0, 0, 0, 0, 0, 0, 0, 0] : List Int).length = 32) ∧ (0 = 0 ∧ (B32 (encP p)).length = 32) ∧ (By (B32 (encP p))) ∧ (AV.bool (okN (V (B32 (encP p))))) = (AV.bool true) ∧ (0 = 0 ∧ (B32 (encP p)).length = 32) ∧ (By ([2, 0, 0, 0, 0, 0, 0, 0, 0, 0, 0, 0, 0, 0, 0, 0, 0, 0, 0, 0, 0, 0, 0, 0, 0, 0, 0, 0, 0, 0, 0, 0] : List Int) ∧ By (B32 (encP p))) ∧ (AV.tup [(.nums .u8 (B32 (timesE (V ([2, 0, 0, 0, 0, 0, 0, 0, 0, 0, 0, 0, 0, 0, 0, 0, 0, 0, 0, 0, 0, 0, 0, 0, 0, 0, 0, 0, 0, 0, 0, 0] : List Int)) (V (B32 (encP p)))))), (.bool (okN (V (B32 (encP p)))))]) = (AV.tup [(.nums .u8 (B32 (encP (smul 2 p)))), (.bool true)]) ∧ (IntKind.u8 = IntKind.u8 ∧ 0 = 0 ∧ (B32 (encP (smul 2 p))).length = 32 ∧ ([0, 0, 0, 0, 0, 0, 0, 0, 0, 0, 0, 0, 0, 0, 0, 0, 0, 0, 0, 0, 0, 0, 0, 0, 0, 0, 0, 0, 0, 0, 0, 0] : List Int).length = 32) ∧ (0 = 0 ∧ (B32 (encP p)).length = 32) ∧ (0 = 0 ∧ (B32 (encP p)).length = 32) ∧ (By (B32 (encP p)) ∧ By (B32 (encP p))) ∧ (AV.tup [(.nums .u8 (B32 (addE (V (B32 (encP p))) (V (B32 (encP p)))))), (.bool ((okN (V (B32 (encP p)))) && (okN (V (B32 (encP p))))))]) = (AV.tup [(.nums .u8 (B32 (encP (padd p p)))), (.bool true)]) ∧ (IntKind.u8 = IntKind.u8 ∧ 0 = 0 ∧ (B32 (encP (padd p p))).length = 32 ∧ ([0, 0, 0, 0, 0, 0, 0, 0, 0, 0, 0, 0, 0, 0, 0, 0, 0, 0, 0, 0, 0, 0, 0, 0, 0, 0, 0, 0, 0, 0, 0, 0] : List Int).length = 32) ∧ (0 = 0 ∧ (B32 (encP p)).length = 32) ∧ (By ([0, 0, 0, 0, 0, 0, 0, 0, 0, 0, 0, 0, 0, 0, 0, 0, 0, 0, 0, 0, 0, 0, 0, 0, 0, 0, 0, 0, 0, 0, 0, 0] : List Int) ∧ By (B32 (encP p))) ∧ (AV.tup [(.nums .u8 (B32 (timesE (V ([0, 0, 0, 0, 0, 0, 0, 0, 0, 0, 0, 0, 0, 0, 0, 0, 0, 0, 0, 0, 0, 0, 0, 0, 0, 0, 0, 0, 0, 0, 0, 0] : List Int)) (V (B32 (encP p)))))), (.bool (okN (V (B32 (encP p)))))]) = (AV.tup [(.nums .u8 (B32 (encP (smul 0 p)))), (.bool true)]) ∧ (IntKind.u8 = IntKind.u8 ∧ 0 = 0 ∧ (B32 (encP (smul 0 p))).length = 32 ∧ ([0, 0, 0, 0, 0, 0, 0, 0, 0, 0, 0, 0, 0, 0, 0, 0, 0, 0, 0, 0, 0, 0, 0, 0, 0, 0, 0, 0, 0, 0, 0, 0] : List Int).length = 32) ∧ (0 = 0 ∧ (B32 (encP p)).length = 32) ∧ (By ([8, 0, 0, 0, 0, 0, 0, 0, 0, 0, 0, 0, 0, 0, 0, 0, 0, 0, 0, 0, 0, 0, 0, 0, 0, 0, 0, 0, 0, 0, 0, 0] : List Int) ∧ By (B32 (encP p))) ∧ (AV.tup [(.nums .u8 (B32 (timesE (V ([8, 0, 0, 0, 0, 0, 0, 0, 0, 0, 0, 0, 0, 0, 0, 0, 0, 0, 0, 0, 0, 0, 0, 0, 0, 0, 0, 0, 0, 0, 0, 0] : List Int)) (V (B32 (encP p)))))), (.bool (okN (V (B32 (encP p)))))]) = (AV.tup [(.nums .u8 (B32 (encP (smul 8 p)))), (.bool true)]) ∧ (IntKind.u8 = IntKind.u8 ∧ 0 = 0 ∧ (B32 (encP (smul 8 p))).length = 32 ∧ ([0, 0, 0, 0, 0, 0, 0, 0, 0, 0, 0, 0, 0, 0, 0, 0, 0, 0, 0, 0, 0, 0, 0, 0, 0, 0, 0, 0, 0, 0, 0, 0] : List Int).length = 32) ∧ (0 = 0 ∧ (B32 (encP (smul 8 p))).length = 32) ∧ (By ([237, 211, 245, 92, 26, 99, 18, 88, 214, 156, 247, 162, 222, 249, 222, 20, 0, 0, 0, 0, 0, 0, 0, 0, 0, 0, 0, 0, 0, 0, 0, 16] : List Int) ∧ By (B32 (encP (smul 8 p)))) ∧ (AV.tup [(.nums .u8 (B32 (timesE (V ([237, 211, 245, 92, 26, 99, 18, 88, 214, 156, 247, 162, 222, 249, 222, 20, 0, 0, 0, 0, 0, 0, 0, 0, 0, 0, 0, 0, 0, 0, 0, 16] : List Int)) (V (B32 (encP (smul 8 p))))))), (.bool (okN (V (B32 (encP (smul 8 p))))))]) = (AV.tup [(.nums .u8 (B32 (encP (smul 7237005577332262213973186563042994240857116359379907606001950938285454250989 (smul 8 p))))), (.bool true)]) ∧ (IntKind.u8 = IntKind.u8 ∧ 0 = 0 ∧ (B32 (encP (smul 7237005577332262213973186563042994240857116359379907606001950938285454250989 (smul 8 p)))).length = 32 ∧ ([0, 0, 0, 0, 0, 0, 0, 0, 0, 0, 0, 0, 0, 0, 0, 0, 0, 0, 0, 0, 0, 0, 0, 0, 0, 0, 0, 0, 0, 0, 0, 0] : List Int).length = 32) ∧ (0 = 0 ∧ (B32 (encP (smul 1 p))).length = 32) ∧ (0 = 0 ∧ (B32 (encP p)).length = 32) ∧ (IntKind.u8 = IntKind.u8 ∧ (B32 (encP (smul 1 p))).length = 32 ∧ (B32 (encP p)).length = 32) ∧ (AV.bool (bif false then !((B32 (encP (smul 1 p))) == (B32 (encP p))) else ((B32 (encP (smul 1 p))) == (B32 (encP p))))) = (AV.bool true) ∧ (0 = 0 ∧ (B32 (encP (smul 2 p))).length = 32) ∧ (0 = 0 ∧ (B32 (encP (padd p p))).length = 32) ∧ (IntKind.u8 = IntKind.u8 ∧ (B32 (encP (smul 2 p))).length = 32 ∧ (B32 (encP (padd p p))).length = 32) ∧ (AV.bool (bif false then !((B32 (encP (smul 2 p))) == (B32 (encP (padd p p)))) else ((B32 (encP (smul 2 p))) == (B32 (encP (padd p p)))))) = (AV.bool true) ∧ (0 = 0 ∧ (B32 (encP (smul 0 p))).length = 32) ∧ (AV.nums .u8 (B32 1)) = (AV.nums .u8 (B32 (encP pz))) ∧ (IntKind.u8 = IntKind.u8 ∧ (B32 (encP (smul 0 p))).length = 32 ∧ (B32 (encP pz)).length = 32) ∧ (AV.bool (bif false then !((B32 (encP (smul 0 p))) == (B32 (encP pz))) else ((B32 (encP (smul 0 p))) == (B32 (encP pz))))) = (AV.bool true) ∧ (0 = 0 ∧ (B32 (encP (smul 7237005577332262213973186563042994240857116359379907606001950938285454250989 (smul 8 p)))).length = 32) ∧ (AV.nums .u8 (B32 1)) = (AV.nums .u8 (B32 (encP pz))) ∧ (IntKind.u8 = IntKind.u8 ∧ (B32 (encP (smul 7237005577332262213973186563042994240857116359379907606001950938285454250989 (smul 8 p)))).length = 32 ∧ (B32 (encP pz)).length = 32) ∧ (AV.bool (bif false then !((B32 (encP (smul 7237005577332262213973186563042994240857116359379907606001950938285454250989 (smul 8 p)))) == (B32 (encP pz))) else ((B32 (encP (smul 7237005577332262213973186563042994240857116359379907606001950938285454250989 (smul 8 p)))) == (B32 (encP pz))))) = (AV.bool true) ∧ (AV.bool true) = (AV.bool true)) := by kernel_rfl
theorem c8B_W {p : Pt}  : ∃ D H N, specW Try.prog D (cC7 Try.prog) H N 5 [(.nums .u8 (B32 (encP p)))] [] fun v _ => v = .bool true := by
  refine ⟨noD, _, 1000, Eq.mpr (run_c8B p) ⟨⟨rfl, B32_len _⟩, ⟨rfl, rfl, B32_len _, rfl⟩, ⟨rfl, B32_len _⟩, ⟨(by decide), By_B32 _⟩, (by simp only [VE, okE, show V [1, 0, 0, 0, 0, 0, 0, 0, 0, 0, 0, 0, 0, 0, 0, 0, 0, 0, 0, 0, 0, 0, 0, 0, 0, 0, 0, 0, 0, 0, 0, 0] = 1 by decide, timesE_enc]), ⟨rfl, rfl, B32_len _, rfl⟩, ⟨rfl, B32_len _⟩, By_B32 _, (by simp only [VE, okE]), ⟨rfl, B32_len _⟩, ⟨(by decide), By_B32 _⟩, (by simp only [VE, okE, show V [2, 0, 0, 0, 0, 0, 0, 0, 0, 0, 0, 0, 0, 0, 0, 0, 0, 0, 0, 0, 0, 0, 0, 0, 0, 0, 0, 0, 0, 0, 0, 0] = 2 by decide, timesE_enc]), ⟨rfl, rfl, B32_len _, rfl⟩, ⟨rfl, B32_len _⟩, ⟨rfl, B32_len _⟩, ⟨By_B32 _, By_B32 _⟩, (by simp only [Bool.and_self, VE, addE_enc, okE]), ⟨rfl, rfl, B32_len _, rfl⟩, ⟨rfl, B32_len _⟩, ⟨(by decide), By_B32 _⟩, (by simp only [VE, okE, show V [0, 0, 0, 0, 0, 0, 0, 0, 0, 0, 0, 0, 0, 0, 0, 0, 0, 0, 0, 0, 0, 0, 0, 0, 0, 0, 0, 0, 0, 0, 0, 0] = 0 by decide, timesE_enc]), ⟨rfl, rfl, B32_len _, rfl⟩, ⟨rfl, B32_len _⟩, ⟨(by decide), By_B32 _⟩, (by simp only [VE, okE, show V [8, 0, 0, 0, 0, 0, 0, 0, 0, 0, 0, 0, 0, 0, 0, 0, 0, 0, 0, 0, 0, 0, 0, 0, 0, 0, 0, 0, 0, 0, 0, 0] = 8 by decide, timesE_enc]), ⟨rfl, rfl, B32_len _, rfl⟩, ⟨rfl, B32_len _⟩, ⟨(by decide), By_B32 _⟩, (by simp only [VE, okE, show V [237, 211, 245, 92, 26, 99, 18, 88, 214, 156, 247, 162, 222, 249, 222, 20, 0, 0, 0, 0, 0, 0, 0, 0, 0, 0, 0, 0, 0, 0, 0, 16] = 7237005577332262213973186563042994240857116359379907606001950938285454250989 by decide, timesE_enc]), ⟨rfl, rfl, B32_len _, rfl⟩, ⟨rfl, B32_len _⟩, ⟨rfl, B32_len _⟩, ⟨rfl, B32_len _, B32_len _⟩, ?_, ⟨rfl, B32_len _⟩, ⟨rfl, B32_len _⟩, ⟨rfl, B32_len _, B32_len _⟩, ?_, ⟨rfl, B32_len _⟩, (by rw [encP_pz]), ⟨rfl, B32_len _, B32_len _⟩, ?_, ⟨rfl, B32_len _⟩, (by rw [encP_pz]), ⟨rfl, B32_len _, B32_len _⟩, ?_, rfl⟩⟩
  · exact beqF (by rw [smul_one])
  · exact beqF (by rw [smul_two])
  · exact beqF rfl
  · exact beqF (by rw [← smul_mul, eight])
theorem c8_W {la : List Int} (ha : By la) : ∃ D H N, specW Try.prog D (cC7 Try.prog) H N 5 [(.nums .u8 la)] [] fun v _ => v = .bool true := by
  cases h : okN (V la) with
  | false => exact c8A_W ha h
  | true =>
    have e : la = B32 (encP (ptN (V la))) := by rw [enc_pt (By_lt ha) h, B32_V ha]
    rw [e]
    exact c8B_W
end Go.Proofs.Ytfdhfhgljhnhlaa
