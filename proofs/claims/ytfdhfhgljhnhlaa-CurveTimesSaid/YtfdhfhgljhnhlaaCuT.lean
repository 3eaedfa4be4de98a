/- What CurveTimes reckons. No condition. -/
import Derived.Test.YtfdhfhgljhnhlaaCuB
import Derived.Test.YtfdhfhgljhnhlaaScT
namespace Go.Proofs.Ytfdhfhgljhnhlaa
open Go Go.RowKit
noncomputable def cC8 (P : Program) : OrcP := addS (addS (addS (cC7 P) 20 s_muladd) 16 s_add) 18 s_neg
theorem cC8_ok : OrcPOK Try.prog (cC8 Try.prog) := by
  unfold cC8
  refine (addS_ok mixed (addS_ok mixed (addS_ok mixed cC7_ok cS2_ok ?_) cS3_ok ?_) cS3_ok ?_)
  · intro a M q v M' h hq
    unfold s_muladd at h
    split at h
    · simp only [Option.some.injEq, Prod.mk.injEq] at h
      obtain ⟨rfl, rfl, rfl⟩ := h
      exact muladd_ok hq
    · cases h
  · intro a M q v M' h hq
    unfold s_add at h
    split at h
    · simp only [Option.some.injEq, Prod.mk.injEq] at h
      obtain ⟨rfl, rfl, rfl⟩ := h
      exact add_ok hq
    · cases h
  · intro a M q v M' h hq
    unfold s_neg at h
    split at h
    · simp only [Option.some.injEq, Prod.mk.injEq] at h
      obtain ⟨rfl, rfl, rfl⟩ := h
      exact neg_ok hq
    · cases h
theorem neg_all (k : Nat) : smul (7237005577332262213973186563042994240857116359379907606001950938285454250989 - k % 7237005577332262213973186563042994240857116359379907606001950938285454250989 + k) bP = pz := by
  have h := smul_mod L_base (7237005577332262213973186563042994240857116359379907606001950938285454250989 - k % 7237005577332262213973186563042994240857116359379907606001950938285454250989 + k)
  rw [show (7237005577332262213973186563042994240857116359379907606001950938285454250989 - k % 7237005577332262213973186563042994240857116359379907606001950938285454250989 + k) % 7237005577332262213973186563042994240857116359379907606001950938285454250989 = 0 by omega] at h
  exact h.symm
noncomputable def h_ctimes (la lb : List Int) : Hints := ⟨fun it t => match t with
  | 25 => bif eqIt [] it then some .ask else none
  | 26 => bif eqIt [] it then some .ask else none
  | 100005 => bif eqIt [] it then some .ask else none
  | 100006 => bif eqIt [] it then some .ask else none
  | 28 => bif eqIt [] it then some .ask else none
  | 29 => bif eqIt [] it then some (.val (.nums .u8 (B32 (encP bP)))) else none
  | 30 => bif eqIt [] it then some (.val (.tup [(.nums .u8 (B32 (encP (smul (V la) bP)))), (.bool true)])) else none
  | 100007 => bif eqIt [] it then some .ask else none
  | 34 => bif eqIt [] it then some .ask else none
  | 35 => bif eqIt [] it then some (.val (.nums .u8 (B32 (encP bP)))) else none
  | 36 => bif eqIt [] it then some (.val (.tup [(.nums .u8 (B32 (encP (smul (V lb) bP)))), (.bool true)])) else none
  | 100009 => bif eqIt [] it then some .ask else none
  | 40 => bif eqIt [] it then some .ask else none
  | 41 => bif eqIt [] it then some .ask else none
  | 42 => bif eqIt [] it then some (.val (.tup [(.nums .u8 (B32 (encP (padd (smul (V la) bP) (smul (V lb) bP))))), (.bool true)])) else none
  | 100011 => bif eqIt [] it then some .ask else none
  | 46 => bif eqIt [] it then some .ask else none
  | 47 => bif eqIt [] it then some .ask else none
  | 49 => bif eqIt [] it then some (.val (.nums .u8 (B32 (encP bP)))) else none
  | 50 => bif eqIt [] it then some (.val (.tup [(.nums .u8 (B32 (encP (smul ((V la) + (V lb)) bP)))), (.bool true)])) else none
  | 100013 => bif eqIt [] it then some .ask else none
  | 54 => bif eqIt [] it then some .ask else none
  | 55 => bif eqIt [] it then some .ask else none
  | 56 => bif eqIt [] it then some (.val (.tup [(.nums .u8 (B32 (encP (smul (V lb) (smul (V la) bP))))), (.bool true)])) else none
  | 100015 => bif eqIt [] it then some .ask else none
  | 60 => bif eqIt [] it then some .ask else none
  | 61 => bif eqIt [] it then some .ask else none
  | 63 => bif eqIt [] it then some (.val (.nums .u8 (B32 (((V la) * (V lb) + 0) % 7237005577332262213973186563042994240857116359379907606001950938285454250989)))) else none
  | 64 => bif eqIt [] it then some (.val (.nums .u8 (B32 (encP bP)))) else none
  | 65 => bif eqIt [] it then some (.val (.tup [(.nums .u8 (B32 (encP (smul ((V la) * (V lb) + 0) bP)))), (.bool true)])) else none
  | 100017 => bif eqIt [] it then some .ask else none
  | 69 => bif eqIt [] it then some .ask else none
  | 71 => bif eqIt [] it then some (.val (.nums .u8 (B32 (encP bP)))) else none
  | 72 => bif eqIt [] it then some (.val (.tup [(.nums .u8 (B32 (encP (smul (7237005577332262213973186563042994240857116359379907606001950938285454250989 - (V la) % 7237005577332262213973186563042994240857116359379907606001950938285454250989) bP)))), (.bool true)])) else none
  | 100019 => bif eqIt [] it then some .ask else none
  | 76 => bif eqIt [] it then some .ask else none
  | 77 => bif eqIt [] it then some .ask else none
  | 78 => bif eqIt [] it then some (.val (.tup [(.nums .u8 (B32 (encP (padd (smul (7237005577332262213973186563042994240857116359379907606001950938285454250989 - (V la) % 7237005577332262213973186563042994240857116359379907606001950938285454250989) bP) (smul (V la) bP))))), (.bool true)])) else none
  | 100021 => bif eqIt [] it then some .ask else none
  | 104 => bif eqIt [] it then some .ask else none
  | 105 => bif eqIt [] it then some .ask else none
  | 106 => bif eqIt [] it then some (.askv (.bool true)) else none
  | 109 => bif eqIt [] it then some .ask else none
  | 110 => bif eqIt [] it then some .ask else none
  | 111 => bif eqIt [] it then some (.askv (.bool true)) else none
  | 114 => bif eqIt [] it then some .ask else none
  | 115 => bif eqIt [] it then some (.val (.nums .u8 (B32 (encP pz)))) else none
  | 116 => bif eqIt [] it then some (.askv (.bool true)) else none
  | _ => none, fun it id => match id, it with
  | _, _ => none⟩
set_option maxRecDepth 100000 in
theorem run_ctimes (la lb : List Int) : specW Try.prog noD (cC8 Try.prog) (h_ctimes la lb) 1000 10 [(.nums .u8 la), (.nums .u8 lb)] [] (fun v _ => v = .bool true) =
  ((0 = 0 ∧ la.length = 32) ∧ (0 = 0 ∧ lb.length = 32) ∧ (IntKind.u8 = IntKind.u8 ∧ 0 = 0 ∧ la.length = 32 ∧ ([0, 0, 0, 0, 0, 0, 0, 0, 0, 0, 0, 0, 0, 0, 0, 0, 0, 0, 0, 0, 0, 0, 0, 0, 0, 0, 0, 0, 0, 0, 0, 0] : List Int).length = 32) ∧ (IntKind.u8 = IntKind.u8 ∧ 0 = 0 ∧ lb.length = 32 ∧ ([0, 0, 0, 0, 0, 0, 0, 0, 0, 0, 0, 0, 0, 0, 0, 0, 0, 0, 0, 0, 0, 0, 0, 0, 0, 0, 0, 0, 0, 0, 0, 0] : List Int).length = 32) ∧ (0 = 0 ∧ la.length = 32) ∧ (AV.nums .u8 (B32 baseN)) = (AV.nums .u8 (B32 (encP bP))) ∧ (By la ∧ By (B32 (encP bP))) ∧ (AV.tup [(.nums .u8 (B32 (timesE (V la) (V (B32 (encP bP)))))), (.bool (okN (V (B32 (encP bP)))))]) = (AV.tup [(.nums .u8 (B32 (encP (smul (V la) bP)))), (.bool true)]) ∧ (IntKind.u8 = IntKind.u8 ∧ 0 = 0 ∧ (B32 (encP (smul (V la) bP))).length = 32 ∧ ([0, 0, 0, 0, 0, 0, 0, 0, 0, 0, 0, 0, 0, 0, 0, 0, 0, 0, 0, 0, 0, 0, 0, 0, 0, 0, 0, 0, 0, 0, 0, 0] : List Int).length = 32) ∧ (0 = 0 ∧ lb.length = 32) ∧ (AV.nums .u8 (B32 baseN)) = (AV.nums .u8 (B32 (encP bP))) ∧ (By lb ∧ By (B32 (encP bP))) ∧ (AV.tup [(.nums .u8 (B32 (timesE (V lb) (V (B32 (encP bP)))))), (.bool (okN (V (B32 (encP bP)))))]) = (AV.tup [(.nums .u8 (B32 (encP (smul (V lb) bP)))), (.bool true)]) ∧ (IntKind.u8 = IntKind.u8 ∧ 0 = 0 ∧ (B32 (encP (smul (V lb) bP))).length = 32 ∧ ([0, 0, 0, 0, 0, 0, 0, 0, 0, 0, 0, 0, 0, 0, 0, 0, 0, 0, 0, 0, 0, 0, 0, 0, 0, 0, 0, 0, 0, 0, 0, 0] : List Int).length = 32) ∧ (0 = 0 ∧ (B32 (encP (smul (V la) bP))).length = 32) ∧ (0 = 0 ∧ (B32 (encP (smul (V lb) bP))).length = 32) ∧ (By (B32 (encP (smul (V la) bP))) ∧ By (B32 (encP (smul (V lb) bP)))) ∧ (AV.tup [(.nums .u8 (B32 (addE (V (B32 (encP (smul (V la) bP)))) (V (B32 (encP (smul (V lb) bP))))))), (.bool ((okN (V (B32 (encP (smul (V la) bP))))) && (okN (V (B32 (encP (smul (V lb) bP)))))))]) = (AV.tup [(.nums .u8 (B32 (encP (padd (smul (V la) bP) (smul (V lb) bP))))), (.bool true)]) ∧ (IntKind.u8 = IntKind.u8 ∧ 0 = 0 ∧ (B32 (encP (padd (smul (V la) bP) (smul (V lb) bP)))).length = 32 ∧ ([0, 0, 0, 0, 0, 0, 0, 0, 0, 0, 0, 0, 0, 0, 0, 0, 0, 0, 0, 0, 0, 0, 0, 0, 0, 0, 0, 0, 0, 0, 0, 0] : List Int).length = 32) ∧ (0 = 0 ∧ la.length = 32) ∧ (0 = 0 ∧ lb.length = 32) ∧ (By la ∧ By lb) ∧ (AV.nums .u8 (B32 baseN)) = (AV.nums .u8 (B32 (encP bP))) ∧ (By (B32 (((V la) + (V lb)) % 7237005577332262213973186563042994240857116359379907606001950938285454250989)) ∧ By (B32 (encP bP))) ∧ (AV.tup [(.nums .u8 (B32 (timesE (V (B32 (((V la) + (V lb)) % 7237005577332262213973186563042994240857116359379907606001950938285454250989))) (V (B32 (encP bP)))))), (.bool (okN (V (B32 (encP bP)))))]) = (AV.tup [(.nums .u8 (B32 (encP (smul ((V la) + (V lb)) bP)))), (.bool true)]) ∧ (IntKind.u8 = IntKind.u8 ∧ 0 = 0 ∧ (B32 (encP (smul ((V la) + (V lb)) bP))).length = 32 ∧ ([0, 0, 0, 0, 0, 0, 0, 0, 0, 0, 0, 0, 0, 0, 0, 0, 0, 0, 0, 0, 0, 0, 0, 0, 0, 0, 0, 0, 0, 0, 0, 0] : List Int).length = 32) ∧ (0 = 0 ∧ lb.length = 32) ∧ (0 = 0 ∧ (B32 (encP (smul (V la) bP))).length = 32) ∧ (By lb ∧ By (B32 (encP (smul (V la) bP)))) ∧ (AV.tup [(.nums .u8 (B32 (timesE (V lb) (V (B32 (encP (smul (V la) bP))))))), (.bool (okN (V (B32 (encP (smul (V la) bP))))))]) = (AV.tup [(.nums .u8 (B32 (encP (smul (V lb) (smul (V la) bP))))), (.bool true)]) ∧ (IntKind.u8 = IntKind.u8 ∧ 0 = 0 ∧ (B32 (encP (smul (V lb) (smul (V la) bP)))).length = 32 ∧ ([0, 0, 0, 0, 0, 0, 0, 0, 0, 0, 0, 0, 0, 0, 0, 0, 0, 0, 0, 0, 0, 0, 0, 0, 0, 0, 0, 0, 0, 0, 0, 0] : List Int).length = 32) ∧ (0 = 0 ∧ la.length = 32) ∧ (0 = 0 ∧ lb.length = 32) ∧ (By la ∧ By lb ∧ By ([0, 0, 0, 0, 0, 0, 0, 0, 0, 0, 0, 0, 0, 0, 0, 0, 0, 0, 0, 0, 0, 0, 0, 0, 0, 0, 0, 0, 0, 0, 0, 0] : List Int)) ∧ (AV.nums .u8 (B32 (((V la) * (V lb) + (V ([0, 0, 0, 0, 0, 0, 0, 0, 0, 0, 0, 0, 0, 0, 0, 0, 0, 0, 0, 0, 0, 0, 0, 0, 0, 0, 0, 0, 0, 0, 0, 0] : List Int))) % 7237005577332262213973186563042994240857116359379907606001950938285454250989))) = (AV.nums .u8 (B32 (((V la) * (V lb) + 0) % 7237005577332262213973186563042994240857116359379907606001950938285454250989))) ∧ (AV.nums .u8 (B32 baseN)) = (AV.nums .u8 (B32 (encP bP))) ∧ (By (B32 (((V la) * (V lb) + 0) % 7237005577332262213973186563042994240857116359379907606001950938285454250989)) ∧ By (B32 (encP bP))) ∧ (AV.tup [(.nums .u8 (B32 (timesE (V (B32 (((V la) * (V lb) + 0) % 7237005577332262213973186563042994240857116359379907606001950938285454250989))) (V (B32 (encP bP)))))), (.bool (okN (V (B32 (encP bP)))))]) = (AV.tup [(.nums .u8 (B32 (encP (smul ((V la) * (V lb) + 0) bP)))), (.bool true)]) ∧ (IntKind.u8 = IntKind.u8 ∧ 0 = 0 ∧ (B32 (encP (smul ((V la) * (V lb) + 0) bP))).length = 32 ∧ ([0, 0, 0, 0, 0, 0, 0, 0, 0, 0, 0, 0, 0, 0, 0, 0, 0, 0, 0, 0, 0, 0, 0, 0, 0, 0, 0, 0, 0, 0, 0, 0] : List Int).length = 32) ∧ (0 = 0 ∧ la.length = 32) ∧ (By la) ∧ (AV.nums .u8 (B32 baseN)) = (AV.nums .u8 (B32 (encP bP))) ∧ (By (B32 ((7237005577332262213973186563042994240857116359379907606001950938285454250989 - (V la) % 7237005577332262213973186563042994240857116359379907606001950938285454250989) % 7237005577332262213973186563042994240857116359379907606001950938285454250989)) ∧ By (B32 (encP bP))) ∧ (AV.tup [(.nums .u8 (B32 (timesE (V (B32 ((7237005577332262213973186563042994240857116359379907606001950938285454250989 - (V la) % 7237005577332262213973186563042994240857116359379907606001950938285454250989) % 7237005577332262213973186563042994240857116359379907606001950938285454250989))) (V (B32 (encP bP)))))), (.bool (okN (V (B32 (encP bP)))))]) = (AV.tup [(.nums .u8 (B32 (encP (smul (7237005577332262213973186563042994240857116359379907606001950938285454250989 - (V la) % 7237005577332262213973186563042994240857116359379907606001950938285454250989) bP)))), (.bool true)]) ∧ (IntKind.u8 = IntKind.u8 ∧ 0 = 0 ∧ (B32 (encP (smul (7237005577332262213973186563042994240857116359379907606001950938285454250989 - (V la) % 7237005577332262213973186563042994240857116359379907606001950938285454250989) bP))).length = 32 ∧ ([0, 0, 0, 0, 0, 0, 0, 0, 0, 0, 0, 0, 0, 0, 0, 0, 0, 0, 0, 0, 0, 0, 0, 0, 0, 0, 0, 0, 0, 0, 0, 0] : List Int).length = 32) ∧ (0 = 0 ∧ (B32 (encP (smul (7237005577332262213973186563042994240857116359379907606001950938285454250989 - (V la) % 7237005577332262213973186563042994240857116359379907606001950938285454250989) bP))).length = 32) ∧ (0 = 0 ∧ (B32 (encP (smul (V la) bP))).length = 32) ∧ (By (B32 (encP (smul (7237005577332262213973186563042994240857116359379907606001950938285454250989 - (V la) % 7237005577332262213973186563042994240857116359379907606001950938285454250989) bP))) ∧ By (B32 (encP (smul (V la) bP)))) ∧ (AV.tup [(.nums .u8 (B32 (addE (V (B32 (encP (smul (7237005577332262213973186563042994240857116359379907606001950938285454250989 - (V la) % 7237005577332262213973186563042994240857116359379907606001950938285454250989) bP)))) (V (B32 (encP (smul (V la) bP))))))), (.bool ((okN (V (B32 (encP (smul (7237005577332262213973186563042994240857116359379907606001950938285454250989 - (V la) % 7237005577332262213973186563042994240857116359379907606001950938285454250989) bP))))) && (okN (V (B32 (encP (smul (V la) bP)))))))]) = (AV.tup [(.nums .u8 (B32 (encP (padd (smul (7237005577332262213973186563042994240857116359379907606001950938285454250989 - (V la) % 7237005577332262213973186563042994240857116359379907606001950938285454250989) bP) (smul (V la) bP))))), (.bool true)]) ∧ (IntKind.u8 = IntKind.u8 ∧ 0 = 0 ∧ (B32 (encP (padd (smul (7237005577332262213973186563042994240857116359379907606001950938285454250989 - (V la) % 7237005577332262213973186563042994240857116359379907606001950938285454250989) bP) (smul (V la) bP)))).length = 32 ∧ ([0, 0, 0, 0, 0, 0, 0, 0, 0, 0, 0, 0, 0, 0, 0, 0, 0, 0, 0, 0, 0, 0, 0, 0, 0, 0, 0, 0, 0, 0, 0, 0] : List Int).length = 32) ∧ (0 = 0 ∧ (B32 (encP (padd (smul (V la) bP) (smul (V lb) bP)))).length = 32) ∧ (0 = 0 ∧ (B32 (encP (smul ((V la) + (V lb)) bP))).length = 32) ∧ (IntKind.u8 = IntKind.u8 ∧ (B32 (encP (padd (smul (V la) bP) (smul (V lb) bP)))).length = 32 ∧ (B32 (encP (smul ((V la) + (V lb)) bP))).length = 32) ∧ (AV.bool (bif false then !((B32 (encP (padd (smul (V la) bP) (smul (V lb) bP)))) == (B32 (encP (smul ((V la) + (V lb)) bP)))) else ((B32 (encP (padd (smul (V la) bP) (smul (V lb) bP)))) == (B32 (encP (smul ((V la) + (V lb)) bP)))))) = (AV.bool true) ∧ (0 = 0 ∧ (B32 (encP (smul (V lb) (smul (V la) bP)))).length = 32) ∧ (0 = 0 ∧ (B32 (encP (smul ((V la) * (V lb) + 0) bP))).length = 32) ∧ (IntKind.u8 = IntKind.u8 ∧ (B32 (encP (smul (V lb) (smul (V la) bP)))).length = 32 ∧ (B32 (encP (smul ((V la) * (V lb) + 0) bP))).length = 32) ∧ (AV.bool (bif false then !((B32 (encP (smul (V lb) (smul (V la) bP)))) == (B32 (encP (smul ((V la) * (V lb) + 0) bP)))) else ((B32 (encP (smul (V lb) (smul (V la) bP)))) == (B32 (encP (smul ((V la) * (V lb) + 0) bP)))))) = (AV.bool true) ∧ (0 = 0 ∧ (B32 (encP (padd (smul (7237005577332262213973186563042994240857116359379907606001950938285454250989 - (V la) % 7237005577332262213973186563042994240857116359379907606001950938285454250989) bP) (smul (V la) bP)))).length = 32) ∧ (AV.nums .u8 (B32 1)) = (AV.nums .u8 (B32 (encP pz))) ∧ (IntKind.u8 = IntKind.u8 ∧ (B32 (encP (padd (smul (7237005577332262213973186563042994240857116359379907606001950938285454250989 - (V la) % 7237005577332262213973186563042994240857116359379907606001950938285454250989) bP) (smul (V la) bP)))).length = 32 ∧ (B32 (encP pz)).length = 32) ∧ (AV.bool (bif false then !((B32 (encP (padd (smul (7237005577332262213973186563042994240857116359379907606001950938285454250989 - (V la) % 7237005577332262213973186563042994240857116359379907606001950938285454250989) bP) (smul (V la) bP)))) == (B32 (encP pz))) else ((B32 (encP (padd (smul (7237005577332262213973186563042994240857116359379907606001950938285454250989 - (V la) % 7237005577332262213973186563042994240857116359379907606001950938285454250989) bP) (smul (V la) bP)))) == (B32 (encP pz))))) = (AV.bool true) ∧ (AV.bool true) = (AV.bool true)) := by kernel_rfl
theorem ctimes_W {la lb : List Int} (ha : By la) (hb : By lb) : ∃ D H N, specW Try.prog D (cC8 Try.prog) H N 10 [(.nums .u8 la), (.nums .u8 lb)] [] fun v _ => v = .bool true := by
  refine ⟨noD, _, 1000, Eq.mpr (run_ctimes la lb) ⟨⟨rfl, ha.1⟩, ⟨rfl, hb.1⟩, ⟨rfl, rfl, ha.1, rfl⟩, ⟨rfl, rfl, hb.1, rfl⟩, ⟨rfl, ha.1⟩, (by rw [enc_bP]), ⟨ha, By_B32 _⟩, (by simp only [VE, okE, timesE_enc]), ⟨rfl, rfl, B32_len _, rfl⟩, ⟨rfl, hb.1⟩, (by rw [enc_bP]), ⟨hb, By_B32 _⟩, (by simp only [VE, okE, timesE_enc]), ⟨rfl, rfl, B32_len _, rfl⟩, ⟨rfl, B32_len _⟩, ⟨rfl, B32_len _⟩, ⟨By_B32 _, By_B32 _⟩, (by simp only [Bool.and_self, VE, addE_enc, okE]), ⟨rfl, rfl, B32_len _, rfl⟩, ⟨rfl, ha.1⟩, ⟨rfl, hb.1⟩, ⟨ha, hb⟩, (by rw [enc_bP]), ⟨By_B32 _, By_B32 _⟩, (by simp only [VE, VL, okE, smulL, timesE_enc]), ⟨rfl, rfl, B32_len _, rfl⟩, ⟨rfl, hb.1⟩, ⟨rfl, B32_len _⟩, ⟨hb, By_B32 _⟩, (by simp only [VE, okE, timesE_enc]), ⟨rfl, rfl, B32_len _, rfl⟩, ⟨rfl, ha.1⟩, ⟨rfl, hb.1⟩, ⟨ha, hb, (by decide)⟩, (by simp only [show V [0, 0, 0, 0, 0, 0, 0, 0, 0, 0, 0, 0, 0, 0, 0, 0, 0, 0, 0, 0, 0, 0, 0, 0, 0, 0, 0, 0, 0, 0, 0, 0] = 0 by decide]), (by rw [enc_bP]), ⟨By_B32 _, By_B32 _⟩, (by simp only [VE, VL, okE, smulL, timesE_enc]), ⟨rfl, rfl, B32_len _, rfl⟩, ⟨rfl, ha.1⟩, ha, (by rw [enc_bP]), ⟨By_B32 _, By_B32 _⟩, (by simp only [VE, VL, okE, smulL, timesE_enc]), ⟨rfl, rfl, B32_len _, rfl⟩, ⟨rfl, B32_len _⟩, ⟨rfl, B32_len _⟩, ⟨By_B32 _, By_B32 _⟩, (by simp only [Bool.and_self, VE, addE_enc, okE]), ⟨rfl, rfl, B32_len _, rfl⟩, ⟨rfl, B32_len _⟩, ⟨rfl, B32_len _⟩, ⟨rfl, B32_len _, B32_len _⟩, ?_, ⟨rfl, B32_len _⟩, ⟨rfl, B32_len _⟩, ⟨rfl, B32_len _, B32_len _⟩, ?_, ⟨rfl, B32_len _⟩, (by rw [encP_pz]), ⟨rfl, B32_len _, B32_len _⟩, ?_, rfl⟩⟩
  · exact beqF (by rw [smul_add])
  · exact beqF (by rw [Nat.add_zero, smul_mul])
  · exact beqF (by rw [← smul_add, neg_all])
end Go.Proofs.Ytfdhfhgljhnhlaa
