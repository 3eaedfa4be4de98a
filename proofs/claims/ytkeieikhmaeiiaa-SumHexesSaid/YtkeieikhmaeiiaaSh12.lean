/- Digits of bytes. No condition. -/
import Derived.Test.YtkeieikhmaeiiaaSh11
namespace Go.Proofs.Ytkeieikhmaeiiaa
open Go Go.RowKit
set_option linter.unusedVariables false
set_option linter.unusedSimpArgs false
def hexS : List UInt8 := [48,49,50,51,52,53,54,55,56,57,97,98,99,100,101,102]
def hexd (m : Nat) : Int := Int.ofNat (hexS.getD m 0).toNat
theorem hex_hi {c : Int} (h : 0 ≤ c ∧ c < 256) : ∃ m, Int.fdiv c (2 ^ 4) = Int.ofNat m ∧ m < 16 ∧ m = c.toNat / 16 := by
  refine ⟨c.toNat / 16, ?_, by omega, rfl⟩
  rw [Int.fdiv_eq_ediv_of_nonneg _ (by omega)]
  simp only [Int.ofNat_eq_natCast]
  omega
theorem and15 : ∀ x : Fin 256, IntKind.u8.wrap ((BitVec.ofInt 8 (Int.ofNat x.val) &&& BitVec.ofInt 8 (15 : Int)).toNat) = Int.ofNat (x.val % 16) := by decide +kernel
theorem hex_lo {c : Int} (h : 0 ≤ c ∧ c < 256) : IntKind.u8.wrap ((BitVec.ofInt 8 c &&& BitVec.ofInt 8 (15 : Int)).toNat) = Int.ofNat (c.toNat % 16) := by
  have := and15 ⟨c.toNat, by omega⟩
  rw [show Int.ofNat c.toNat = c by simp only [Int.ofNat_eq_natCast]; omega] at this
  exact this
theorem idx_hex {C : Orc} {M : Mem} {x : Int} {m : Nat} (hx : x = Int.ofNat m) (h : m < 16) : psem C .idxStr [.str hexS, .int .u8 x] M = some (.int .u8 (hexd m), M, ⟨[], [], false, false⟩) := by
  subst hx
  have h1 : hexS[m]? = some (hexS.getD m 0) := by
    have : m < hexS.length := h
    simp only [List.getD, List.getElem?_eq_getElem this, Option.getD_some]
  simp only [psem, inR_ok (show m < hexS.length from h), h1]
  rfl
/-- The digits of the first k. -/
def hexL (L : List Int) : Nat → List Int
  | 0 => []
  | k + 1 => hexL L k ++ [hexd ((L.getD k 0).toNat / 16), hexd ((L.getD k 0).toNat % 16)]
theorem hexL_len (L : List Int) : ∀ k, (hexL L k).length = 2 * k
  | 0 => rfl
  | k + 1 => by
    show (hexL L k ++ _).length = _
    rw [List.length_append, hexL_len L k]; simp only [List.length_cons, List.length_nil]; omega
theorem bys_get {L : List Int} (h : Bys L) (k : Nat) : 0 ≤ L.getD k 0 ∧ L.getD k 0 < 256 := by
  by_cases hk : k < L.length
  · rw [List.getD, List.getElem?_eq_getElem hk, Option.getD_some]; exact h _ (List.getElem_mem hk)
  · rw [List.getD, List.getElem?_eq_none (by omega), Option.getD_none]; decide
theorem seg_get' {l : List Int} {off o n k : Nat} (h1 : o ≤ off) (h2 : k < n) : l.getD (off + k * 1 - o) 0 = (seg l (off - o) n).getD k 0 := by
  rw [seg_get h2, show off + k * 1 - o = off - o + k by omega]
def h_hexpN : Hints := ⟨fun it t => match t with
  | _ => none, fun it id => match id, it with
  | _, _ => none⟩
set_option maxHeartbeats 4000000 in
set_option maxRecDepth 100000 in
theorem run_hexpN  : specW Try.prog noD (cH13 Try.prog) (h_hexpN) 3000000 25 [.nilsl] [] (fun v M => v = (.str []) ∧ M = []) =
  ((AV.str []) = (AV.str []) ∧ ([] : Mem) = []) := by kernel_rfl
set_option maxHeartbeats 4000000 in
set_option maxRecDepth 100000 in
theorem hexpN_ok  : ∃ D H N, specW Try.prog D (cH13 Try.prog) H N 25 [.nilsl] [] fun v M => v = (.str []) ∧ M = [] := by
  exact ⟨noD, _, 3000000, Eq.mpr (run_hexpN) ⟨rfl, rfl⟩⟩
def h_hexpr0 (off bs o : Nat) (lm : Option Nat) (B : List Int) : Hints := ⟨fun it t => match t with
  | _ => none, fun it id => match id, it with
  | _, _ => none⟩
set_option maxHeartbeats 4000000 in
set_option maxRecDepth 100000 in
theorem run_hexpr0 (off bs o : Nat) (lm : Option Nat) (B : List Int) : specW Try.prog noD (cH13 Try.prog) (h_hexpr0 off bs o lm B) 3000000 25 [(.sl 0 off bs 0 1 lm)] [(⟨(.at o (.nums .u8 B)), .ro, false⟩ : Blk)] (fun v M => v = (.str []) ∧ M = [(⟨(.at o (.nums .u8 B)), .ro, false⟩ : Blk)]) =
  ((AV.str []) = (AV.str []) ∧ ([(⟨(.at o (.nums .u8 B)), .ro, false⟩ : Blk)] : Mem) = [(⟨(.at o (.nums .u8 B)), .ro, false⟩ : Blk)]) := by kernel_rfl
set_option maxHeartbeats 4000000 in
set_option maxRecDepth 100000 in
theorem hexpr0_ok {off bs o : Nat} {lm : Option Nat} {B : List Int} (hyp : o ≤ off ∧ off - o ≤ B.length) : ∃ D H N, specW Try.prog D (cH13 Try.prog) H N 25 [(.sl 0 off bs 0 1 lm)] [(⟨(.at o (.nums .u8 B)), .ro, false⟩ : Blk)] fun v M => v = (.str []) ∧ M = [(⟨(.at o (.nums .u8 B)), .ro, false⟩ : Blk)] := by
  exact ⟨noD, _, 3000000, Eq.mpr (run_hexpr0 off bs o lm B) ⟨rfl, rfl⟩⟩
def x_hexpr1 (off bs n o : Nat) (lm : Option Nat) (B : List Int) (X : List Int) (ln : Nat) (q : Nat) : St := ⟨(jk 3 ((.sl 1 0 0 ln 1 none) :: (.junk :: (.junk :: ((.sl 0 off bs (n + 1) 1 lm) :: ((.int .i64 (Int.ofNat (n + 1))) :: ((.int .i64 (Int.ofNat q)) :: (jk 15 [])))))))), [⟨(.at o (.nums .u8 B)), .ro, false⟩, ⟨(.nums .u8 X), .grow, false⟩]⟩
def x_hexpr10 (off bs n o : Nat) (lm : Option Nat) (B : List Int) : St := ⟨(jk 3 (.nilsl :: (.junk :: (.junk :: ((.sl 0 off bs (n + 1) 1 lm) :: ((.int .i64 (Int.ofNat (n + 1))) :: ((.int .i64 0) :: (jk 15 [])))))))), [⟨(.at o (.nums .u8 B)), .ro, false⟩]⟩
def h_hexpr1 (off bs n o : Nat) (lm : Option Nat) (B : List Int) : Hints := ⟨fun it t => match t with
  | 9 => (match (lkH [([some 0], (.val (.bool true))), ([none], (.val (.bool false)))] it : Option VH), it with | some v, _ => some v | none, [some (k0 + 1)] => some (.val (.bool true)) | _, _ => none)
  | 10 => (match (bif eqIt [some 0] it then some .ask else none : Option VH), it with | some v, _ => some v | none, [some (k0 + 1)] => some .ask | _, _ => none)
  | 11 => (match (bif eqIt [some 0] it then some (.askv (.int .u8 ((seg B (off - o) (n + 1)).getD 0 0))) else none : Option VH), it with | some v, _ => some v | none, [some (k0 + 1)] => some (.askv (.int .u8 ((seg B (off - o) (n + 1)).getD (k0 + 1) 0))) | _, _ => none)
  | 15 => (match (bif eqIt [some 0] it then some (.op (.int .u8 (hexd (((seg B (off - o) (n + 1)).getD 0 0).toNat / 16))) [(⟨(.at o (.nums .u8 B)), .ro, false⟩ : Blk), ⟨.junk, .dead, true⟩] ⟨[], [], false, false⟩) else none : Option VH), it with | some v, _ => some v | none, [some (k0 + 1)] => some (.op (.int .u8 (hexd (((seg B (off - o) (n + 1)).getD (k0 + 1) 0).toNat / 16))) [(⟨(.at o (.nums .u8 B)), .ro, false⟩ : Blk), ⟨(.nums .u8 (hexL (seg B (off - o) (n + 1)) (k0 + 1))), .grow, false⟩, ⟨.junk, .dead, true⟩] ⟨[], [], false, false⟩) | _, _ => none)
  | 18 => (match (bif eqIt [some 0] it then some (.op (.int .u8 (hexd (((seg B (off - o) (n + 1)).getD 0 0).toNat % 16))) [(⟨(.at o (.nums .u8 B)), .ro, false⟩ : Blk), ⟨.junk, .dead, true⟩] ⟨[], [], false, false⟩) else none : Option VH), it with | some v, _ => some v | none, [some (k0 + 1)] => some (.op (.int .u8 (hexd (((seg B (off - o) (n + 1)).getD (k0 + 1) 0).toNat % 16))) [(⟨(.at o (.nums .u8 B)), .ro, false⟩ : Blk), ⟨(.nums .u8 (hexL (seg B (off - o) (n + 1)) (k0 + 1))), .grow, false⟩, ⟨.junk, .dead, true⟩] ⟨[], [], false, false⟩) | _, _ => none)
  | 20 => (match it with | [some (k0 + 1)] => some (.op (.sl 3 0 0 ((2 * (k0 + 1)) + 2) 1 none) [(⟨(.at o (.nums .u8 B)), .ro, false⟩ : Blk), ⟨.junk, .dead, true⟩, ⟨(.nums .u8 [(hexd (((seg B (off - o) (n + 1)).getD (k0 + 1) 0).toNat / 16)), (hexd (((seg B (off - o) (n + 1)).getD (k0 + 1) 0).toNat % 16))]), .own, true⟩, ⟨(.nums .u8 ((hexL (seg B (off - o) (n + 1)) (k0 + 1)) ++ [(hexd (((seg B (off - o) (n + 1)).getD (k0 + 1) 0).toNat / 16)), (hexd (((seg B (off - o) (n + 1)).getD (k0 + 1) 0).toNat % 16))])), .grow, false⟩] ⟨[], [1], true, false⟩) | _ => none)
  | 21 => (match it with | [some (k0 + 1)] => some (.val (.int .i64 (Int.ofNat ((k0 + 1) + 1)))) | _ => none)
  | 23 => bif eqIt [] it then some (.op (.str (bytesOf (hexL (seg B (off - o) (n + 1)) (n + 1)))) [(⟨(.at o (.nums .u8 B)), .ro, false⟩ : Blk), ⟨(.nums .u8 (hexL (seg B (off - o) (n + 1)) (n + 1))), .grow, false⟩] ⟨[1], [], false, false⟩) else none
  | _ => none, fun it id => match id, it with
  | 0, [] => some ⟨(n + 1), true, true, fun kk => match kk with | 0 => x_hexpr10 off bs n o lm B | kk + 1 => x_hexpr1 off bs n o lm B (hexL (seg B (off - o) (n + 1)) (kk + 1)) (2 * (kk + 1)) (kk + 1)⟩
  | _, _ => none⟩
def d_hexpr1 : Nat → Option (List Nat) := fun n => match n with
  | 0 => some [0, 1, 2, 4, 5, 9, 10, 11, 12, 13, 14, 15, 16, 17, 18, 19, 20, 21, 22, 23]
  | _ => none
set_option maxHeartbeats 4000000 in
set_option maxRecDepth 100000 in
theorem run_hexpr1 (off bs n o : Nat) (lm : Option Nat) (B : List Int) : specW Try.prog d_hexpr1 (cH13 Try.prog) (h_hexpr1 off bs n o lm B) 3000000 25 [(.sl 0 off bs (n + 1) 1 lm)] [(⟨(.at o (.nums .u8 B)), .ro, false⟩ : Blk)] (fun v M => v = (.str (bytesOf (hexL (seg B (off - o) (n + 1)) (n + 1)))) ∧ M = [(⟨(.at o (.nums .u8 B)), .ro, false⟩ : Blk)]) =
  (bif Nat.blt (n + 1) 3000000 then (x_hexpr10 off bs n o lm B = x_hexpr10 off bs n o lm B ∧ ((0 < (n + 1) → ((AV.bool (decide ((0 : Int) < (Int.ofNat (n + 1))))) = (AV.bool true) ∧ (1 = 1 ∧ inR (0 : Int) (n + 1) = some 0) ∧ (o ≤ (off + 0 * 1) ∧ (off + 0 * 1) - o < B.length) ∧ (AV.int .u8 (B.getD ((off + 0 * 1) - o) 0)) = (AV.int .u8 ((seg B (off - o) (n + 1)).getD 0 0)) ∧ psem (forget (cH13 Try.prog)) .idxStr [(.str [48, 49, 50, 51, 52, 53, 54, 55, 56, 57, 97, 98, 99, 100, 101, 102]), (.int .u8 (Int.fdiv ((seg B (off - o) (n + 1)).getD 0 0) (2 ^ 4)))] [(⟨(.at o (.nums .u8 B)), .ro, false⟩ : Blk), ⟨.junk, .dead, true⟩] = some ((.int .u8 (hexd (((seg B (off - o) (n + 1)).getD 0 0).toNat / 16))), [(⟨(.at o (.nums .u8 B)), .ro, false⟩ : Blk), ⟨.junk, .dead, true⟩], ⟨[], [], false, false⟩) ∧ psem (forget (cH13 Try.prog)) .idxStr [(.str [48, 49, 50, 51, 52, 53, 54, 55, 56, 57, 97, 98, 99, 100, 101, 102]), (.int .u8 (IntKind.u8.wrap ((BitVec.ofInt 8 ((seg B (off - o) (n + 1)).getD 0 0) &&& BitVec.ofInt 8 (15 : Int)).toNat)))] [(⟨(.at o (.nums .u8 B)), .ro, false⟩ : Blk), ⟨.junk, .dead, true⟩] = some ((.int .u8 (hexd (((seg B (off - o) (n + 1)).getD 0 0).toNat % 16))), [(⟨(.at o (.nums .u8 B)), .ro, false⟩ : Blk), ⟨.junk, .dead, true⟩], ⟨[], [], false, false⟩) ∧ x_hexpr1 off bs n o lm B [(hexd (((seg B (off - o) (n + 1)).getD 0 0).toNat / 16)), (hexd (((seg B (off - o) (n + 1)).getD 0 0).toNat % 16))] 2 1 = x_hexpr1 off bs n o lm B (hexL (seg B (off - o) (n + 1)) 1) (2 * 1) 1)) ∧ (∀ k0, k0 + 1 < (n + 1) → ((AV.bool (decide ((Int.ofNat (k0 + 1)) < (Int.ofNat (n + 1))))) = (AV.bool true) ∧ (1 = 1 ∧ inR (Int.ofNat (k0 + 1)) (n + 1) = some (k0 + 1)) ∧ (o ≤ (off + (k0 + 1) * 1) ∧ (off + (k0 + 1) * 1) - o < B.length) ∧ (AV.int .u8 (B.getD ((off + (k0 + 1) * 1) - o) 0)) = (AV.int .u8 ((seg B (off - o) (n + 1)).getD (k0 + 1) 0)) ∧ psem (forget (cH13 Try.prog)) .idxStr [(.str [48, 49, 50, 51, 52, 53, 54, 55, 56, 57, 97, 98, 99, 100, 101, 102]), (.int .u8 (Int.fdiv ((seg B (off - o) (n + 1)).getD (k0 + 1) 0) (2 ^ 4)))] [(⟨(.at o (.nums .u8 B)), .ro, false⟩ : Blk), ⟨(.nums .u8 (hexL (seg B (off - o) (n + 1)) (k0 + 1))), .grow, false⟩, ⟨.junk, .dead, true⟩] = some ((.int .u8 (hexd (((seg B (off - o) (n + 1)).getD (k0 + 1) 0).toNat / 16))), [(⟨(.at o (.nums .u8 B)), .ro, false⟩ : Blk), ⟨(.nums .u8 (hexL (seg B (off - o) (n + 1)) (k0 + 1))), .grow, false⟩, ⟨.junk, .dead, true⟩], ⟨[], [], false, false⟩) ∧ psem (forget (cH13 Try.prog)) .idxStr [(.str [48, 49, 50, 51, 52, 53, 54, 55, 56, 57, 97, 98, 99, 100, 101, 102]), (.int .u8 (IntKind.u8.wrap ((BitVec.ofInt 8 ((seg B (off - o) (n + 1)).getD (k0 + 1) 0) &&& BitVec.ofInt 8 (15 : Int)).toNat)))] [(⟨(.at o (.nums .u8 B)), .ro, false⟩ : Blk), ⟨(.nums .u8 (hexL (seg B (off - o) (n + 1)) (k0 + 1))), .grow, false⟩, ⟨.junk, .dead, true⟩] = some ((.int .u8 (hexd (((seg B (off - o) (n + 1)).getD (k0 + 1) 0).toNat % 16))), [(⟨(.at o (.nums .u8 B)), .ro, false⟩ : Blk), ⟨(.nums .u8 (hexL (seg B (off - o) (n + 1)) (k0 + 1))), .grow, false⟩, ⟨.junk, .dead, true⟩], ⟨[], [], false, false⟩) ∧ psem (forget (cH13 Try.prog)) (.append 1 1) [(.sl 1 0 0 (2 * (k0 + 1)) 1 none), (.sl 2 0 0 2 1 none)] [(⟨(.at o (.nums .u8 B)), .ro, false⟩ : Blk), ⟨(.nums .u8 (hexL (seg B (off - o) (n + 1)) (k0 + 1))), .grow, false⟩, ⟨(.nums .u8 [(hexd (((seg B (off - o) (n + 1)).getD (k0 + 1) 0).toNat / 16)), (hexd (((seg B (off - o) (n + 1)).getD (k0 + 1) 0).toNat % 16))]), .own, true⟩] = some ((.sl 3 0 0 ((2 * (k0 + 1)) + 2) 1 none), [(⟨(.at o (.nums .u8 B)), .ro, false⟩ : Blk), ⟨.junk, .dead, true⟩, ⟨(.nums .u8 [(hexd (((seg B (off - o) (n + 1)).getD (k0 + 1) 0).toNat / 16)), (hexd (((seg B (off - o) (n + 1)).getD (k0 + 1) 0).toNat % 16))]), .own, true⟩, ⟨(.nums .u8 ((hexL (seg B (off - o) (n + 1)) (k0 + 1)) ++ [(hexd (((seg B (off - o) (n + 1)).getD (k0 + 1) 0).toNat / 16)), (hexd (((seg B (off - o) (n + 1)).getD (k0 + 1) 0).toNat % 16))])), .grow, false⟩], ⟨[], [1], true, false⟩) ∧ (AV.int .i64 (IntKind.i64.wrap ((Int.ofNat (k0 + 1)) + (1 : Int)))) = (AV.int .i64 (Int.ofNat ((k0 + 1) + 1))) ∧ x_hexpr1 off bs n o lm B ((hexL (seg B (off - o) (n + 1)) (k0 + 1)) ++ [(hexd (((seg B (off - o) (n + 1)).getD (k0 + 1) 0).toNat / 16)), (hexd (((seg B (off - o) (n + 1)).getD (k0 + 1) 0).toNat % 16))]) ((2 * (k0 + 1)) + 2) ((k0 + 1) + 1) = x_hexpr1 off bs n o lm B (hexL (seg B (off - o) (n + 1)) ((k0 + 1) + 1)) (2 * ((k0 + 1) + 1)) ((k0 + 1) + 1)))) ∧ (AV.bool (decide ((Int.ofNat (n + 1)) < (Int.ofNat (n + 1))))) = (AV.bool false) ∧ psem (forget (cH13 Try.prog)) .b2s [(.sl 1 0 0 (2 * (n + 1)) 1 none)] [(⟨(.at o (.nums .u8 B)), .ro, false⟩ : Blk), ⟨(.nums .u8 (hexL (seg B (off - o) (n + 1)) (n + 1))), .grow, false⟩] = some ((.str (bytesOf (hexL (seg B (off - o) (n + 1)) (n + 1)))), [(⟨(.at o (.nums .u8 B)), .ro, false⟩ : Blk), ⟨(.nums .u8 (hexL (seg B (off - o) (n + 1)) (n + 1))), .grow, false⟩], ⟨[1], [], false, false⟩) ∧ ((AV.str (bytesOf (hexL (seg B (off - o) (n + 1)) (n + 1)))) = (AV.str (bytesOf (hexL (seg B (off - o) (n + 1)) (n + 1)))) ∧ ([(⟨(.at o (.nums .u8 B)), .ro, false⟩ : Blk)] : Mem) = [(⟨(.at o (.nums .u8 B)), .ro, false⟩ : Blk)])) else False) := by kernel_rfl
set_option maxHeartbeats 4000000 in
set_option maxRecDepth 100000 in
theorem hexpr1_ok {off bs n o : Nat} {lm : Option Nat} {B : List Int} (hyp : o ≤ off ∧ off - o + (n + 1) ≤ B.length ∧ n < 1000000 ∧ Bys B) : ∃ D H N, specW Try.prog D (cH13 Try.prog) H N 25 [(.sl 0 off bs (n + 1) 1 lm)] [(⟨(.at o (.nums .u8 B)), .ro, false⟩ : Blk)] fun v M => v = (.str (bytesOf (hexL (seg B (off - o) (n + 1)) (n + 1)))) ∧ M = [(⟨(.at o (.nums .u8 B)), .ro, false⟩ : Blk)] := by
  have hn : n < 1000000 := hyp.2.2.1
  exact ⟨d_hexpr1, _, 3000000, Eq.mpr (run_hexpr1 off bs n o lm B) (bifT (blt_ok (by have := hyp.2.2.1; omega)) ⟨rfl, ⟨fun _ => ⟨(aB (d_lt (a := 0) (b := n + 1) (by omega))), ⟨rfl, (inR_ok (n := 0) (by omega))⟩, ⟨(by omega), (by omega)⟩, (aI (by rw [← seg_get' (k := 0) (by omega) (by omega)])), (idx_hex (by obtain ⟨m, h1, _, h3⟩ := hex_hi (bys_get (seg_by (off := off - o) (n := n + 1) hyp.2.2.2) 0); rw [h1, h3]) (by have := (bys_get (seg_by (off := off - o) (n := n + 1) hyp.2.2.2) 0); omega)), (idx_hex (hex_lo (bys_get (seg_by (off := off - o) (n := n + 1) hyp.2.2.2) 0)) (by omega)), rfl⟩, fun k0 hk0 => ⟨(aB (d_lt (a := (k0 + 1)) (b := n + 1) (by omega))), ⟨rfl, (inR_ok (n := (k0 + 1)) (by omega))⟩, ⟨(by omega), (by omega)⟩, (aI (seg_get' (k := (k0 + 1)) (by omega) (by omega))), (idx_hex (by obtain ⟨m, h1, _, h3⟩ := hex_hi (bys_get (seg_by (off := off - o) (n := n + 1) hyp.2.2.2) (k0 + 1)); rw [h1, h3]) (by have := (bys_get (seg_by (off := off - o) (n := n + 1) hyp.2.2.2) (k0 + 1)); omega)), (idx_hex (hex_lo (bys_get (seg_by (off := off - o) (n := n + 1) hyp.2.2.2) (k0 + 1))) (by omega)), (app_grow (n := 2) rfl (hexL_len _ _) rfl (src_nums (off := 0) (n := 2) (l := [(hexd (((seg B (off - o) (n + 1)).getD (k0 + 1) 0).toNat / 16)), (hexd (((seg B (off - o) (n + 1)).getD (k0 + 1) 0).toNat % 16))]) rfl (Nat.le_refl 2)) (by omega)), (aI (i_add (a := (k0 + 1)) (b := 1) (c := ((k0 + 1) + 1)) (by omega) (by omega))), rfl⟩⟩, (aB (d_ltn (a := n + 1) (b := n + 1) (by omega))), (by have := b2s_nums (C := forget (cH13 Try.prog)) (M := [(⟨(.at o (.nums .u8 B)), .ro, false⟩ : Blk), ⟨(.nums .u8 (hexL (seg B (off - o) (n + 1)) (n + 1))), .grow, false⟩]) (j := 1) (off := 0) (b := 0) (n := 2 * (n + 1)) (lim := none) (l := hexL (seg B (off - o) (n + 1)) (n + 1)) rfl (by rw [hexL_len]; omega); rw [seg_all (hexL_len _ _)] at this; exact this), ⟨rfl, rfl⟩⟩)⟩
theorem hexpr_ok {off bs n o : Nat} {lm : Option Nat} {B : List Int} (hyp : o ≤ off ∧ off - o + n ≤ B.length ∧ n < 1000001 ∧ Bys B) : ∃ D H N, specW Try.prog D (cH13 Try.prog) H N 25 [(.sl 0 off bs n 1 lm)] [(⟨(.at o (.nums .u8 B)), .ro, false⟩ : Blk)] fun v M => v = (.str (bytesOf (hexL (seg B (off - o) n) n))) ∧ M = [(⟨(.at o (.nums .u8 B)), .ro, false⟩ : Blk)] := by
  cases n with
  | zero => exact hexpr0_ok ⟨hyp.1, hyp.2.1⟩
  | succ n => exact hexpr1_ok ⟨hyp.1, hyp.2.1, by have := hyp.2.2.1; omega, hyp.2.2.2⟩
def s_hexp : Spec := fun a M => match a, M with
  | [.nilsl], [] => some (none, (.str []), [])
  | [(.sl 0 off bs n 1 lm)], [⟨(.at o (.nums .u8 B)), .ro, false⟩] => some (some (o ≤ off ∧ off - o + n ≤ B.length ∧ n < 1000001 ∧ Bys B), (.str (bytesOf (hexL (seg B (off - o) n) n))), [(⟨(.at o (.nums .u8 B)), .ro, false⟩ : Blk)])
  | _, _ => none
def h_hexqN : Hints := ⟨fun it t => match t with
  | _ => none, fun it id => match id, it with
  | _, _ => none⟩
set_option maxHeartbeats 4000000 in
set_option maxRecDepth 100000 in
theorem run_hexqN  : specW Try.prog noD (cH13 Try.prog) (h_hexqN) 3000000 28 [.nilsl] [] (fun v M => v = (.str []) ∧ M = []) =
  ((AV.str []) = (AV.str []) ∧ ([] : Mem) = []) := by kernel_rfl
set_option maxHeartbeats 4000000 in
set_option maxRecDepth 100000 in
theorem hexqN_ok  : ∃ D H N, specW Try.prog D (cH13 Try.prog) H N 28 [.nilsl] [] fun v M => v = (.str []) ∧ M = [] := by
  exact ⟨noD, _, 3000000, Eq.mpr (run_hexqN) ⟨rfl, rfl⟩⟩
def h_hexqr0 (off bs o : Nat) (lm : Option Nat) (B : List Int) : Hints := ⟨fun it t => match t with
  | _ => none, fun it id => match id, it with
  | _, _ => none⟩
set_option maxHeartbeats 4000000 in
set_option maxRecDepth 100000 in
theorem run_hexqr0 (off bs o : Nat) (lm : Option Nat) (B : List Int) : specW Try.prog noD (cH13 Try.prog) (h_hexqr0 off bs o lm B) 3000000 28 [(.sl 0 off bs 0 1 lm)] [(⟨(.at o (.nums .u8 B)), .ro, false⟩ : Blk)] (fun v M => v = (.str []) ∧ M = [(⟨(.at o (.nums .u8 B)), .ro, false⟩ : Blk)]) =
  ((AV.str []) = (AV.str []) ∧ ([(⟨(.at o (.nums .u8 B)), .ro, false⟩ : Blk)] : Mem) = [(⟨(.at o (.nums .u8 B)), .ro, false⟩ : Blk)]) := by kernel_rfl
set_option maxHeartbeats 4000000 in
set_option maxRecDepth 100000 in
theorem hexqr0_ok {off bs o : Nat} {lm : Option Nat} {B : List Int} (hyp : o ≤ off ∧ off - o ≤ B.length) : ∃ D H N, specW Try.prog D (cH13 Try.prog) H N 28 [(.sl 0 off bs 0 1 lm)] [(⟨(.at o (.nums .u8 B)), .ro, false⟩ : Blk)] fun v M => v = (.str []) ∧ M = [(⟨(.at o (.nums .u8 B)), .ro, false⟩ : Blk)] := by
  exact ⟨noD, _, 3000000, Eq.mpr (run_hexqr0 off bs o lm B) ⟨rfl, rfl⟩⟩
def x_hexqr1 (off bs n o : Nat) (lm : Option Nat) (B : List Int) (X : List Int) (ln : Nat) (q : Nat) : St := ⟨((.sl 0 off bs (n + 1) 1 lm) :: (.junk :: (.junk :: ((.sl 1 0 0 ln 1 none) :: ((.int .i64 (Int.ofNat q)) :: (jk 23 [])))))), [⟨(.at o (.nums .u8 B)), .ro, false⟩, ⟨(.nums .u8 X), .grow, false⟩]⟩
def x_hexqr10 (off bs n o : Nat) (lm : Option Nat) (B : List Int) : St := ⟨((.sl 0 off bs (n + 1) 1 lm) :: (.junk :: (.junk :: (.nilsl :: ((.int .i64 0) :: (jk 23 [])))))), [⟨(.at o (.nums .u8 B)), .ro, false⟩]⟩
def h_hexqr1 (off bs n o : Nat) (lm : Option Nat) (B : List Int) : Hints := ⟨fun it t => match t with
  | 8 => (match (lkH [([some 0], (.val (.bool true))), ([none], (.val (.bool false)))] it : Option VH), it with | some v, _ => some v | none, [some (k0 + 1)] => some (.val (.bool true)) | _, _ => none)
  | 14 => (match (bif eqIt [some 0] it then some .ask else none : Option VH), it with | some v, _ => some v | none, [some (k0 + 1)] => some .ask | _, _ => none)
  | 15 => (match (bif eqIt [some 0] it then some (.askv (.int .u8 ((seg B (off - o) (n + 1)).getD 0 0))) else none : Option VH), it with | some v, _ => some v | none, [some (k0 + 1)] => some (.askv (.int .u8 ((seg B (off - o) (n + 1)).getD (k0 + 1) 0))) | _, _ => none)
  | 17 => (match (bif eqIt [some 0] it then some (.op (.int .u8 (hexd (((seg B (off - o) (n + 1)).getD 0 0).toNat / 16))) [(⟨(.at o (.nums .u8 B)), .ro, false⟩ : Blk), ⟨.junk, .dead, true⟩] ⟨[], [], false, false⟩) else none : Option VH), it with | some v, _ => some v | none, [some (k0 + 1)] => some (.op (.int .u8 (hexd (((seg B (off - o) (n + 1)).getD (k0 + 1) 0).toNat / 16))) [(⟨(.at o (.nums .u8 B)), .ro, false⟩ : Blk), ⟨(.nums .u8 (hexL (seg B (off - o) (n + 1)) (k0 + 1))), .grow, false⟩, ⟨.junk, .dead, true⟩] ⟨[], [], false, false⟩) | _, _ => none)
  | 20 => (match (bif eqIt [some 0] it then some .ask else none : Option VH), it with | some v, _ => some v | none, [some (k0 + 1)] => some .ask | _, _ => none)
  | 21 => (match (bif eqIt [some 0] it then some (.askv (.int .u8 ((seg B (off - o) (n + 1)).getD 0 0))) else none : Option VH), it with | some v, _ => some v | none, [some (k0 + 1)] => some (.askv (.int .u8 ((seg B (off - o) (n + 1)).getD (k0 + 1) 0))) | _, _ => none)
  | 23 => (match (bif eqIt [some 0] it then some (.op (.int .u8 (hexd (((seg B (off - o) (n + 1)).getD 0 0).toNat % 16))) [(⟨(.at o (.nums .u8 B)), .ro, false⟩ : Blk), ⟨.junk, .dead, true⟩] ⟨[], [], false, false⟩) else none : Option VH), it with | some v, _ => some v | none, [some (k0 + 1)] => some (.op (.int .u8 (hexd (((seg B (off - o) (n + 1)).getD (k0 + 1) 0).toNat % 16))) [(⟨(.at o (.nums .u8 B)), .ro, false⟩ : Blk), ⟨(.nums .u8 (hexL (seg B (off - o) (n + 1)) (k0 + 1))), .grow, false⟩, ⟨.junk, .dead, true⟩] ⟨[], [], false, false⟩) | _, _ => none)
  | 25 => (match it with | [some (k0 + 1)] => some (.op (.sl 3 0 0 ((2 * (k0 + 1)) + 2) 1 none) [(⟨(.at o (.nums .u8 B)), .ro, false⟩ : Blk), ⟨.junk, .dead, true⟩, ⟨(.nums .u8 [(hexd (((seg B (off - o) (n + 1)).getD (k0 + 1) 0).toNat / 16)), (hexd (((seg B (off - o) (n + 1)).getD (k0 + 1) 0).toNat % 16))]), .own, true⟩, ⟨(.nums .u8 ((hexL (seg B (off - o) (n + 1)) (k0 + 1)) ++ [(hexd (((seg B (off - o) (n + 1)).getD (k0 + 1) 0).toNat / 16)), (hexd (((seg B (off - o) (n + 1)).getD (k0 + 1) 0).toNat % 16))])), .grow, false⟩] ⟨[], [1], true, false⟩) | _ => none)
  | 10 => (match it with | [some (k0 + 1)] => some (.val (.int .i64 (Int.ofNat ((k0 + 1) + 1)))) | _ => none)
  | 27 => bif eqIt [] it then some (.op (.str (bytesOf (hexL (seg B (off - o) (n + 1)) (n + 1)))) [(⟨(.at o (.nums .u8 B)), .ro, false⟩ : Blk), ⟨(.nums .u8 (hexL (seg B (off - o) (n + 1)) (n + 1))), .grow, false⟩] ⟨[1], [], false, false⟩) else none
  | _ => none, fun it id => match id, it with
  | 0, [] => some ⟨(n + 1), true, true, fun kk => match kk with | 0 => x_hexqr10 off bs n o lm B | kk + 1 => x_hexqr1 off bs n o lm B (hexL (seg B (off - o) (n + 1)) (kk + 1)) (2 * (kk + 1)) (kk + 1)⟩
  | _, _ => none⟩
def d_hexqr1 : Nat → Option (List Nat) := fun n => match n with
  | 0 => some [1, 2, 5, 6, 7, 8, 9, 10, 11, 12, 13, 14, 15, 16, 17, 18, 19, 20, 21, 22, 23, 24, 25, 26, 27]
  | _ => none
set_option maxHeartbeats 4000000 in
set_option maxRecDepth 100000 in
theorem run_hexqr1 (off bs n o : Nat) (lm : Option Nat) (B : List Int) : specW Try.prog d_hexqr1 (cH13 Try.prog) (h_hexqr1 off bs n o lm B) 3000000 28 [(.sl 0 off bs (n + 1) 1 lm)] [(⟨(.at o (.nums .u8 B)), .ro, false⟩ : Blk)] (fun v M => v = (.str (bytesOf (hexL (seg B (off - o) (n + 1)) (n + 1)))) ∧ M = [(⟨(.at o (.nums .u8 B)), .ro, false⟩ : Blk)]) =
  (bif Nat.blt (n + 1) 3000000 then (x_hexqr10 off bs n o lm B = x_hexqr10 off bs n o lm B ∧ ((0 < (n + 1) → ((AV.bool (decide ((0 : Int) < (Int.ofNat (n + 1))))) = (AV.bool true) ∧ (1 = 1 ∧ inR (0 : Int) (n + 1) = some 0) ∧ (o ≤ (off + 0 * 1) ∧ (off + 0 * 1) - o < B.length) ∧ (AV.int .u8 (B.getD ((off + 0 * 1) - o) 0)) = (AV.int .u8 ((seg B (off - o) (n + 1)).getD 0 0)) ∧ psem (forget (cH13 Try.prog)) .idxStr [(.str [48, 49, 50, 51, 52, 53, 54, 55, 56, 57, 97, 98, 99, 100, 101, 102]), (.int .u8 (Int.fdiv ((seg B (off - o) (n + 1)).getD 0 0) (2 ^ 4)))] [(⟨(.at o (.nums .u8 B)), .ro, false⟩ : Blk), ⟨.junk, .dead, true⟩] = some ((.int .u8 (hexd (((seg B (off - o) (n + 1)).getD 0 0).toNat / 16))), [(⟨(.at o (.nums .u8 B)), .ro, false⟩ : Blk), ⟨.junk, .dead, true⟩], ⟨[], [], false, false⟩) ∧ (1 = 1 ∧ inR (0 : Int) (n + 1) = some 0) ∧ (o ≤ (off + 0 * 1) ∧ (off + 0 * 1) - o < B.length) ∧ (AV.int .u8 (B.getD ((off + 0 * 1) - o) 0)) = (AV.int .u8 ((seg B (off - o) (n + 1)).getD 0 0)) ∧ psem (forget (cH13 Try.prog)) .idxStr [(.str [48, 49, 50, 51, 52, 53, 54, 55, 56, 57, 97, 98, 99, 100, 101, 102]), (.int .u8 (IntKind.u8.wrap ((BitVec.ofInt 8 ((seg B (off - o) (n + 1)).getD 0 0) &&& BitVec.ofInt 8 (15 : Int)).toNat)))] [(⟨(.at o (.nums .u8 B)), .ro, false⟩ : Blk), ⟨.junk, .dead, true⟩] = some ((.int .u8 (hexd (((seg B (off - o) (n + 1)).getD 0 0).toNat % 16))), [(⟨(.at o (.nums .u8 B)), .ro, false⟩ : Blk), ⟨.junk, .dead, true⟩], ⟨[], [], false, false⟩) ∧ x_hexqr1 off bs n o lm B [(hexd (((seg B (off - o) (n + 1)).getD 0 0).toNat / 16)), (hexd (((seg B (off - o) (n + 1)).getD 0 0).toNat % 16))] 2 1 = x_hexqr1 off bs n o lm B (hexL (seg B (off - o) (n + 1)) 1) (2 * 1) 1)) ∧ (∀ k0, k0 + 1 < (n + 1) → ((AV.bool (decide ((Int.ofNat (k0 + 1)) < (Int.ofNat (n + 1))))) = (AV.bool true) ∧ (1 = 1 ∧ inR (Int.ofNat (k0 + 1)) (n + 1) = some (k0 + 1)) ∧ (o ≤ (off + (k0 + 1) * 1) ∧ (off + (k0 + 1) * 1) - o < B.length) ∧ (AV.int .u8 (B.getD ((off + (k0 + 1) * 1) - o) 0)) = (AV.int .u8 ((seg B (off - o) (n + 1)).getD (k0 + 1) 0)) ∧ psem (forget (cH13 Try.prog)) .idxStr [(.str [48, 49, 50, 51, 52, 53, 54, 55, 56, 57, 97, 98, 99, 100, 101, 102]), (.int .u8 (Int.fdiv ((seg B (off - o) (n + 1)).getD (k0 + 1) 0) (2 ^ 4)))] [(⟨(.at o (.nums .u8 B)), .ro, false⟩ : Blk), ⟨(.nums .u8 (hexL (seg B (off - o) (n + 1)) (k0 + 1))), .grow, false⟩, ⟨.junk, .dead, true⟩] = some ((.int .u8 (hexd (((seg B (off - o) (n + 1)).getD (k0 + 1) 0).toNat / 16))), [(⟨(.at o (.nums .u8 B)), .ro, false⟩ : Blk), ⟨(.nums .u8 (hexL (seg B (off - o) (n + 1)) (k0 + 1))), .grow, false⟩, ⟨.junk, .dead, true⟩], ⟨[], [], false, false⟩) ∧ (1 = 1 ∧ inR (Int.ofNat (k0 + 1)) (n + 1) = some (k0 + 1)) ∧ (o ≤ (off + (k0 + 1) * 1) ∧ (off + (k0 + 1) * 1) - o < B.length) ∧ (AV.int .u8 (B.getD ((off + (k0 + 1) * 1) - o) 0)) = (AV.int .u8 ((seg B (off - o) (n + 1)).getD (k0 + 1) 0)) ∧ psem (forget (cH13 Try.prog)) .idxStr [(.str [48, 49, 50, 51, 52, 53, 54, 55, 56, 57, 97, 98, 99, 100, 101, 102]), (.int .u8 (IntKind.u8.wrap ((BitVec.ofInt 8 ((seg B (off - o) (n + 1)).getD (k0 + 1) 0) &&& BitVec.ofInt 8 (15 : Int)).toNat)))] [(⟨(.at o (.nums .u8 B)), .ro, false⟩ : Blk), ⟨(.nums .u8 (hexL (seg B (off - o) (n + 1)) (k0 + 1))), .grow, false⟩, ⟨.junk, .dead, true⟩] = some ((.int .u8 (hexd (((seg B (off - o) (n + 1)).getD (k0 + 1) 0).toNat % 16))), [(⟨(.at o (.nums .u8 B)), .ro, false⟩ : Blk), ⟨(.nums .u8 (hexL (seg B (off - o) (n + 1)) (k0 + 1))), .grow, false⟩, ⟨.junk, .dead, true⟩], ⟨[], [], false, false⟩) ∧ psem (forget (cH13 Try.prog)) (.append 1 1) [(.sl 1 0 0 (2 * (k0 + 1)) 1 none), (.sl 2 0 0 2 1 none)] [(⟨(.at o (.nums .u8 B)), .ro, false⟩ : Blk), ⟨(.nums .u8 (hexL (seg B (off - o) (n + 1)) (k0 + 1))), .grow, false⟩, ⟨(.nums .u8 [(hexd (((seg B (off - o) (n + 1)).getD (k0 + 1) 0).toNat / 16)), (hexd (((seg B (off - o) (n + 1)).getD (k0 + 1) 0).toNat % 16))]), .own, true⟩] = some ((.sl 3 0 0 ((2 * (k0 + 1)) + 2) 1 none), [(⟨(.at o (.nums .u8 B)), .ro, false⟩ : Blk), ⟨.junk, .dead, true⟩, ⟨(.nums .u8 [(hexd (((seg B (off - o) (n + 1)).getD (k0 + 1) 0).toNat / 16)), (hexd (((seg B (off - o) (n + 1)).getD (k0 + 1) 0).toNat % 16))]), .own, true⟩, ⟨(.nums .u8 ((hexL (seg B (off - o) (n + 1)) (k0 + 1)) ++ [(hexd (((seg B (off - o) (n + 1)).getD (k0 + 1) 0).toNat / 16)), (hexd (((seg B (off - o) (n + 1)).getD (k0 + 1) 0).toNat % 16))])), .grow, false⟩], ⟨[], [1], true, false⟩) ∧ (AV.int .i64 (IntKind.i64.wrap ((Int.ofNat (k0 + 1)) + (1 : Int)))) = (AV.int .i64 (Int.ofNat ((k0 + 1) + 1))) ∧ x_hexqr1 off bs n o lm B ((hexL (seg B (off - o) (n + 1)) (k0 + 1)) ++ [(hexd (((seg B (off - o) (n + 1)).getD (k0 + 1) 0).toNat / 16)), (hexd (((seg B (off - o) (n + 1)).getD (k0 + 1) 0).toNat % 16))]) ((2 * (k0 + 1)) + 2) ((k0 + 1) + 1) = x_hexqr1 off bs n o lm B (hexL (seg B (off - o) (n + 1)) ((k0 + 1) + 1)) (2 * ((k0 + 1) + 1)) ((k0 + 1) + 1)))) ∧ (AV.bool (decide ((Int.ofNat (n + 1)) < (Int.ofNat (n + 1))))) = (AV.bool false) ∧ psem (forget (cH13 Try.prog)) .b2s [(.sl 1 0 0 (2 * (n + 1)) 1 none)] [(⟨(.at o (.nums .u8 B)), .ro, false⟩ : Blk), ⟨(.nums .u8 (hexL (seg B (off - o) (n + 1)) (n + 1))), .grow, false⟩] = some ((.str (bytesOf (hexL (seg B (off - o) (n + 1)) (n + 1)))), [(⟨(.at o (.nums .u8 B)), .ro, false⟩ : Blk), ⟨(.nums .u8 (hexL (seg B (off - o) (n + 1)) (n + 1))), .grow, false⟩], ⟨[1], [], false, false⟩) ∧ ((AV.str (bytesOf (hexL (seg B (off - o) (n + 1)) (n + 1)))) = (AV.str (bytesOf (hexL (seg B (off - o) (n + 1)) (n + 1)))) ∧ ([(⟨(.at o (.nums .u8 B)), .ro, false⟩ : Blk)] : Mem) = [(⟨(.at o (.nums .u8 B)), .ro, false⟩ : Blk)])) else False) := by kernel_rfl
set_option maxHeartbeats 4000000 in
set_option maxRecDepth 100000 in
theorem hexqr1_ok {off bs n o : Nat} {lm : Option Nat} {B : List Int} (hyp : o ≤ off ∧ off - o + (n + 1) ≤ B.length ∧ n < 1000000 ∧ Bys B) : ∃ D H N, specW Try.prog D (cH13 Try.prog) H N 28 [(.sl 0 off bs (n + 1) 1 lm)] [(⟨(.at o (.nums .u8 B)), .ro, false⟩ : Blk)] fun v M => v = (.str (bytesOf (hexL (seg B (off - o) (n + 1)) (n + 1)))) ∧ M = [(⟨(.at o (.nums .u8 B)), .ro, false⟩ : Blk)] := by
  have hn : n < 1000000 := hyp.2.2.1
  exact ⟨d_hexqr1, _, 3000000, Eq.mpr (run_hexqr1 off bs n o lm B) (bifT (blt_ok (by have := hyp.2.2.1; omega)) ⟨rfl, ⟨fun _ => ⟨(aB (d_lt (a := 0) (b := n + 1) (by omega))), ⟨rfl, (inR_ok (n := 0) (by omega))⟩, ⟨(by omega), (by omega)⟩, (aI (by rw [← seg_get' (k := 0) (by omega) (by omega)])), (idx_hex (by obtain ⟨m, h1, _, h3⟩ := hex_hi (bys_get (seg_by (off := off - o) (n := n + 1) hyp.2.2.2) 0); rw [h1, h3]) (by have := (bys_get (seg_by (off := off - o) (n := n + 1) hyp.2.2.2) 0); omega)), ⟨rfl, (inR_ok (n := 0) (by omega))⟩, ⟨(by omega), (by omega)⟩, (aI (by rw [← seg_get' (k := 0) (by omega) (by omega)])), (idx_hex (hex_lo (bys_get (seg_by (off := off - o) (n := n + 1) hyp.2.2.2) 0)) (by omega)), rfl⟩, fun k0 hk0 => ⟨(aB (d_lt (a := (k0 + 1)) (b := n + 1) (by omega))), ⟨rfl, (inR_ok (n := (k0 + 1)) (by omega))⟩, ⟨(by omega), (by omega)⟩, (aI (seg_get' (k := (k0 + 1)) (by omega) (by omega))), (idx_hex (by obtain ⟨m, h1, _, h3⟩ := hex_hi (bys_get (seg_by (off := off - o) (n := n + 1) hyp.2.2.2) (k0 + 1)); rw [h1, h3]) (by have := (bys_get (seg_by (off := off - o) (n := n + 1) hyp.2.2.2) (k0 + 1)); omega)), ⟨rfl, (inR_ok (n := (k0 + 1)) (by omega))⟩, ⟨(by omega), (by omega)⟩, (aI (seg_get' (k := (k0 + 1)) (by omega) (by omega))), (idx_hex (hex_lo (bys_get (seg_by (off := off - o) (n := n + 1) hyp.2.2.2) (k0 + 1))) (by omega)), (app_grow (n := 2) rfl (hexL_len _ _) rfl (src_nums (off := 0) (n := 2) (l := [(hexd (((seg B (off - o) (n + 1)).getD (k0 + 1) 0).toNat / 16)), (hexd (((seg B (off - o) (n + 1)).getD (k0 + 1) 0).toNat % 16))]) rfl (Nat.le_refl 2)) (by omega)), (aI (i_add (a := (k0 + 1)) (b := 1) (c := ((k0 + 1) + 1)) (by omega) (by omega))), rfl⟩⟩, (aB (d_ltn (a := n + 1) (b := n + 1) (by omega))), (by have := b2s_nums (C := forget (cH13 Try.prog)) (M := [(⟨(.at o (.nums .u8 B)), .ro, false⟩ : Blk), ⟨(.nums .u8 (hexL (seg B (off - o) (n + 1)) (n + 1))), .grow, false⟩]) (j := 1) (off := 0) (b := 0) (n := 2 * (n + 1)) (lim := none) (l := hexL (seg B (off - o) (n + 1)) (n + 1)) rfl (by rw [hexL_len]; omega); rw [seg_all (hexL_len _ _)] at this; exact this), ⟨rfl, rfl⟩⟩)⟩
theorem hexqr_ok {off bs n o : Nat} {lm : Option Nat} {B : List Int} (hyp : o ≤ off ∧ off - o + n ≤ B.length ∧ n < 1000001 ∧ Bys B) : ∃ D H N, specW Try.prog D (cH13 Try.prog) H N 28 [(.sl 0 off bs n 1 lm)] [(⟨(.at o (.nums .u8 B)), .ro, false⟩ : Blk)] fun v M => v = (.str (bytesOf (hexL (seg B (off - o) n) n))) ∧ M = [(⟨(.at o (.nums .u8 B)), .ro, false⟩ : Blk)] := by
  cases n with
  | zero => exact hexqr0_ok ⟨hyp.1, hyp.2.1⟩
  | succ n => exact hexqr1_ok ⟨hyp.1, hyp.2.1, by have := hyp.2.2.1; omega, hyp.2.2.2⟩
def s_hexq : Spec := fun a M => match a, M with
  | [.nilsl], [] => some (none, (.str []), [])
  | [(.sl 0 off bs n 1 lm)], [⟨(.at o (.nums .u8 B)), .ro, false⟩] => some (some (o ≤ off ∧ off - o + n ≤ B.length ∧ n < 1000001 ∧ Bys B), (.str (bytesOf (hexL (seg B (off - o) n) n))), [(⟨(.at o (.nums .u8 B)), .ro, false⟩ : Blk)])
  | _, _ => none
theorem s_hexp_keep : ∀ a M q v M', s_hexp a M = some (q, v, M') → M' = M ++ M'.drop M.length := by
  intro a M q v M' h
  unfold s_hexp at h
  split at h
  · simp only [Option.some.injEq, Prod.mk.injEq] at h
    obtain ⟨rfl, rfl, rfl⟩ := h
    rfl
  · simp only [Option.some.injEq, Prod.mk.injEq] at h
    obtain ⟨rfl, rfl, rfl⟩ := h
    rfl
  · cases h
theorem s_hexq_keep : ∀ a M q v M', s_hexq a M = some (q, v, M') → M' = M ++ M'.drop M.length := by
  intro a M q v M' h
  unfold s_hexq at h
  split at h
  · simp only [Option.some.injEq, Prod.mk.injEq] at h
    obtain ⟨rfl, rfl, rfl⟩ := h
    rfl
  · simp only [Option.some.injEq, Prod.mk.injEq] at h
    obtain ⟨rfl, rfl, rfl⟩ := h
    rfl
  · cases h
def cH14 (P : Program) : OrcP := addS (addS (cH13 P) 25 (weakS s_hexp)) 28 (weakS s_hexq)
theorem cH14_ok : OrcPOK Try.prog (cH14 Try.prog) := by
  unfold cH14
  refine (addS_weak mixed (addS_weak mixed cH13_ok cH13_ok s_hexp_keep ?_) cH13_ok s_hexq_keep ?_)
  · intro a M q v M' h hq
    unfold s_hexp at h
    split at h
    · simp only [Option.some.injEq, Prod.mk.injEq] at h
      obtain ⟨rfl, rfl, rfl⟩ := h
      exact hexpN_ok 
    · simp only [Option.some.injEq, Prod.mk.injEq] at h
      obtain ⟨rfl, rfl, rfl⟩ := h
      exact hexpr_ok hq
    · cases h
  · intro a M q v M' h hq
    unfold s_hexq at h
    split at h
    · simp only [Option.some.injEq, Prod.mk.injEq] at h
      obtain ⟨rfl, rfl, rfl⟩ := h
      exact hexqN_ok 
    · simp only [Option.some.injEq, Prod.mk.injEq] at h
      obtain ⟨rfl, rfl, rfl⟩ := h
      exact hexqr_ok hq
    · cases h
end Go.Proofs.Ytkeieikhmaeiiaa
