/- A disk's writes as cells; operations on arrays of writes that are not known cell by cell. No condition. -/
import Derived.Test.YtnfglcfjjemjmaaSx
import Derived.Test.YtnfglcfjjemjmaaAm23
namespace Go.Proofs.Ytnfglcfjjemjmaa
open Go Go.RowKit
set_option linter.unusedVariables false
set_option linter.unusedSimpArgs false
structure Dt where
  a : Nat
  b : Nat
  c : Nat
  x : List Int
  y : List Int
  s : List SV
  ws : List (Int × List Int)
  p : Bool
  q : Bool
  u : Int
  v : Int
def dz : Dt := ⟨0, 0, 0, [], [], [], [], false, false, 0, 0⟩
theorem i_add {a b c : Nat} (hc : a + b = c) (h : c < 4611686018427387904) : IntKind.i64.wrap (Int.ofNat a + Int.ofNat b) = Int.ofNat c := by subst hc; exact i64_small (a + b) (by omega)
theorem i_sub {a b : Nat} (h : b ≤ a) (h2 : a < 4611686018427387904) : IntKind.i64.wrap (Int.ofNat a - Int.ofNat b) = Int.ofNat (a - b) := by
  have : Int.ofNat a - Int.ofNat b = Int.ofNat (a - b) := by simp only [Int.ofNat_eq_natCast]; omega
  rw [this]; exact i64_small (a - b) (by omega)
theorem i_mul {a b : Nat} (h : a * b < 4611686018427387904) : IntKind.i64.wrap (Int.ofNat a * Int.ofNat b) = Int.ofNat (a * b) := i64_small (a * b) (by omega)
theorem i_quo {a b : Nat} (h : a < 4611686018427387904) : IntKind.i64.wrap (Int.tdiv (Int.ofNat a) (Int.ofNat b)) = Int.ofNat (a / b) := i64_small (a / b) (Nat.lt_of_le_of_lt (Nat.div_le_self _ _) (by omega))
theorem i_rem {a b : Nat} : Int.tmod (Int.ofNat a) (Int.ofNat b) = Int.ofNat (a % b) := rfl
theorem d_lt {a b : Nat} (h : a < b) : decide (Int.ofNat a < Int.ofNat b) = true := decide_eq_true (Int.ofNat_lt.2 h)
theorem d_ltn {a b : Nat} (h : b ≤ a) : decide (Int.ofNat a < Int.ofNat b) = false := decide_eq_false fun k => by have := Int.ofNat_lt.1 k; omega
theorem d_gt {a b : Nat} (h : b < a) : decide (Int.ofNat a > Int.ofNat b) = true := decide_eq_true (Int.ofNat_lt.2 h)
theorem d_gtn {a b : Nat} (h : a ≤ b) : decide (Int.ofNat a > Int.ofNat b) = false := decide_eq_false fun k => by have := Int.ofNat_lt.1 k; omega
theorem d_ge {a b : Nat} (h : b ≤ a) : decide (Int.ofNat a ≥ Int.ofNat b) = true := decide_eq_true (Int.ofNat_le.2 h)
theorem d_gen {a b : Nat} (h : a < b) : decide (Int.ofNat a ≥ Int.ofNat b) = false := decide_eq_false fun k => by have := Int.ofNat_le.1 k; omega
theorem d_le {a b : Nat} (h : a ≤ b) : decide (Int.ofNat a ≤ Int.ofNat b) = true := decide_eq_true (Int.ofNat_le.2 h)
theorem d_len {a b : Nat} (h : b < a) : decide (Int.ofNat a ≤ Int.ofNat b) = false := decide_eq_false fun k => by have := Int.ofNat_le.1 k; omega
theorem lt_of {a b : Nat} (h : decide (Int.ofNat a < Int.ofNat b) = true) : a < b := Int.ofNat_lt.1 (of_decide_eq_true h)
theorem ge_of {a b : Nat} (h : decide (Int.ofNat a < Int.ofNat b) = false) : b ≤ a := by
  have := of_decide_eq_false h
  have h2 : ¬ a < b := fun k => this (Int.ofNat_lt.2 k)
  omega
/-- Written? -/
def dj (d : Bool) : Nat → Bool
  | 0 => d
  | _ + 1 => true
theorem sl2_ok {C : Orc} {M : Mem} {i off base len a b c : Nat} {lim : Option Nat} {ka kb : IntKind} (hb : b = a + c) (h : b ≤ len) : psem C (.slS 1 true true) [.sl i off base len 1 lim, .int ka (Int.ofNat a), .int kb (Int.ofNat b)] M = some (.sl i (off + a) (bif Nat.beq a 0 then base else off) c 1 lim, M, ⟨[], [], false, false⟩) := by
  have h1 : Nat.ble b len = true := ble_ok h
  have h2 : Nat.ble a b = true := ble_ok (by omega)
  simp only [psem, beq_ok, cond_true, boundsA, inB, h1, h2, Nat.mul_one, show b - a = c by omega]
  rfl
/-- A write's cells. -/
def wc (a : Int) (b : List Int) : List SV := .int .i64 a :: b.map (SV.int .u8)
def wcs : List (Int × List Int) → List SV
  | [] => []
  | w :: l => wc w.1 w.2 ++ wcs l
def Wok (n : Nat) (ws : List (Int × List Int)) : Prop := ∀ w ∈ ws, 0 ≤ w.1 ∧ w.1 < n ∧ w.2.length = 64
theorem wc_len {a : Int} {b : List Int} (h : b.length = 64) : (wc a b).length = 65 := by simp [wc, h]
theorem allS_ints : ∀ b : List Int, allS (b.map (SV.int .u8)) = true
  | [] => rfl
  | x :: l => by simp only [List.map_cons, allS, SV.live, allS_ints l, Bool.and_self]
theorem wc_all (a : Int) (b : List Int) : allS (wc a b) = true := by simp only [wc, allS, SV.live, allS_ints, Bool.and_self]
theorem wcs_app : ∀ l m : List (Int × List Int), wcs (l ++ m) = wcs l ++ wcs m
  | [], m => rfl
  | w :: l, m => by simp only [List.cons_append, wcs, wcs_app l m, List.append_assoc]
theorem wcs_one (a : Int) (b : List Int) : wcs [(a, b)] = wc a b := by simp [wcs]
theorem wcs_len {n : Nat} : ∀ {ws : List (Int × List Int)}, Wok n ws → (wcs ws).length = ws.length * 65
  | [], _ => rfl
  | w :: l, h => by
    have h1 := wcs_len (ws := l) fun x hx => h x (List.mem_cons_of_mem _ hx)
    have h2 := (h w List.mem_cons_self).2.2
    simp only [wcs, List.length_append, wc_len h2, h1, List.length_cons]; omega
/-- The k-th write. -/
def wAt (ws : List (Int × List Int)) (k : Nat) : Int × List Int := ws.getD k (0, [])
theorem wcs_seg {n : Nat} : ∀ {ws : List (Int × List Int)} {k : Nat}, Wok n ws → k < ws.length → ((wcs ws).drop (k * 65)).take 65 = wc (wAt ws k).1 (wAt ws k).2
  | [], k, _, hk => by cases hk
  | w :: l, 0, h, _ => by
    have h2 := (h w List.mem_cons_self).2.2
    simp only [wcs, Nat.zero_mul, List.drop_zero]
    rw [List.take_append_of_le_length (by rw [wc_len h2]; exact Nat.le_refl _), List.take_of_length_le (by rw [wc_len h2]; exact Nat.le_refl _)]
    rfl
  | w :: l, k + 1, h, hk => by
    have h2 := (h w List.mem_cons_self).2.2
    have h1 := wcs_seg (ws := l) (k := k) (fun x hx => h x (List.mem_cons_of_mem _ hx)) (by simpa using hk)
    have e : (k + 1) * 65 = (wc w.1 w.2).length + k * 65 := by rw [wc_len h2]; omega
    simp only [wcs]
    rw [e, List.drop_append, List.drop_of_length_le (by omega), List.nil_append, show (wc w.1 w.2).length + k * 65 - (wc w.1 w.2).length = k * 65 by omega, h1]
    rfl
theorem wAt_ok {n : Nat} {ws : List (Int × List Int)} {k : Nat} (h : Wok n ws) (hk : k < ws.length) : 0 ≤ (wAt ws k).1 ∧ (wAt ws k).1 < n ∧ (wAt ws k).2.length = 64 := by
  have e : wAt ws k = ws[k] := by simp [wAt, hk]
  rw [e]; exact h _ (List.getElem_mem hk)
theorem take_wAt {ws : List (Int × List Int)} {k : Nat} (hk : k < ws.length) : ws.take (k + 1) = ws.take k ++ [wAt ws k] := by
  have e : wAt ws k = ws[k] := by simp [wAt, hk]
  rw [List.take_add_one, e, List.getElem?_eq_getElem hk]; rfl
theorem Wok.take {n : Nat} {ws : List (Int × List Int)} (h : Wok n ws) (k : Nat) : Wok n (ws.take k) := fun w hw => h w (List.mem_of_mem_take hw)
theorem Wok.drop {n : Nat} {ws : List (Int × List Int)} (h : Wok n ws) (k : Nat) : Wok n (ws.drop k) := fun w hw => h w (List.mem_of_mem_drop hw)
theorem Wok.snoc {n : Nat} {ws : List (Int × List Int)} (h : Wok n ws) {a : Int} {b : List Int} (h1 : 0 ≤ a) (h2 : a < n) (h3 : b.length = 64) : Wok n (ws ++ [(a, b)]) := fun w hw => by
  rcases List.mem_append.1 hw with hw | hw
  · exact h w hw
  · obtain rfl := List.mem_singleton.1 hw; exact ⟨h1, h2, h3⟩
theorem Wok.nil (n : Nat) : Wok n [] := fun w hw => by cases hw
/-- The writes that cells are. -/
def svI : SV → Int
  | .int _ n => n
  | _ => 0
def decW : Nat → List SV → List (Int × List Int)
  | 0, _ => []
  | m + 1, W => (svI (W.headD .junk), ((W.drop 1).take 64).map svI) :: decW m (W.drop 65)
theorem dec_wcs {n : Nat} : ∀ {ws : List (Int × List Int)}, Wok n ws → decW ws.length (wcs ws) = ws
  | [], _ => rfl
  | (a, b) :: l, h => by
    have h2 : b.length = 64 := (h (a, b) List.mem_cons_self).2.2
    have h1 := dec_wcs (ws := l) fun x hx => h x (List.mem_cons_of_mem _ hx)
    have e1 : (wcs ((a, b) :: l)).headD .junk = .int .i64 a := rfl
    have e2 : ((wcs ((a, b) :: l)).drop 1).take 64 = b.map (SV.int .u8) := by
      simp only [wcs, wc, List.cons_append, List.drop_succ_cons, List.drop_zero]
      rw [List.take_append_of_le_length (by simp [h2]), List.take_of_length_le (by simp [h2])]
    have e3 : (wcs ((a, b) :: l)).drop 65 = wcs l := by
      simp only [wcs]
      rw [show (65 : Nat) = (wc a b).length from (wc_len h2).symm, List.drop_left]
    simp only [List.length_cons, decW, e1, e2, e3, h1, svI, List.map_map]
    congr 2
    show b.map (svI ∘ SV.int .u8) = b
    have : (svI ∘ SV.int .u8) = id := by funext x; rfl
    rw [this, List.map_id]
/-- Cells of m writes. -/
def Wd (n : Nat) (W : List SV) (m : Nat) : Prop := ∃ ws, W = wcs ws ∧ ws.length = m ∧ Wok n ws
theorem Wd.mk {n : Nat} {ws : List (Int × List Int)} (h : Wok n ws) : Wd n (wcs ws) ws.length := ⟨ws, rfl, rfl, h⟩
theorem Wd.dec {n m : Nat} {W : List SV} (h : Wd n W m) : W = wcs (decW m W) ∧ (decW m W).length = m ∧ Wok n (decW m W) := by
  obtain ⟨ws, rfl, rfl, hw⟩ := h
  rw [dec_wcs hw]
  exact ⟨rfl, rfl, hw⟩
theorem Wd.len {n m : Nat} {W : List SV} (h : Wd n W m) : W.length = m * 65 := by
  obtain ⟨ws, rfl, rfl, hw⟩ := h
  exact wcs_len hw
theorem Wd.snoc {n m : Nat} {W : List SV} (h : Wd n W m) {a : Int} {b : List Int} (h1 : 0 ≤ a) (h2 : a < n) (h3 : b.length = 64) : Wd n (W ++ wc a b) (m + 1) ∧ decW (m + 1) (W ++ wc a b) = decW m W ++ [(a, b)] := by
  obtain ⟨ws, rfl, rfl, hw⟩ := h
  have e : wcs ws ++ wc a b = wcs (ws ++ [(a, b)]) := by rw [wcs_app, wcs_one]
  have e2 : ws.length + 1 = (ws ++ [(a, b)]).length := by simp
  have hs := hw.snoc h1 h2 h3
  rw [e, e2, dec_wcs hs, dec_wcs hw]
  exact ⟨Wd.mk hs, rfl⟩
theorem Wd.one {n : Nat} {a : Int} {b : List Int} (h1 : 0 ≤ a) (h2 : a < n) (h3 : b.length = 64) : Wd n (wc a b) 1 ∧ decW 1 (wc a b) = [(a, b)] := by
  have hs : Wok n [(a, b)] := (Wok.nil n).snoc h1 h2 h3
  have := dec_wcs hs
  rw [wcs_one] at this
  exact ⟨⟨[(a, b)], (wcs_one a b).symm, rfl, hs⟩, this⟩
/-- A sector is written. -/
def setS (X : List Int) (o : Nat) (b : List Int) : List Int := X.take o ++ (b ++ X.drop (o + b.length))
theorem setS_len {X b : List Int} {o : Nat} (h : o + b.length ≤ X.length) : (setS X o b).length = X.length := by
  simp only [setS, List.length_append, List.length_take, List.length_drop]; omega
/-- What lasts when these writes last. -/
def appl : List Int → List (Int × List Int) → List Int
  | X, [] => X
  | X, w :: l => appl (setS X (w.1.toNat * 64) w.2) l
theorem appl_app : ∀ (l m : List (Int × List Int)) (X : List Int), appl X (l ++ m) = appl (appl X l) m
  | [], m, X => rfl
  | w :: l, m, X => by simp only [List.cons_append, appl, appl_app l m]
theorem appl_len {n : Nat} : ∀ {l : List (Int × List Int)} {X : List Int}, Wok n l → X.length = 64 * n → (appl X l).length = 64 * n
  | [], X, _, h => h
  | w :: l, X, hw, h => by
    have h2 := hw w List.mem_cons_self
    refine appl_len (l := l) (X := setS X (w.1.toNat * 64) w.2) (fun x hx => hw x (List.mem_cons_of_mem _ hx)) ?_
    rw [setS_len (by rw [h2.2.2, h]; omega), h]
theorem appl_take {ws : List (Int × List Int)} {k : Nat} {X : List Int} (hk : k < ws.length) : appl X (ws.take (k + 1)) = setS (appl X (ws.take k)) ((wAt ws k).1.toNat * 64) (wAt ws k).2 := by
  rw [take_wAt hk, appl_app]; rfl
/-! ### Operations -/
def z65 : AV := .flat (.int .i64 0 :: List.replicate 64 (.int .u8 0))
theorem ownB_set {M : Mem} {i : Nat} {b : Blk} (h : ownB M i = some b) : i < M.length := by
  unfold ownB at h
  split at h
  · rename_i b' hb; exact lt_of_get hb
  · cases h
theorem op_build {C : Orc} {M : Mem} {a : Int} {b : List Int} (h : b.length = 64) : psem C (.build z65 [(0, 1), (1, 64)]) [.int .i64 a, .nums .u8 b] M = some (.flat (wc a b), M, ⟨[], [], false, false⟩) := by
  have e1 : z65.putR 0 (.int .i64 a) = some (.flat (.int .i64 a :: List.replicate 64 (.int .u8 0))) := rfl
  have e2 : (AV.flat (.int .i64 a :: List.replicate 64 (.int .u8 0))).putR 1 (.nums .u8 b) = some (.flat (wc a b)) := by
    simp only [AV.putR, h, List.length_cons, List.length_replicate, show Nat.ble (1 + 64) (64 + 1) = true from rfl, if_true]
    simp [wc, List.drop_replicate]
  have e3 : Nat.beq b.length 64 = true := by rw [h]; rfl
  simp only [psem, fillA, e1, e2, e3, AV.plain, AV.csize, AV.one, Bool.and_self, cond_true, show Nat.beq 1 1 = true from rfl, Bool.and_true]
  rfl
theorem op_buildSl {C : Orc} {M : Mem} {w : List SV} (h : w.length = 65) (ha : allS w = true) : psem C (.buildSl z65 65 1 [(0, 65)]) [.flat w] M = some (.sl M.length 0 0 1 65 none, M ++ [⟨.flat w, .own, false⟩], ⟨[], [], true, true⟩) := by
  have e1 : z65.putR 0 (.flat w) = some (.flat w) := by
    simp only [z65, AV.putR, ha, h, List.length_cons, List.length_replicate, show Nat.ble (0 + 65) (64 + 1) = true from rfl, Bool.and_self, if_true, List.take_zero, List.nil_append]
    rw [List.drop_of_length_le (by simp), List.append_nil]
  have e3 : Nat.beq (AV.csize (.flat w)) 65 = true := by simp only [AV.csize, h]; rfl
  simp only [psem, fillA, e1, e3, AV.plain, ha, Bool.and_self, cond_true, newB]
  rfl
theorem sub_flat {l : List SV} {off n : Nat} (h : off + n ≤ l.length) : (AV.flat l).sub off n none = some (.flat ((l.drop off).take n)) := by
  simp only [AV.sub, ble_ok h, if_true]
theorem src_w {M : Mem} {j b : Nat} {lim : Option Nat} {w : List SV} {kd : BK} {d : Bool} (hj : liveB M j = some ⟨.flat w, kd, d⟩) (h : w.length = 65) : srcA 65 1 M (.sl j 0 b 1 65 lim) = some (.flat w, [j]) := by
  simp only [srcA, beq_ok, ble_ok (Nat.le_refl 1), Bool.and_self, cond_true, hj, sub_flat (l := w) (off := 0) (n := 1 * 65) (by omega), List.drop_zero]
  rw [List.take_of_length_le (by omega)]
theorem op_app0 {C : Orc} {M : Mem} {j b : Nat} {lim : Option Nat} {w : List SV} {kd : BK} {d : Bool} (hj : liveB M j = some ⟨.flat w, kd, d⟩) (h : w.length = 65) : psem C (.append 65 72) [.nilsl, .sl j 0 b 1 65 lim] M = some (.sl M.length 0 0 1 65 none, M ++ [⟨.flat w, .grow, false⟩], ⟨[], [], true, false⟩) := by
  simp only [psem, appendA, lenA, src_w hj h, beq_no (show (1 : Nat) ≠ 0 by decide), cond_false, room_ok (n := 1) (esz := 65) (bytes := 72) (by decide), cond_true]
theorem op_app {C : Orc} {M : Mem} {i base m j b : Nat} {lim : Option Nat} {W w : List SV} {kd : BK} {d d' : Bool} (hi : liveB M i = some ⟨.flat W, .grow, d'⟩) (hW : W.length = m * 65) (hj : liveB M j = some ⟨.flat w, kd, d⟩) (h : w.length = 65) (ha : allS w = true) (hm : m < 100000) : psem C (.append 65 72) [.sl i 0 base m 65 none, .sl j 0 b 1 65 lim] M = some (.sl M.length 0 base (m + 1) 65 none, M.set i ⟨.junk, .dead, true⟩ ++ [⟨.flat (W ++ w), .grow, false⟩], ⟨[], [i], true, false⟩) := by
  have hr : roomA (m + 1) 65 72 = true := room_ok (by omega)
  have hj2 : joinD (.flat W) (.flat w) = some (.flat (W ++ w)) := rfl
  simp only [psem, appendA, lenA, src_w hj h, beq_ok, hr, Bool.and_self, cond_true, hi, AV.csize, hW, AV.isAgg, AV.plain, ha, hj2]
theorem op_load {C : Orc} {M : Mem} {i off : Nat} {W w : List SV} {kd : BK} {d : Bool} (hi : liveB M i = some ⟨.flat W, kd, d⟩) (h : off + 65 ≤ W.length) (hw : (W.drop off).take 65 = w) : psem C (.load (some (65, none))) [.ptr i off] M = some (.flat w, M, ⟨[i], [], false, false⟩) := by
  simp only [psem, hi, AV.part, sub_flat h, hw]
theorem op_store {C : Orc} {M : Mem} {i : Nat} {z w : List SV} {kd : BK} {d : Bool} (hi : ownB M i = some ⟨.flat z, kd, d⟩) (hz : z.length = 65) (h : w.length = 65) (ha : allS w = true) : psem C (.store 65) [.ptr i 0, .flat w] M = some (undefA, M.set i ⟨.flat w, kd, true⟩, ⟨[], [i], true, false⟩) := by
  have e1 : (AV.flat z).putR 0 (.flat w) = some (.flat w) := by
    simp only [AV.putR, ha, h, hz, show Nat.ble (0 + 65) 65 = true from rfl, Bool.and_self, if_true, List.take_zero, List.nil_append]
    rw [List.drop_of_length_le (by omega), List.append_nil]
  have e3 : Nat.beq (AV.csize (.flat w)) 65 = true := by simp only [AV.csize, h]; rfl
  simp only [psem, hi, e1, e3, AV.plain, ha, Bool.and_self, cond_true]
theorem toIntsS_map (k : IntKind) : ∀ b : List Int, toIntsS k (b.map (SV.int k)) = some b
  | [] => rfl
  | x :: l => by simp only [List.map_cons, toIntsS, if_true, toIntsS_map k l]
theorem op_field {C : Orc} {M : Mem} {i : Nat} {a : Int} {b : List Int} {kd : BK} {d : Bool} (hi : liveB M i = some ⟨.flat (wc a b), kd, d⟩) (h : b.length = 64) : psem C (.load (some (64, some .u8))) [.ptr i 1] M = some (.nums .u8 b, M, ⟨[i], [], false, false⟩) := by
  have e : (AV.flat (wc a b)).sub 1 64 (some .u8) = some (.nums .u8 b) := by
    simp only [AV.sub, wc_len h, show Nat.ble (1 + 64) 65 = true from rfl, if_true]
    have : ((wc a b).drop 1).take 64 = b.map (SV.int .u8) := by
      simp only [wc, List.drop_succ_cons, List.drop_zero]
      exact List.take_of_length_le (by simp [h])
    rw [this, toIntsS_map]
  simp only [psem, hi, AV.part, e]
theorem op_set {C : Orc} {M : Mem} {i off : Nat} {X b : List Int} {kd : BK} {d : Bool} (hi : ownB M i = some ⟨.nums .u8 X, kd, d⟩) (hb : b.length = 64) (h : off + 64 ≤ X.length) : psem C (.store 64) [.ptr i off, .nums .u8 b] M = some (undefA, M.set i ⟨.nums .u8 (setS X off b), kd, true⟩, ⟨[], [i], true, false⟩) := by
  have e1 : (AV.nums .u8 X).putR off (.nums .u8 b) = some (.nums .u8 (setS X off b)) := by
    simp only [AV.putR, if_true, hb, ble_ok h, setS]
  have e3 : Nat.beq (AV.csize (.nums .u8 b)) 64 = true := by simp only [AV.csize, hb]; rfl
  simp only [psem, hi, e1, e3, AV.plain, Bool.and_self, cond_true]
/-- How many last. -/
def cnt (c : Int) (m : Nat) : Nat := min c.toNat m
theorem cnt_le (c : Int) (m : Nat) : cnt c m ≤ m := Nat.min_le_right _ _
theorem cnt_eq (c : Int) (m : Nat) : (if Int.ofNat m < (if 0 > c then 0 else c) then Int.ofNat m else (if 0 > c then 0 else c)) = Int.ofNat (cnt c m) := by
  unfold cnt
  simp only [Int.ofNat_eq_natCast]
  split <;> split at * <;> omega
theorem cnt_0 (c : Int) : (if (0 : Int) < (if 0 > c then 0 else c) then 0 else (if 0 > c then 0 else c)) = 0 := by
  split <;> split at * <;> omega
theorem cnt_all (m : Nat) : cnt (Int.ofNat m) m = m := by simp [cnt]
theorem cnt_neg {c : Int} {m : Nat} (h : c ≤ 0) : cnt c m = 0 := by unfold cnt; omega
theorem inR_int {n : Int} {m : Nat} (h : 0 ≤ n ∧ n < m) : inR n m = some n.toNat := by
  obtain ⟨k, rfl⟩ : ∃ k : Nat, n = Int.ofNat k := ⟨n.toNat, by simp only [Int.ofNat_eq_natCast]; omega⟩
  exact inR_ok (n := k) (by have := h.2; simp only [Int.ofNat_eq_natCast] at this; omega)
def cT0 (P : Program) : OrcT := leafT (cBP P)
theorem cT0_ok : OrcTOK Try.prog (cT0 Try.prog) := leafT_ok cB_ok
end Go.Proofs.Ytnfglcfjjemjmaa
