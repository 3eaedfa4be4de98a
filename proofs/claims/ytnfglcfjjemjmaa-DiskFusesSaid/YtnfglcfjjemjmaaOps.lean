/- Operations on lists that are not known cell by cell. No condition. -/
import Derived.Test.YtnfglcfjjemjmaaArg
namespace Go.Proofs.Ytnfglcfjjemjmaa
open Go Go.RowKit

/-- Slots of which nothing is known. -/
def jk : Nat → List AV → List AV
  | 0, l => l
  | n + 1, l => .junk :: jk n l
/-- Hints by rounds. -/
def eqIt : List (Option Nat) → List (Option Nat) → Bool
  | [], [] => true
  | some a :: l, some b :: m => Nat.beq a b && eqIt l m
  | none :: l, none :: m => eqIt l m
  | _, _ => false
def lkH : List (List (Option Nat) × VH) → List (Option Nat) → Option VH
  | [], _ => none
  | (p, v) :: l, it => bif eqIt p it then some v else lkH l it
/-- n bytes of a block, from off on. -/
def seg (l : List Int) (off n : Nat) : List Int := (l.drop off).take n
theorem ble_ok {a b : Nat} (h : a ≤ b) : Nat.ble a b = true := by simpa using h
theorem blt_ok {a b : Nat} (h : a < b) : Nat.blt a b = true := by simpa using h
theorem beq_ok (n : Nat) : Nat.beq n n = true := Nat.beq_refl n
theorem beq_no {a b : Nat} (h : a ≠ b) : Nat.beq a b = false := by
  cases hq : Nat.beq a b with
  | false => rfl
  | true => exact absurd (Nat.eq_of_beq_eq_true hq) h
theorem room_ok {n esz bytes : Nat} (h : n * (bytes + esz) ≤ 68719476736) : roomA n esz bytes = true := ble_ok h
theorem sub_nums {k : IntKind} {l : List Int} {off n : Nat} (h : off + n ≤ l.length) : (AV.nums k l).sub off n none = some (.nums k (seg l off n)) := by
  simp only [AV.sub, ble_ok h, if_true, seg]
theorem sub_at {k : IntKind} {o : Nat} {l : List Int} {off n : Nat} (ho : o ≤ off) (h : off - o + n ≤ l.length) : (AV.at o (.nums k l)).sub off n none = some (.nums k (seg l (off - o) n)) := by
  simp only [AV.sub, ble_ok ho, ble_ok h, cond_true, if_true, seg]
theorem src_nums {M : Mem} {j off b n : Nat} {lim : Option Nat} {k : IntKind} {l : List Int} {kd : BK} {d : Bool} (hj : liveB M j = some ⟨.nums k l, kd, d⟩) (h : off + n ≤ l.length) : srcA 1 n M (.sl j off b n 1 lim) = some (.nums k (seg l off n), [j]) := by
  simp only [srcA, beq_ok, ble_ok (Nat.le_refl n), Bool.and_self, cond_true, hj, Nat.mul_one, sub_nums h]
theorem src_at {M : Mem} {j off b n o : Nat} {lim : Option Nat} {k : IntKind} {l : List Int} {kd : BK} {d : Bool} (hj : liveB M j = some ⟨.at o (.nums k l), kd, d⟩) (ho : o ≤ off) (h : off - o + n ≤ l.length) : srcA 1 n M (.sl j off b n 1 lim) = some (.nums k (seg l (off - o) n), [j]) := by
  simp only [srcA, beq_ok, ble_ok (Nat.le_refl n), Bool.and_self, cond_true, hj, Nat.mul_one, sub_at ho h]
/-- To a slice that grows. -/
theorem app_grow {C : Orc} {M : Mem} {i base len n by' : Nat} {k : IntKind} {l c : List Int} {d : Bool} {x : AV} {rs : List Nat} (hi : liveB M i = some ⟨.nums k l, .grow, d⟩) (hl : l.length = len) (hx : lenA x = some n) (hs : srcA 1 n M x = some (.nums k c, rs)) (hr : (len + n) * (by' + 1) ≤ 68719476736) :
    psem C (.append 1 by') [.sl i 0 base len 1 none, x] M = some (.sl M.length 0 base (len + n) 1 none, M.set i ⟨.junk, .dead, true⟩ ++ [⟨.nums k (l ++ c), .grow, false⟩], ⟨[], [i], true, false⟩) := by
  have hj : joinD (.nums k l) (.nums k c) = some (.nums k (l ++ c)) := by simp only [joinD, AV.join, if_true]
  simp only [psem, appendA, hx, hs, beq_ok, room_ok hr, Bool.and_self, cond_true, hi, Nat.mul_one, AV.csize, hl, AV.isAgg, AV.plain, hj]
theorem app_grow_nil {C : Orc} {M : Mem} {i base len by' : Nat} {k : IntKind} {l : List Int} {d : Bool} (hi : liveB M i = some ⟨.nums k l, .grow, d⟩) (hl : l.length = len) (hr : len * (by' + 1) ≤ 68719476736) :
    psem C (.append 1 by') [.sl i 0 base len 1 none, .nilsl] M = some (.sl M.length 0 base len 1 none, M.set i ⟨.junk, .dead, true⟩ ++ [⟨.nums k l, .grow, false⟩], ⟨[], [i], true, false⟩) := by
  have hs : srcA 1 0 M .nilsl = some (.agg [], []) := rfl
  have hj : joinD (.nums k l) (.agg []) = some (.nums k l) := rfl
  have hp : (AV.agg []).plain = true := rfl
  simp only [psem, appendA, lenA, hs, beq_ok, room_ok hr, Nat.add_zero, Bool.and_self, cond_true, hi, Nat.mul_one, AV.csize, hl, AV.isAgg, hp, hj]
/-- To a whole array. -/
theorem app_own {C : Orc} {M : Mem} {i off base len n by' : Nat} {k : IntKind} {l c : List Int} {d : Bool} {x : AV} {rs : List Nat} (hi : liveB M i = some ⟨.nums k l, .own, d⟩) (hl : l.length = off + len) (hx : lenA x = some n) (h0 : n ≠ 0) (hs : srcA 1 n M x = some (.nums k c, rs)) (hr : (len + n) * (by' + 1) ≤ 68719476736) :
    psem C (.append 1 by') [.sl i off base len 1 none, x] M = some (.sl M.length 0 0 (len + n) 1 none, M ++ [⟨.nums k (seg l off len ++ c), .grow, false⟩], ⟨[i], [], true, false⟩) := by
  have hj : ∀ a, joinD (.nums k a) (.nums k c) = some (.nums k (a ++ c)) := fun a => by simp only [joinD, AV.join, if_true]
  simp only [psem, appendA, hx, hs, beq_ok, room_ok hr, Bool.and_self, cond_true, hi, Nat.mul_one, AV.csize, hl, beq_no h0, cond_false, sub_nums (Nat.le_of_eq hl.symm), hj]
/-- To a slice of an array, up to its end. -/
theorem app_lim {C : Orc} {M : Mem} {i off base len n by' : Nat} {k : IntKind} {l c : List Int} {kd : BK} {d : Bool} {x : AV} {rs : List Nat} (hi : liveB M i = some ⟨.nums k l, kd, d⟩) (hl : off + len ≤ l.length) (hx : lenA x = some n) (h0 : n ≠ 0) (hs : srcA 1 n M x = some (.nums k c, rs)) (hr : (len + n) * (by' + 1) ≤ 68719476736) :
    psem C (.append 1 by') [.sl i off base len 1 (some (off + len)), x] M = some (.sl M.length 0 0 (len + n) 1 none, M ++ [⟨.nums k (seg l off len ++ c), .grow, false⟩], ⟨[i], [], true, false⟩) := by
  have hj : ∀ a, joinD (.nums k a) (.nums k c) = some (.nums k (a ++ c)) := fun a => by simp only [joinD, AV.join, if_true]
  simp only [psem, appendA, hx, hs, beq_ok, room_ok hr, Bool.and_self, cond_true, hi, Nat.mul_one, beq_no h0, cond_false, sub_nums hl, hj]
/-- To none. -/
theorem app_nil {C : Orc} {M : Mem} {n by' : Nat} {c : AV} {x : AV} {rs : List Nat} (hx : lenA x = some n) (h0 : n ≠ 0) (hs : srcA 1 n M x = some (c, rs)) (hr : n * (by' + 1) ≤ 68719476736) :
    psem C (.append 1 by') [.nilsl, x] M = some (.sl M.length 0 0 n 1 none, M ++ [⟨c, .grow, false⟩], ⟨[], [], true, false⟩) := by
  simp only [psem, appendA, hx, hs, beq_no h0, cond_false, room_ok hr, cond_true]
/-- A slice's bytes as a string. -/
def bytesOf (l : List Int) : List UInt8 := l.map fun n => UInt8.ofNat n.toNat
theorem b2s_nums {C : Orc} {M : Mem} {j off b n : Nat} {lim : Option Nat} {l : List Int} {kd : BK} {d : Bool} (hj : liveB M j = some ⟨.nums .u8 l, kd, d⟩) (h : off + n ≤ l.length) : psem C .b2s [.sl j off b n 1 lim] M = some (.str (bytesOf (seg l off n)), M, ⟨[j], [], false, false⟩) := by
  have : (AV.nums .u8 l).sub off n (some .u8) = some (.nums .u8 (seg l off n)) := by simp only [AV.sub, ble_ok h, if_true, seg]
  simp only [psem, beq_ok, cond_true, hj, this, bytesOf]
theorem b2s_at {C : Orc} {M : Mem} {j off b n o : Nat} {lim : Option Nat} {l : List Int} {kd : BK} {d : Bool} (hj : liveB M j = some ⟨.at o (.nums .u8 l), kd, d⟩) (ho : o ≤ off) (h : off - o + n ≤ l.length) : psem C .b2s [.sl j off b n 1 lim] M = some (.str (bytesOf (seg l (off - o) n)), M, ⟨[j], [], false, false⟩) := by
  have : (AV.at o (.nums .u8 l)).sub off n (some .u8) = some (.nums .u8 (seg l (off - o) n)) := by simp only [AV.sub, ble_ok ho, ble_ok h, cond_true, if_true, seg]
  simp only [psem, beq_ok, cond_true, hj, this, bytesOf]
end Go.Proofs.Ytnfglcfjjemjmaa
