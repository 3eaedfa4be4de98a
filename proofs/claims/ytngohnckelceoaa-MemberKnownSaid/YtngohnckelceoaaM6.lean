/- MemberKnown tells true. No condition. -/
import Derived.Test.YtngohnckelceoaaM4
namespace Go.Proofs.Ytngohnckelceoaa
open Go.RowKit

def yesL : List Fs := [(Fs.mk ⟨#[106, 111, 105, 110]⟩ false true ⟨#[]⟩ ⟨#[98, 97, 110]⟩ ⟨#[]⟩ false 0 0 0 0 0 0),
  (Fs.mk ⟨#[106, 111, 105, 110]⟩ true false ⟨#[]⟩ ⟨#[105, 110, 118, 105, 116, 101]⟩ ⟨#[105, 110, 118, 105, 116, 101]⟩ false 0 0 0 0 0 0),
  (Fs.mk ⟨#[106, 111, 105, 110]⟩ true false ⟨#[]⟩ ⟨#[106, 111, 105, 110]⟩ ⟨#[107, 110, 111, 99, 107]⟩ false 0 0 0 0 0 0),
  (Fs.mk ⟨#[106, 111, 105, 110]⟩ true false ⟨#[]⟩ ⟨#[]⟩ ⟨#[114, 101, 115, 116, 114, 105, 99, 116, 101, 100]⟩ true 0 0 0 0 0 0),
  (Fs.mk ⟨#[106, 111, 105, 110]⟩ true false ⟨#[]⟩ ⟨#[105, 110, 118, 105, 116, 101]⟩ ⟨#[107, 110, 111, 99, 107, 95, 114, 101, 115, 116, 114, 105, 99, 116, 101, 100]⟩ false 0 0 0 0 0 0),
  (Fs.mk ⟨#[105, 110, 118, 105, 116, 101]⟩ false false ⟨#[]⟩ ⟨#[]⟩ ⟨#[]⟩ false 1 0 0 0 0 0),
  (Fs.mk ⟨#[105, 110, 118, 105, 116, 101]⟩ false false ⟨#[106, 111, 105, 110]⟩ ⟨#[108, 101, 97, 118, 101]⟩ ⟨#[]⟩ false 0 5 0 5 0 0),
  (Fs.mk ⟨#[105, 110, 118, 105, 116, 101]⟩ false false ⟨#[106, 111, 105, 110]⟩ ⟨#[107, 110, 111, 99, 107]⟩ ⟨#[]⟩ false 7 0 0 0 0 0),
  (Fs.mk ⟨#[108, 101, 97, 118, 101]⟩ true false ⟨#[]⟩ ⟨#[107, 110, 111, 99, 107]⟩ ⟨#[]⟩ false 0 0 0 0 0 0),
  (Fs.mk ⟨#[108, 101, 97, 118, 101]⟩ false false ⟨#[106, 111, 105, 110]⟩ ⟨#[106, 111, 105, 110]⟩ ⟨#[]⟩ false 0 50 49 0 50 0),
  (Fs.mk ⟨#[108, 101, 97, 118, 101]⟩ false false ⟨#[106, 111, 105, 110]⟩ ⟨#[98, 97, 110]⟩ ⟨#[]⟩ false 0 50 0 0 50 50),
  (Fs.mk ⟨#[98, 97, 110]⟩ false false ⟨#[106, 111, 105, 110]⟩ ⟨#[]⟩ ⟨#[]⟩ false 0 50 49 0 0 50),
  (Fs.mk ⟨#[107, 110, 111, 99, 107]⟩ true false ⟨#[]⟩ ⟨#[]⟩ ⟨#[107, 110, 111, 99, 107]⟩ false 0 0 0 0 0 0),
  (Fs.mk ⟨#[107, 110, 111, 99, 107]⟩ true false ⟨#[]⟩ ⟨#[108, 101, 97, 118, 101]⟩ ⟨#[107, 110, 111, 99, 107, 95, 114, 101, 115, 116, 114, 105, 99, 116, 101, 100]⟩ false 0 0 0 0 0 0),
  (Fs.mk ⟨#[107, 110, 111, 99, 107]⟩ true false ⟨#[]⟩ ⟨#[107, 110, 111, 99, 107]⟩ ⟨#[107, 110, 111, 99, 107]⟩ false 0 0 0 0 0 0)]
theorem yesL_may : ∀ f ∈ yesL, f.mayB = true := by
  intro f hf
  rw [Fs.mayB_data]
  have h : ∀ f ∈ yesL, (f.mayG fun s => s.data.toList) = true := by decide
  exact h f hf
def noL : List Fs := [(Fs.mk ⟨#[]⟩ false false ⟨#[]⟩ ⟨#[]⟩ ⟨#[]⟩ false 0 0 0 0 0 0),
  (Fs.mk ⟨#[106, 111, 105, 110]⟩ false false ⟨#[]⟩ ⟨#[]⟩ ⟨#[112, 117, 98, 108, 105, 99]⟩ false 0 0 0 0 0 0),
  (Fs.mk ⟨#[106, 111, 105, 110]⟩ true false ⟨#[]⟩ ⟨#[98, 97, 110]⟩ ⟨#[112, 117, 98, 108, 105, 99]⟩ false 0 0 0 0 0 0),
  (Fs.mk ⟨#[106, 111, 105, 110]⟩ true false ⟨#[]⟩ ⟨#[]⟩ ⟨#[105, 110, 118, 105, 116, 101]⟩ true 0 0 0 0 0 0),
  (Fs.mk ⟨#[106, 111, 105, 110]⟩ true false ⟨#[]⟩ ⟨#[]⟩ ⟨#[114, 101, 115, 116, 114, 105, 99, 116, 101, 100]⟩ false 0 0 0 0 0 0),
  (Fs.mk ⟨#[106, 111, 105, 110]⟩ true false ⟨#[]⟩ ⟨#[105, 110, 118, 105, 116, 101]⟩ ⟨#[112, 114, 105, 118, 97, 116, 101]⟩ false 0 0 0 0 0 0),
  (Fs.mk ⟨#[105, 110, 118, 105, 116, 101]⟩ false false ⟨#[]⟩ ⟨#[98, 97, 110]⟩ ⟨#[]⟩ false 1 0 0 0 0 0),
  (Fs.mk ⟨#[105, 110, 118, 105, 116, 101]⟩ false false ⟨#[106, 111, 105, 110]⟩ ⟨#[]⟩ ⟨#[]⟩ false 2 0 0 0 0 0),
  (Fs.mk ⟨#[105, 110, 118, 105, 116, 101]⟩ false false ⟨#[105, 110, 118, 105, 116, 101]⟩ ⟨#[]⟩ ⟨#[]⟩ false 0 0 0 0 0 0),
  (Fs.mk ⟨#[105, 110, 118, 105, 116, 101]⟩ false false ⟨#[106, 111, 105, 110]⟩ ⟨#[106, 111, 105, 110]⟩ ⟨#[]⟩ false 0 0 0 0 0 0),
  (Fs.mk ⟨#[105, 110, 118, 105, 116, 101]⟩ false false ⟨#[106, 111, 105, 110]⟩ ⟨#[]⟩ ⟨#[]⟩ false 0 4 0 5 0 0),
  (Fs.mk ⟨#[108, 101, 97, 118, 101]⟩ true false ⟨#[]⟩ ⟨#[98, 97, 110]⟩ ⟨#[]⟩ false 0 0 0 0 0 0),
  (Fs.mk ⟨#[108, 101, 97, 118, 101]⟩ true false ⟨#[106, 111, 105, 110]⟩ ⟨#[108, 101, 97, 118, 101]⟩ ⟨#[]⟩ false 0 9 0 0 0 0),
  (Fs.mk ⟨#[108, 101, 97, 118, 101]⟩ false false ⟨#[106, 111, 105, 110]⟩ ⟨#[106, 111, 105, 110]⟩ ⟨#[]⟩ false 0 50 50 0 50 0),
  (Fs.mk ⟨#[108, 101, 97, 118, 101]⟩ false false ⟨#[106, 111, 105, 110]⟩ ⟨#[98, 97, 110]⟩ ⟨#[]⟩ false 0 50 0 0 50 51),
  (Fs.mk ⟨#[98, 97, 110]⟩ false false ⟨#[105, 110, 118, 105, 116, 101]⟩ ⟨#[]⟩ ⟨#[]⟩ false 0 50 0 0 0 50),
  (Fs.mk ⟨#[98, 97, 110]⟩ false false ⟨#[106, 111, 105, 110]⟩ ⟨#[]⟩ ⟨#[]⟩ false 0 50 50 0 0 50),
  (Fs.mk ⟨#[107, 110, 111, 99, 107]⟩ false false ⟨#[]⟩ ⟨#[]⟩ ⟨#[107, 110, 111, 99, 107]⟩ false 0 0 0 0 0 0),
  (Fs.mk ⟨#[107, 110, 111, 99, 107]⟩ true false ⟨#[]⟩ ⟨#[]⟩ ⟨#[114, 101, 115, 116, 114, 105, 99, 116, 101, 100]⟩ false 0 0 0 0 0 0),
  (Fs.mk ⟨#[107, 110, 111, 99, 107]⟩ true false ⟨#[]⟩ ⟨#[106, 111, 105, 110]⟩ ⟨#[107, 110, 111, 99, 107]⟩ false 0 0 0 0 0 0),
  (Fs.mk ⟨#[74, 111, 105, 110]⟩ true false ⟨#[]⟩ ⟨#[]⟩ ⟨#[112, 117, 98, 108, 105, 99]⟩ false 0 0 0 0 0 0)]
theorem noL_may : ∀ f ∈ noL, f.mayB = false := by
  intro f hf
  rw [Fs.mayB_data]
  have h : ∀ f ∈ noL, (f.mayG fun s => s.data.toList) = false := by decide
  exact h f hf
def yesA : Array Value := (yesL.flatMap fun f => [.string f.to, .bool f.self, .bool f.first, .string f.sender, .string f.target, .string f.rule, .bool f.auth, .int .i64 f.third, .int .i64 f.level, .int .i64 f.tl, .int .i64 f.inv, .int .i64 f.kick, .int .i64 f.ban]).toArray
def yesF (k : Nat) : Fs := yesL.getD k ⟨emp, false, false, emp, emp, emp, false, 0, 0, 0, 0, 0, 0⟩
theorem yes_mem (k : Nat) (hk : k < 15) : yesF k ∈ yesL := by
  unfold yesF
  rw [List.getD_eq_getElem?_getD, List.getElem?_eq_getElem (by simpa [yesL] using hk)]
  exact List.getElem_mem _
set_option maxRecDepth 100000 in
theorem yes_cells (k : Nat) (hk : k < 15) : yesA[k * 13]? = some (.string (yesF k).to) ∧ yesA[k * 13 + 1]? = some (.bool (yesF k).self) ∧ yesA[k * 13 + 2]? = some (.bool (yesF k).first) ∧ yesA[k * 13 + 3]? = some (.string (yesF k).sender) ∧ yesA[k * 13 + 4]? = some (.string (yesF k).target) ∧ yesA[k * 13 + 5]? = some (.string (yesF k).rule) ∧ yesA[k * 13 + 6]? = some (.bool (yesF k).auth) ∧ yesA[k * 13 + 7]? = some (.int .i64 (yesF k).third) ∧ yesA[k * 13 + 8]? = some (.int .i64 (yesF k).level) ∧ yesA[k * 13 + 9]? = some (.int .i64 (yesF k).tl) ∧ yesA[k * 13 + 10]? = some (.int .i64 (yesF k).inv) ∧ yesA[k * 13 + 11]? = some (.int .i64 (yesF k).kick) ∧ yesA[k * 13 + 12]? = some (.int .i64 (yesF k).ban) := by
  have h : k = 0 ∨ k = 1 ∨ k = 2 ∨ k = 3 ∨ k = 4 ∨ k = 5 ∨ k = 6 ∨ k = 7 ∨ k = 8 ∨ k = 9 ∨ k = 10 ∨ k = 11 ∨ k = 12 ∨ k = 13 ∨ k = 14 := by omega
  rcases h with rfl | rfl | rfl | rfl | rfl | rfl | rfl | rfl | rfl | rfl | rfl | rfl | rfl | rfl | rfl <;> exact ⟨rfl, rfl, rfl, rfl, rfl, rfl, rfl, rfl, rfl, rfl, rfl, rfl, rfl⟩
def noA : Array Value := (noL.flatMap fun f => [.string f.to, .bool f.self, .bool f.first, .string f.sender, .string f.target, .string f.rule, .bool f.auth, .int .i64 f.third, .int .i64 f.level, .int .i64 f.tl, .int .i64 f.inv, .int .i64 f.kick, .int .i64 f.ban]).toArray
def noF (k : Nat) : Fs := noL.getD k ⟨emp, false, false, emp, emp, emp, false, 0, 0, 0, 0, 0, 0⟩
theorem no_mem (k : Nat) (hk : k < 21) : noF k ∈ noL := by
  unfold noF
  rw [List.getD_eq_getElem?_getD, List.getElem?_eq_getElem (by simpa [noL] using hk)]
  exact List.getElem_mem _
set_option maxRecDepth 100000 in
theorem no_cells (k : Nat) (hk : k < 21) : noA[k * 13]? = some (.string (noF k).to) ∧ noA[k * 13 + 1]? = some (.bool (noF k).self) ∧ noA[k * 13 + 2]? = some (.bool (noF k).first) ∧ noA[k * 13 + 3]? = some (.string (noF k).sender) ∧ noA[k * 13 + 4]? = some (.string (noF k).target) ∧ noA[k * 13 + 5]? = some (.string (noF k).rule) ∧ noA[k * 13 + 6]? = some (.bool (noF k).auth) ∧ noA[k * 13 + 7]? = some (.int .i64 (noF k).third) ∧ noA[k * 13 + 8]? = some (.int .i64 (noF k).level) ∧ noA[k * 13 + 9]? = some (.int .i64 (noF k).tl) ∧ noA[k * 13 + 10]? = some (.int .i64 (noF k).inv) ∧ noA[k * 13 + 11]? = some (.int .i64 (noF k).kick) ∧ noA[k * 13 + 12]? = some (.int .i64 (noF k).ban) := by
  have h : k = 0 ∨ k = 1 ∨ k = 2 ∨ k = 3 ∨ k = 4 ∨ k = 5 ∨ k = 6 ∨ k = 7 ∨ k = 8 ∨ k = 9 ∨ k = 10 ∨ k = 11 ∨ k = 12 ∨ k = 13 ∨ k = 14 ∨ k = 15 ∨ k = 16 ∨ k = 17 ∨ k = 18 ∨ k = 19 ∨ k = 20 := by omega
  rcases h with rfl | rfl | rfl | rfl | rfl | rfl | rfl | rfl | rfl | rfl | rfl | rfl | rfl | rfl | rfl | rfl | rfl | rfl | rfl | rfl | rfl <;> exact ⟨rfl, rfl, rfl, rfl, rfl, rfl, rfl, rfl, rfl, rfl, rfl, rfl, rfl⟩

theorem wp_run {P : Program} {o : Oper} {a : Act} {w : World} {K : Act → World → Prop} {Q : Exit → Act → World → Prop} (v : Value) (w' : World) (h : (execOp a.eval o).run P w = .ok (.value v) w') (hk : K (a.put o.dst v) w') : o.wp P a w K Q := by
  unfold Oper.wp
  rw [h]
  exact hk

set_option maxRecDepth 100000 in
set_option maxHeartbeats 4000000 in
theorem known_any (w : World) : Calls Try.prog 3 #[] w fun e w' => e = .returned (.bool true) ∧ Below w.heap.size w w' := by
  go_enter Try.func3, Try.ntmps3
  go_wp2_with fail
  refine (awake_any _).mono ?_
  rintro e w1 ⟨rfl, hb1⟩
  go_wp2_with fail
  refine wp_run (.slice (some ⟨w1.heap.size, 0, none⟩) 15 15) (w1.alloc (.cells yesA 24)) (by kernel_rfl) ?_
  obtain ⟨w2, hw2⟩ : ∃ w2, w2 = w1.alloc (.cells yesA 24) := ⟨_, rfl⟩
  rw [← hw2]
  have HW2 := Lib.hid hw2
  clear hw2
  simp only [Act.put, List.setIfInBounds_toArray, List.set_cons_zero, List.set_cons_succ]
  go_wp2_with fail
  refine wp_run (.slice (some ⟨w2.heap.size, 0, none⟩) 21 21) (w2.alloc (.cells noA 24)) (by kernel_rfl) ?_
  obtain ⟨w3, hw3⟩ : ∃ w3, w3 = w2.alloc (.cells noA 24) := ⟨_, rfl⟩
  rw [← hw3]
  have HW3 := Lib.hid hw3
  clear hw3
  simp only [Act.put, List.setIfInBounds_toArray, List.set_cons_zero, List.set_cons_succ]
  have hs2 : w2.heap.size = w1.heap.size + 1 := by rw [HW2.out]; simp
  have hs3 : w3.heap.size = w2.heap.size + 1 := by rw [HW3.out]; simp
  have hY : ∀ w', Below w3.heap.size w3 w' → ∀ o, w'.cell? ⟨w1.heap.size, o, none⟩ = yesA[o]? := by
    intro w' h o
    rw [h.cell (p := ⟨w1.heap.size, o, none⟩) (by simp; omega), HW3.out, World.cell?_alloc_lt _ _ _ (by simp; omega), HW2.out]
    simp [World.cell?_alloc_new]
  have hN : ∀ w', Below w3.heap.size w3 w' → ∀ o, w'.cell? ⟨w2.heap.size, o, none⟩ = noA[o]? := by
    intro w' h o
    rw [h.cell (p := ⟨w2.heap.size, o, none⟩) (by simp; omega), HW3.out]
    simp [World.cell?_alloc_new]
  have HS2 := Lib.hid hs2
  have HS3 := Lib.hid hs3
  have HY := Lib.hid hY
  have HN := Lib.hid hN
  clear hs2 hs3 hY hN
  go_wp2_with fail
  go_loopw [3] (fun v wr => ∃ k : Nat, k ≤ 15 ∧ v = .int .i64 k ∧ Below w3.heap.size w3 wr) (fun v _ => 15 - (intOf v).toNat)
  case atStart => exact ⟨0, by omega, rfl, Below.refl _ _⟩
  case round =>
    obtain ⟨k, hk, rfl, hb⟩ := hrel
    by_cases hlt : k < 15
    · have hc := yes_cells k hlt
      obtain ⟨c0, c1, c2, c3, c4, c5, c6, c7, c8, c9, c10, c11, c12⟩ := hc
      rw [← HY.out wr hb] at c0
      rw [← HY.out wr hb] at c1
      rw [← HY.out wr hb] at c2
      rw [← HY.out wr hb] at c3
      rw [← HY.out wr hb] at c4
      rw [← HY.out wr hb] at c5
      rw [← HY.out wr hb] at c6
      rw [← HY.out wr hb] at c7
      rw [← HY.out wr hb] at c8
      rw [← HY.out wr hb] at c9
      rw [← HY.out wr hb] at c10
      rw [← HY.out wr hb] at c11
      rw [← HY.out wr hb] at c12
      have hz := hb.size
      have hmem := Lib.hid (yes_mem k hlt)
      have HB := Lib.hid hb
      clear hb
      go_wp2_with fail
      refine (may_any (yesF k) _).mono ?_
      rintro e w5 ⟨rfl, hb5⟩
      rw [yesL_may _ hmem.out]
      have HB5 : Below w3.heap.size w3 w5 := HB.out.trans (hb5.mono HB.out.size)
      clear hb5 c0 c1 c2 c3 c4 c5 c6 c7 c8 c9 c10 c11 c12
      go_wp2
      go_roundw
      case rel => first | exact ⟨k + 1, by omega, by go_num, HB5⟩ | ((repeat apply Exists.intro); exact ⟨⟨k + 1, by omega, by go_num, HB5⟩, rfl⟩)
      case measure => simp [intOf]; omega
    · obtain rfl : k = 15 := by omega
      have HB := Lib.hid hb
      clear hb hk hlt
      go_wp2_with fail
      go_loopw [4] (fun v wr => ∃ k : Nat, k ≤ 21 ∧ v = .int .i64 k ∧ Below w3.heap.size w3 wr) (fun v _ => 21 - (intOf v).toNat)
      case atStart => exact ⟨0, by omega, rfl, HB.out⟩
      case round =>
        obtain ⟨k, hk, rfl, hb⟩ := hrel
        by_cases hlt : k < 21
        · have hc := no_cells k hlt
          obtain ⟨c0, c1, c2, c3, c4, c5, c6, c7, c8, c9, c10, c11, c12⟩ := hc
          rw [← HN.out wr hb] at c0
          rw [← HN.out wr hb] at c1
          rw [← HN.out wr hb] at c2
          rw [← HN.out wr hb] at c3
          rw [← HN.out wr hb] at c4
          rw [← HN.out wr hb] at c5
          rw [← HN.out wr hb] at c6
          rw [← HN.out wr hb] at c7
          rw [← HN.out wr hb] at c8
          rw [← HN.out wr hb] at c9
          rw [← HN.out wr hb] at c10
          rw [← HN.out wr hb] at c11
          rw [← HN.out wr hb] at c12
          have hz := hb.size
          have hmem := Lib.hid (no_mem k hlt)
          have HB := Lib.hid hb
          clear hb
          go_wp2_with fail
          refine (may_any (noF k) _).mono ?_
          rintro e w5 ⟨rfl, hb5⟩
          rw [noL_may _ hmem.out]
          have HB5 : Below w3.heap.size w3 w5 := HB.out.trans (hb5.mono HB.out.size)
          clear hb5 c0 c1 c2 c3 c4 c5 c6 c7 c8 c9 c10 c11 c12
          go_wp2
          go_roundw
          case rel => first | exact ⟨k + 1, by omega, by go_num, HB5⟩ | ((repeat apply Exists.intro); exact ⟨⟨k + 1, by omega, by go_num, HB5⟩, rfl⟩)
          case measure => simp [intOf]; omega
        · obtain rfl : k = 21 := by omega
          have HB2 := Lib.hid hb
          clear hb hk hlt
          go_wp2
          go_returns
          refine ⟨rfl, hb1.trans ?_⟩
          have h12 : Below w1.heap.size w1 w2 := by rw [HW2.out]; exact (Below.refl _ _).alloc (Nat.le_refl _) _
          have h23 : Below w2.heap.size w2 w3 := by rw [HW3.out]; exact (Below.refl _ _).alloc (Nat.le_refl _) _
          exact (h12.trans ((h23.mono h12.size).trans (HB2.out.mono (Nat.le_trans h12.size h23.size)))).mono hb1.size


end Go.Proofs.Ytngohnckelceoaa
