/- The tables of the primes' roots. No condition. -/
import Derived.Test.YtkeieikhmaeiiaaSh4c
namespace Go.Proofs.Ytkeieikhmaeiiaa
open Go Go.RowKit
def lookL : List (Nat × List Int) → Nat → Option (List Int)
  | [], _ => none
  | (x, y) :: r, b => bif Nat.beq x b then some y else lookL r b
def EachL (Q : Nat → List Int → Prop) : List (Nat × List Int) → Prop
  | [] => True
  | (x, y) :: r => Q x y ∧ EachL Q r
theorem lookL_each {Q : Nat → List Int → Prop} {b : Nat} {y : List Int} : ∀ {l : List (Nat × List Int)}, EachL Q l → lookL l b = some y → Q b y
  | [], _, h => by cases h
  | (x, z) :: r, h, hl => by
    unfold lookL at hl
    cases hb : Nat.beq x b with
    | true =>
      rw [hb, cond_true] at hl
      obtain rfl := Option.some.inj hl
      obtain rfl := Nat.eq_of_beq_eq_true hb
      exact h.1
    | false =>
      rw [hb, cond_false] at hl
      exact lookL_each h.2 hl
def Qp (n : Nat) (l : List Int) : Prop := ∃ D H N, specW Try.prog D (cH3 Try.prog) H N 57 [.int .i64 (Int.ofNat n)] [] fun v M => v = .sl 0 0 0 n 1 none ∧ M = [⟨.nums .u64 l, .grow, false⟩]
theorem svO_mono : ∀ (d k : Nat), (svO k).length ≤ (svO (k + d)).length
  | 0, k => Nat.le_refl _
  | d + 1, k => by
    refine Nat.le_trans (svO_mono d k) ?_
    rw [← Nat.add_assoc]
    simp only [svO]
    cases Nat.testBit (svM (k + d)) (k + d + 2) with
    | true => rw [cond_true]; exact Nat.le_refl _
    | false => rw [cond_false, List.length_append]; omega
theorem qp {n R : Nat} {l : List Int} (hR : R ≤ 407) (h1 : (svO R).length < n) (h2 : svO (R + 1) = l) (hn : l.length = n) : Qp n l := by
  have h := primes_ok (n := n) (R := R) hR (fun k hk => Nat.lt_of_le_of_lt (by have := svO_mono (R - k) k; rwa [show k + (R - k) = R by omega] at this) h1) (by rw [h2]; exact hn)
  rw [h2, hn] at h
  exact h
theorem p8 : Qp 8 [2, 3, 5, 7, 11, 13, 17, 19] := qp (R := 17) (by decide) (by decide +kernel) (by decide +kernel) rfl
theorem p64 : Qp 64 [2, 3, 5, 7, 11, 13, 17, 19, 23, 29, 31, 37, 41, 43, 47, 53, 59, 61, 67, 71, 73, 79, 83, 89, 97, 101, 103, 107, 109, 113, 127, 131, 137, 139, 149, 151, 157, 163, 167, 173, 179, 181, 191, 193, 197, 199, 211, 223, 227, 229, 233, 239, 241, 251, 257, 263, 269, 271, 277, 281, 283, 293, 307, 311] := qp (R := 309) (by decide) (by decide +kernel) (by decide +kernel) rfl
theorem p80 : Qp 80 [2, 3, 5, 7, 11, 13, 17, 19, 23, 29, 31, 37, 41, 43, 47, 53, 59, 61, 67, 71, 73, 79, 83, 89, 97, 101, 103, 107, 109, 113, 127, 131, 137, 139, 149, 151, 157, 163, 167, 173, 179, 181, 191, 193, 197, 199, 211, 223, 227, 229, 233, 239, 241, 251, 257, 263, 269, 271, 277, 281, 283, 293, 307, 311, 313, 317, 331, 337, 347, 349, 353, 359, 367, 373, 379, 383, 389, 397, 401, 409] := qp (R := 407) (by decide) (by decide +kernel) (by decide +kernel) rfl
def pL : List (Nat × List Int) := [(8, [2, 3, 5, 7, 11, 13, 17, 19]), (64, [2, 3, 5, 7, 11, 13, 17, 19, 23, 29, 31, 37, 41, 43, 47, 53, 59, 61, 67, 71, 73, 79, 83, 89, 97, 101, 103, 107, 109, 113, 127, 131, 137, 139, 149, 151, 157, 163, 167, 173, 179, 181, 191, 193, 197, 199, 211, 223, 227, 229, 233, 239, 241, 251, 257, 263, 269, 271, 277, 281, 283, 293, 307, 311]), (80, [2, 3, 5, 7, 11, 13, 17, 19, 23, 29, 31, 37, 41, 43, 47, 53, 59, 61, 67, 71, 73, 79, 83, 89, 97, 101, 103, 107, 109, 113, 127, 131, 137, 139, 149, 151, 157, 163, 167, 173, 179, 181, 191, 193, 197, 199, 211, 223, 227, 229, 233, 239, 241, 251, 257, 263, 269, 271, 277, 281, 283, 293, 307, 311, 313, 317, 331, 337, 347, 349, 353, 359, 367, 373, 379, 383, 389, 397, 401, 409])]
theorem p_all : EachL Qp pL := ⟨p8, p64, p80, trivial⟩
def s_primes : Spec := fun a M => match a, M with
  | [.int .i64 (.ofNat n)], [] => match lookL pL n with
    | some l => some (none, .sl 0 0 0 n 1 none, [⟨.nums .u64 l, .grow, false⟩])
    | none => none
  | _, _ => none
def cH4 (P : Program) : OrcP := addS (cH3 P) 57 s_primes
theorem cH4_ok : OrcPOK Try.prog (cH4 Try.prog) := by
  unfold cH4
  refine addS_ok mixed cH3_ok cH3_ok ?_
  intro a M q v M' h hq
  unfold s_primes at h
  split at h
  · split at h
    · rename_i y hl
      simp only [Option.some.injEq, Prod.mk.injEq] at h
      obtain ⟨rfl, rfl, rfl⟩ := h
      exact lookL_each p_all hl
    · cases h
  · cases h
def Qt (c a : Bool) (n : Nat) (l : List Int) : Prop := ∃ D H N, specW Try.prog D (cH4 Try.prog) H N 46 [.int .i64 (Int.ofNat n), .bool c, .bool a] [] fun v M => v = .sl 0 0 0 n 1 none ∧ M = [⟨.nums .u64 l, .grow, true⟩]
theorem qt {c a : Bool} {n : Nat} {l : List Int} (h : specW Try.prog noD (cH4 Try.prog) noH 1000 46 [.int .i64 (Int.ofNat n), .bool c, .bool a] [] (fun v M => v = .sl 0 0 0 n 1 none ∧ M = [⟨.nums .u64 l, .grow, true⟩]) = (AV.sl 0 0 0 n 1 none = .sl 0 0 0 n 1 none ∧ ([⟨.nums .u64 l, .grow, true⟩] : Mem) = [⟨.nums .u64 l, .grow, true⟩])) : Qt c a n l := ⟨noD, noH, 1000, Eq.mpr h ⟨rfl, rfl⟩⟩
def tl10 : List Int := [4794697086780571648, 8158064640168558592, 13096744586834608128, 16840607885511098368, 4131703408338403328, 6480981068601360384, 10538285296894083072, 12329834152419131392, 15566598209575845888, 1334009975649861632, 2608012711638073344, 6128411473006559232, 8268148722764349440, 9286055187155517440, 11230858885718081536, 13951009754708443136, 16472876342353854464, 17275323862435495936, 1135362057144369152, 2597628984639094784, 3308224258029125632, 5365058923640651776, 6679025012923432960, 8573033837759561728, 10970295158949806080, 12119686244451221504, 12683024718118780928, 13788192230049841152, 14330467153632296960, 15395433587784810496, 489312712824717312, 1452737877330624512, 2861767655752204288, 3322285676063621120, 5560940570517700608, 5996557281743077376, 7280758554555580416, 8532644243296223232, 9350256976986898432, 10552545826968698880, 11727347734174236672, 12113106623233261568, 14000437183269830656, 14369950271660097536, 15101387698204311552, 15463397548674514944, 17586052441742245888, 1182934255885877248, 1847814050462826496, 2177327727835611136, 2830643537854070784, 3796741975233265664, 4115178125766688768, 5681478168544804864, 6601373596472573952, 7507060721942790144, 8399075790358839296, 8693463985226514432, 9568029438360158208, 10144078919501086720, 10430055236837048320, 11840083180663078912, 13761210420658700288, 14299343276471222272]
theorem t10 : Qt true false 64 tl10 := qt (by kernel_rfl)
def tl00 : List Int := [7640891576955961344, 13503953896175304704, 4354685564936781824, 11912009170470830080, 5840696475077836800, 11170449401992445952, 2270897969802772480, 6620516959819399168]
theorem t00 : Qt false false 8 tl00 := qt (by kernel_rfl)
def tl11 : List Int := [4794697086780616226, 8158064640168781261, 13096744586834688815, 16840607885511220156, 4131703408338449720, 6480981068601479193, 10538285296894168987, 12329834152419229976, 15566598209576043074, 1334009975649890238, 2608012711638119052, 6128411473006802146, 8268148722764581231, 9286055187155687089, 11230858885718282805, 13951009754708518548, 16472876342353939154, 17275323862435702243, 1135362057144423861, 2597628984639134821, 3308224258029322869, 5365058923640841347, 6679025012923562964, 8573033837759648693, 10970295158949994411, 12119686244451234320, 12683024718118986047, 13788192230050041572, 14330467153632333762, 15395433587784984357, 489312712824947311, 1452737877330783856, 2861767655752347644, 3322285676063803686, 5560940570517711597, 5996557281743188959, 7280758554555802590, 8532644243296465576, 9350256976987008742, 10552545826968843579, 11727347734174303076, 12113106623233404929, 14000437183269869457, 14369950271660146224, 15101387698204529176, 15463397548674623760, 17586052441742319658, 1182934255886127544, 1847814050463011016, 2177327727835720531, 2830643537854262169, 3796741975233480872, 4115178125766777443, 5681478168544905931, 6601373596472566643, 7507060721942968483, 8399075790359081724, 8693463985226723168, 9568029438360202098, 10144078919501101548, 10430055236837252648, 11840083180663258601, 13761210420658862357, 14299343276471374635, 14566680578165727644, 15097957966210449927, 16922976911328602910, 17689382322260857208, 500013540394364858, 748580250866718886, 1242879168328830382, 1977374033974150939, 2944078676154940804, 3659926193048069267, 4368137639120453308, 4836135668995329356, 5532061633213252278, 6448918945643986474, 6902733635092675308, 7801388544844847127]
theorem t11 : Qt true true 80 tl11 := qt (by kernel_rfl)
def tl01 : List Int := [7640891576956012808, 13503953896175478587, 4354685564936845355, 11912009170470909681, 5840696475078001361, 11170449401992604703, 2270897969802886507, 6620516959819538809]
theorem t01 : Qt false true 8 tl01 := qt (by kernel_rfl)
def tL : Bool → Bool → List (Nat × List Int)
  | true, true => [(80, tl11)]
  | true, false => [(64, tl10)]
  | false, true => [(8, tl01)]
  | false, false => [(8, tl00)]
theorem t_all : ∀ c a, EachL (Qt c a) (tL c a)
  | true, true => ⟨t11, trivial⟩
  | true, false => ⟨t10, trivial⟩
  | false, true => ⟨t01, trivial⟩
  | false, false => ⟨t00, trivial⟩
def s_table : Spec := fun a M => match a, M with
  | [.int .i64 (.ofNat n), .bool c, .bool a], [] => match lookL (tL c a) n with
    | some l => some (none, .sl 0 0 0 n 1 none, [⟨.nums .u64 l, .grow, true⟩])
    | none => none
  | _, _ => none
def cH5 (P : Program) : OrcP := addS (cH4 P) 46 s_table
theorem cH5_ok : OrcPOK Try.prog (cH5 Try.prog) := by
  unfold cH5
  refine addS_ok mixed cH4_ok cH4_ok ?_
  intro a M q v M' h hq
  unfold s_table at h
  split at h
  · split at h
    · rename_i y hl
      simp only [Option.some.injEq, Prod.mk.injEq] at h
      obtain ⟨rfl, rfl, rfl⟩ := h
      exact lookL_each (t_all _ _) hl
    · cases h
  · cases h
end Go.Proofs.Ytkeieikhmaeiiaa
