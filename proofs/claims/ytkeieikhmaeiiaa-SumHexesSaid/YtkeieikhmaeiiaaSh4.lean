/- The bits of each prime's roots. No condition. -/
import Derived.Test.YtkeieikhmaeiiaaSh3
namespace Go.Proofs.Ytkeieikhmaeiiaa
open Go Go.RowKit
def Qb (c a : Bool) (p y : Nat) : Prop := ∃ D H N, specW Try.prog D (cH2 Try.prog) H N 58 [.flat [.int .u64 (Int.ofNat p), .int .u64 (Int.ofNat 0), .bool c], .bool a] [] fun v M => v = .int .u64 (Int.ofNat y) ∧ M = []
theorem qb0 {c : Bool} {p y : Nat} (h : specW Try.prog noD (cH2 Try.prog) noH 1000 58 [.flat [.int .u64 (Int.ofNat p), .int .u64 (Int.ofNat 0), .bool c], .bool false] [] (fun v M => v = .int .u64 (Int.ofNat y) ∧ M = []) = (AV.int .u64 (Int.ofNat y) = .int .u64 (Int.ofNat y) ∧ ([] : Mem) = [])) : Qb c false p y := ⟨noD, noH, 1000, Eq.mpr h ⟨rfl, rfl⟩⟩
theorem qb1 {c : Bool} {p y : Nat} (w l0 : Nat) (hw : w < 18446744073709551616) (hl : l0 + 10485760 < 18446744073709551616) (hr : lowN p w c l0 20 = y) (h : specW Try.prog d_bits (cH2 Try.prog) (h_bits p w c l0) 1000 58 [.flat [.int .u64 (Int.ofNat p), .int .u64 (Int.ofNat 0), .bool c], .bool true] [] (fun v M => v = .int .u64 (Int.ofNat y) ∧ M = []) = bitsAsk p w c l0 y) : Qb c true p y := ⟨d_bits, h_bits p w c l0, 1000, Eq.mpr h (bitsAsk_ok hw hl hr)⟩
def bl10 : List (Nat × Nat) := [(2, 4794697086780571648), (3, 8158064640168558592), (5, 13096744586834608128), (7, 16840607885511098368), (11, 4131703408338403328), (13, 6480981068601360384), (17, 10538285296894083072), (19, 12329834152419131392), (23, 15566598209575845888), (29, 1334009975649861632), (31, 2608012711638073344), (37, 6128411473006559232), (41, 8268148722764349440), (43, 9286055187155517440), (47, 11230858885718081536), (53, 13951009754708443136), (59, 16472876342353854464), (61, 17275323862435495936), (67, 1135362057144369152), (71, 2597628984639094784), (73, 3308224258029125632), (79, 5365058923640651776), (83, 6679025012923432960), (89, 8573033837759561728), (97, 10970295158949806080), (101, 12119686244451221504), (103, 12683024718118780928), (107, 13788192230049841152), (109, 14330467153632296960), (113, 15395433587784810496), (127, 489312712824717312), (131, 1452737877330624512), (137, 2861767655752204288), (139, 3322285676063621120), (149, 5560940570517700608), (151, 5996557281743077376), (157, 7280758554555580416), (163, 8532644243296223232), (167, 9350256976986898432), (173, 10552545826968698880), (179, 11727347734174236672), (181, 12113106623233261568), (191, 14000437183269830656), (193, 14369950271660097536), (197, 15101387698204311552), (199, 15463397548674514944), (211, 17586052441742245888), (223, 1182934255885877248), (227, 1847814050462826496), (229, 2177327727835611136), (233, 2830643537854070784), (239, 3796741975233265664), (241, 4115178125766688768), (251, 5681478168544804864), (257, 6601373596472573952), (263, 7507060721942790144), (269, 8399075790358839296), (271, 8693463985226514432), (277, 9568029438360158208), (281, 10144078919501086720), (283, 10430055236837048320), (293, 11840083180663078912), (307, 13761210420658700288), (311, 14299343276471222272)]
theorem b10_2 : Qb true false 2 4794697086780571648 := qb0 (by kernel_rfl)
theorem b10_3 : Qb true false 3 8158064640168558592 := qb0 (by kernel_rfl)
theorem b10_5 : Qb true false 5 13096744586834608128 := qb0 (by kernel_rfl)
theorem b10_7 : Qb true false 7 16840607885511098368 := qb0 (by kernel_rfl)
theorem b10_11 : Qb true false 11 4131703408338403328 := qb0 (by kernel_rfl)
theorem b10_13 : Qb true false 13 6480981068601360384 := qb0 (by kernel_rfl)
theorem b10_17 : Qb true false 17 10538285296894083072 := qb0 (by kernel_rfl)
theorem b10_19 : Qb true false 19 12329834152419131392 := qb0 (by kernel_rfl)
theorem b10_23 : Qb true false 23 15566598209575845888 := qb0 (by kernel_rfl)
theorem b10_29 : Qb true false 29 1334009975649861632 := qb0 (by kernel_rfl)
theorem b10_31 : Qb true false 31 2608012711638073344 := qb0 (by kernel_rfl)
theorem b10_37 : Qb true false 37 6128411473006559232 := qb0 (by kernel_rfl)
theorem b10_41 : Qb true false 41 8268148722764349440 := qb0 (by kernel_rfl)
theorem b10_43 : Qb true false 43 9286055187155517440 := qb0 (by kernel_rfl)
theorem b10_47 : Qb true false 47 11230858885718081536 := qb0 (by kernel_rfl)
theorem b10_53 : Qb true false 53 13951009754708443136 := qb0 (by kernel_rfl)
theorem b10_59 : Qb true false 59 16472876342353854464 := qb0 (by kernel_rfl)
theorem b10_61 : Qb true false 61 17275323862435495936 := qb0 (by kernel_rfl)
theorem b10_67 : Qb true false 67 1135362057144369152 := qb0 (by kernel_rfl)
theorem b10_71 : Qb true false 71 2597628984639094784 := qb0 (by kernel_rfl)
theorem b10_73 : Qb true false 73 3308224258029125632 := qb0 (by kernel_rfl)
theorem b10_79 : Qb true false 79 5365058923640651776 := qb0 (by kernel_rfl)
theorem b10_83 : Qb true false 83 6679025012923432960 := qb0 (by kernel_rfl)
theorem b10_89 : Qb true false 89 8573033837759561728 := qb0 (by kernel_rfl)
theorem b10_97 : Qb true false 97 10970295158949806080 := qb0 (by kernel_rfl)
theorem b10_101 : Qb true false 101 12119686244451221504 := qb0 (by kernel_rfl)
theorem b10_103 : Qb true false 103 12683024718118780928 := qb0 (by kernel_rfl)
theorem b10_107 : Qb true false 107 13788192230049841152 := qb0 (by kernel_rfl)
theorem b10_109 : Qb true false 109 14330467153632296960 := qb0 (by kernel_rfl)
theorem b10_113 : Qb true false 113 15395433587784810496 := qb0 (by kernel_rfl)
theorem b10_127 : Qb true false 127 489312712824717312 := qb0 (by kernel_rfl)
theorem b10_131 : Qb true false 131 1452737877330624512 := qb0 (by kernel_rfl)
theorem b10_137 : Qb true false 137 2861767655752204288 := qb0 (by kernel_rfl)
theorem b10_139 : Qb true false 139 3322285676063621120 := qb0 (by kernel_rfl)
theorem b10_149 : Qb true false 149 5560940570517700608 := qb0 (by kernel_rfl)
theorem b10_151 : Qb true false 151 5996557281743077376 := qb0 (by kernel_rfl)
theorem b10_157 : Qb true false 157 7280758554555580416 := qb0 (by kernel_rfl)
theorem b10_163 : Qb true false 163 8532644243296223232 := qb0 (by kernel_rfl)
theorem b10_167 : Qb true false 167 9350256976986898432 := qb0 (by kernel_rfl)
theorem b10_173 : Qb true false 173 10552545826968698880 := qb0 (by kernel_rfl)
theorem b10_179 : Qb true false 179 11727347734174236672 := qb0 (by kernel_rfl)
theorem b10_181 : Qb true false 181 12113106623233261568 := qb0 (by kernel_rfl)
theorem b10_191 : Qb true false 191 14000437183269830656 := qb0 (by kernel_rfl)
theorem b10_193 : Qb true false 193 14369950271660097536 := qb0 (by kernel_rfl)
theorem b10_197 : Qb true false 197 15101387698204311552 := qb0 (by kernel_rfl)
theorem b10_199 : Qb true false 199 15463397548674514944 := qb0 (by kernel_rfl)
theorem b10_211 : Qb true false 211 17586052441742245888 := qb0 (by kernel_rfl)
theorem b10_223 : Qb true false 223 1182934255885877248 := qb0 (by kernel_rfl)
theorem b10_227 : Qb true false 227 1847814050462826496 := qb0 (by kernel_rfl)
theorem b10_229 : Qb true false 229 2177327727835611136 := qb0 (by kernel_rfl)
theorem b10_233 : Qb true false 233 2830643537854070784 := qb0 (by kernel_rfl)
theorem b10_239 : Qb true false 239 3796741975233265664 := qb0 (by kernel_rfl)
theorem b10_241 : Qb true false 241 4115178125766688768 := qb0 (by kernel_rfl)
theorem b10_251 : Qb true false 251 5681478168544804864 := qb0 (by kernel_rfl)
theorem b10_257 : Qb true false 257 6601373596472573952 := qb0 (by kernel_rfl)
theorem b10_263 : Qb true false 263 7507060721942790144 := qb0 (by kernel_rfl)
theorem b10_269 : Qb true false 269 8399075790358839296 := qb0 (by kernel_rfl)
theorem b10_271 : Qb true false 271 8693463985226514432 := qb0 (by kernel_rfl)
theorem b10_277 : Qb true false 277 9568029438360158208 := qb0 (by kernel_rfl)
theorem b10_281 : Qb true false 281 10144078919501086720 := qb0 (by kernel_rfl)
theorem b10_283 : Qb true false 283 10430055236837048320 := qb0 (by kernel_rfl)
theorem b10_293 : Qb true false 293 11840083180663078912 := qb0 (by kernel_rfl)
theorem b10_307 : Qb true false 307 13761210420658700288 := qb0 (by kernel_rfl)
theorem b10_311 : Qb true false 311 14299343276471222272 := qb0 (by kernel_rfl)
theorem bl10_all : Each (Qb true false) bl10 := ⟨b10_2, b10_3, b10_5, b10_7, b10_11, b10_13, b10_17, b10_19, b10_23, b10_29, b10_31, b10_37, b10_41, b10_43, b10_47, b10_53, b10_59, b10_61, b10_67, b10_71, b10_73, b10_79, b10_83, b10_89, b10_97, b10_101, b10_103, b10_107, b10_109, b10_113, b10_127, b10_131, b10_137, b10_139, b10_149, b10_151, b10_157, b10_163, b10_167, b10_173, b10_179, b10_181, b10_191, b10_193, b10_197, b10_199, b10_211, b10_223, b10_227, b10_229, b10_233, b10_239, b10_241, b10_251, b10_257, b10_263, b10_269, b10_271, b10_277, b10_281, b10_283, b10_293, b10_307, b10_311, trivial⟩
def bl00 : List (Nat × Nat) := [(2, 7640891576955961344), (3, 13503953896175304704), (5, 4354685564936781824), (7, 11912009170470830080), (11, 5840696475077836800), (13, 11170449401992445952), (17, 2270897969802772480), (19, 6620516959819399168)]
theorem b00_2 : Qb false false 2 7640891576955961344 := qb0 (by kernel_rfl)
theorem b00_3 : Qb false false 3 13503953896175304704 := qb0 (by kernel_rfl)
theorem b00_5 : Qb false false 5 4354685564936781824 := qb0 (by kernel_rfl)
theorem b00_7 : Qb false false 7 11912009170470830080 := qb0 (by kernel_rfl)
theorem b00_11 : Qb false false 11 5840696475077836800 := qb0 (by kernel_rfl)
theorem b00_13 : Qb false false 13 11170449401992445952 := qb0 (by kernel_rfl)
theorem b00_17 : Qb false false 17 2270897969802772480 := qb0 (by kernel_rfl)
theorem b00_19 : Qb false false 19 6620516959819399168 := qb0 (by kernel_rfl)
theorem bl00_all : Each (Qb false false) bl00 := ⟨b00_2, b00_3, b00_5, b00_7, b00_11, b00_13, b00_17, b00_19, trivial⟩
def bl11 : List (Nat × Nat) := [(2, 4794697086780616226), (3, 8158064640168781261), (5, 13096744586834688815), (7, 16840607885511220156), (11, 4131703408338449720), (13, 6480981068601479193), (17, 10538285296894168987), (19, 12329834152419229976), (23, 15566598209576043074), (29, 1334009975649890238), (31, 2608012711638119052), (37, 6128411473006802146), (41, 8268148722764581231), (43, 9286055187155687089), (47, 11230858885718282805), (53, 13951009754708518548), (59, 16472876342353939154), (61, 17275323862435702243), (67, 1135362057144423861), (71, 2597628984639134821), (73, 3308224258029322869), (79, 5365058923640841347), (83, 6679025012923562964), (89, 8573033837759648693), (97, 10970295158949994411), (101, 12119686244451234320), (103, 12683024718118986047), (107, 13788192230050041572), (109, 14330467153632333762), (113, 15395433587784984357), (127, 489312712824947311), (131, 1452737877330783856), (137, 2861767655752347644), (139, 3322285676063803686), (149, 5560940570517711597), (151, 5996557281743188959), (157, 7280758554555802590), (163, 8532644243296465576), (167, 9350256976987008742), (173, 10552545826968843579), (179, 11727347734174303076), (181, 12113106623233404929), (191, 14000437183269869457), (193, 14369950271660146224), (197, 15101387698204529176), (199, 15463397548674623760), (211, 17586052441742319658), (223, 1182934255886127544), (227, 1847814050463011016), (229, 2177327727835720531), (233, 2830643537854262169), (239, 3796741975233480872), (241, 4115178125766777443), (251, 5681478168544905931), (257, 6601373596472566643), (263, 7507060721942968483), (269, 8399075790359081724), (271, 8693463985226723168), (277, 9568029438360202098), (281, 10144078919501101548), (283, 10430055236837252648), (293, 11840083180663258601), (307, 13761210420658862357), (311, 14299343276471374635), (313, 14566680578165727644), (317, 15097957966210449927), (331, 16922976911328602910), (337, 17689382322260857208), (347, 500013540394364858), (349, 748580250866718886), (353, 1242879168328830382), (359, 1977374033974150939), (367, 2944078676154940804), (373, 3659926193048069267), (379, 4368137639120453308), (383, 4836135668995329356), (389, 5532061633213252278), (397, 6448918945643986474), (401, 6902733635092675308), (409, 7801388544844847127)]
theorem b11_2 : Qb true true 2 4794697086780616226 := qb1 1 4794697086780309504 (by decide) (by decide) (by kernel_rfl) (by kernel_rfl)
theorem b11_3 : Qb true true 3 8158064640168781261 := qb1 1 8158064640168296448 (by decide) (by decide) (by kernel_rfl) (by kernel_rfl)
theorem b11_5 : Qb true true 5 13096744586834688815 := qb1 1 13096744586834345984 (by decide) (by decide) (by kernel_rfl) (by kernel_rfl)
theorem b11_7 : Qb true true 7 16840607885511220156 := qb1 1 16840607885510836224 (by decide) (by decide) (by kernel_rfl) (by kernel_rfl)
theorem b11_11 : Qb true true 11 4131703408338449720 := qb1 2 4131703408338141184 (by decide) (by decide) (by kernel_rfl) (by kernel_rfl)
theorem b11_13 : Qb true true 13 6480981068601479193 := qb1 2 6480981068601098240 (by decide) (by decide) (by kernel_rfl) (by kernel_rfl)
theorem b11_17 : Qb true true 17 10538285296894168987 := qb1 2 10538285296893820928 (by decide) (by decide) (by kernel_rfl) (by kernel_rfl)
theorem b11_19 : Qb true true 19 12329834152419229976 := qb1 2 12329834152418869248 (by decide) (by decide) (by kernel_rfl) (by kernel_rfl)
theorem b11_23 : Qb true true 23 15566598209576043074 := qb1 2 15566598209575583744 (by decide) (by decide) (by kernel_rfl) (by kernel_rfl)
theorem b11_29 : Qb true true 29 1334009975649890238 := qb1 3 1334009975649599488 (by decide) (by decide) (by kernel_rfl) (by kernel_rfl)
theorem b11_31 : Qb true true 31 2608012711638119052 := qb1 3 2608012711637811200 (by decide) (by decide) (by kernel_rfl) (by kernel_rfl)
theorem b11_37 : Qb true true 37 6128411473006802146 := qb1 3 6128411473006297088 (by decide) (by decide) (by kernel_rfl) (by kernel_rfl)
theorem b11_41 : Qb true true 41 8268148722764581231 := qb1 3 8268148722764087296 (by decide) (by decide) (by kernel_rfl) (by kernel_rfl)
theorem b11_43 : Qb true true 43 9286055187155687089 := qb1 3 9286055187155255296 (by decide) (by decide) (by kernel_rfl) (by kernel_rfl)
theorem b11_47 : Qb true true 47 11230858885718282805 := qb1 3 11230858885717819392 (by decide) (by decide) (by kernel_rfl) (by kernel_rfl)
theorem b11_53 : Qb true true 53 13951009754708518548 := qb1 3 13951009754708180992 (by decide) (by decide) (by kernel_rfl) (by kernel_rfl)
theorem b11_59 : Qb true true 59 16472876342353939154 := qb1 3 16472876342353592320 (by decide) (by decide) (by kernel_rfl) (by kernel_rfl)
theorem b11_61 : Qb true true 61 17275323862435702243 := qb1 3 17275323862435233792 (by decide) (by decide) (by kernel_rfl) (by kernel_rfl)
theorem b11_67 : Qb true true 67 1135362057144423861 := qb1 4 1135362057144107008 (by decide) (by decide) (by kernel_rfl) (by kernel_rfl)
theorem b11_71 : Qb true true 71 2597628984639134821 := qb1 4 2597628984638832640 (by decide) (by decide) (by kernel_rfl) (by kernel_rfl)
theorem b11_73 : Qb true true 73 3308224258029322869 := qb1 4 3308224258028863488 (by decide) (by decide) (by kernel_rfl) (by kernel_rfl)
theorem b11_79 : Qb true true 79 5365058923640841347 := qb1 4 5365058923640389632 (by decide) (by decide) (by kernel_rfl) (by kernel_rfl)
theorem b11_83 : Qb true true 83 6679025012923562964 := qb1 4 6679025012923170816 (by decide) (by decide) (by kernel_rfl) (by kernel_rfl)
theorem b11_89 : Qb true true 89 8573033837759648693 := qb1 4 8573033837759299584 (by decide) (by decide) (by kernel_rfl) (by kernel_rfl)
theorem b11_97 : Qb true true 97 10970295158949994411 := qb1 4 10970295158949543936 (by decide) (by decide) (by kernel_rfl) (by kernel_rfl)
theorem b11_101 : Qb true true 101 12119686244451234320 := qb1 4 12119686244450959360 (by decide) (by decide) (by kernel_rfl) (by kernel_rfl)
theorem b11_103 : Qb true true 103 12683024718118986047 := qb1 4 12683024718118518784 (by decide) (by decide) (by kernel_rfl) (by kernel_rfl)
theorem b11_107 : Qb true true 107 13788192230050041572 := qb1 4 13788192230049579008 (by decide) (by decide) (by kernel_rfl) (by kernel_rfl)
theorem b11_109 : Qb true true 109 14330467153632333762 := qb1 4 14330467153632034816 (by decide) (by decide) (by kernel_rfl) (by kernel_rfl)
theorem b11_113 : Qb true true 113 15395433587784984357 := qb1 4 15395433587784548352 (by decide) (by decide) (by kernel_rfl) (by kernel_rfl)
theorem b11_127 : Qb true true 127 489312712824947311 := qb1 5 489312712824455168 (by decide) (by decide) (by kernel_rfl) (by kernel_rfl)
theorem b11_131 : Qb true true 131 1452737877330783856 := qb1 5 1452737877330362368 (by decide) (by decide) (by kernel_rfl) (by kernel_rfl)
theorem b11_137 : Qb true true 137 2861767655752347644 := qb1 5 2861767655751942144 (by decide) (by decide) (by kernel_rfl) (by kernel_rfl)
theorem b11_139 : Qb true true 139 3322285676063803686 := qb1 5 3322285676063358976 (by decide) (by decide) (by kernel_rfl) (by kernel_rfl)
theorem b11_149 : Qb true true 149 5560940570517711597 := qb1 5 5560940570517438464 (by decide) (by decide) (by kernel_rfl) (by kernel_rfl)
theorem b11_151 : Qb true true 151 5996557281743188959 := qb1 5 5996557281742815232 (by decide) (by decide) (by kernel_rfl) (by kernel_rfl)
theorem b11_157 : Qb true true 157 7280758554555802590 := qb1 5 7280758554555318272 (by decide) (by decide) (by kernel_rfl) (by kernel_rfl)
theorem b11_163 : Qb true true 163 8532644243296465576 := qb1 5 8532644243295961088 (by decide) (by decide) (by kernel_rfl) (by kernel_rfl)
theorem b11_167 : Qb true true 167 9350256976987008742 := qb1 5 9350256976986636288 (by decide) (by decide) (by kernel_rfl) (by kernel_rfl)
theorem b11_173 : Qb true true 173 10552545826968843579 := qb1 5 10552545826968436736 (by decide) (by decide) (by kernel_rfl) (by kernel_rfl)
theorem b11_179 : Qb true true 179 11727347734174303076 := qb1 5 11727347734173974528 (by decide) (by decide) (by kernel_rfl) (by kernel_rfl)
theorem b11_181 : Qb true true 181 12113106623233404929 := qb1 5 12113106623232999424 (by decide) (by decide) (by kernel_rfl) (by kernel_rfl)
theorem b11_191 : Qb true true 191 14000437183269869457 := qb1 5 14000437183269568512 (by decide) (by decide) (by kernel_rfl) (by kernel_rfl)
theorem b11_193 : Qb true true 193 14369950271660146224 := qb1 5 14369950271659835392 (by decide) (by decide) (by kernel_rfl) (by kernel_rfl)
theorem b11_197 : Qb true true 197 15101387698204529176 := qb1 5 15101387698204049408 (by decide) (by decide) (by kernel_rfl) (by kernel_rfl)
theorem b11_199 : Qb true true 199 15463397548674623760 := qb1 5 15463397548674252800 (by decide) (by decide) (by kernel_rfl) (by kernel_rfl)
theorem b11_211 : Qb true true 211 17586052441742319658 := qb1 5 17586052441741983744 (by decide) (by decide) (by kernel_rfl) (by kernel_rfl)
theorem b11_223 : Qb true true 223 1182934255886127544 := qb1 6 1182934255885615104 (by decide) (by decide) (by kernel_rfl) (by kernel_rfl)
theorem b11_227 : Qb true true 227 1847814050463011016 := qb1 6 1847814050462564352 (by decide) (by decide) (by kernel_rfl) (by kernel_rfl)
theorem b11_229 : Qb true true 229 2177327727835720531 := qb1 6 2177327727835348992 (by decide) (by decide) (by kernel_rfl) (by kernel_rfl)
theorem b11_233 : Qb true true 233 2830643537854262169 := qb1 6 2830643537853808640 (by decide) (by decide) (by kernel_rfl) (by kernel_rfl)
theorem b11_239 : Qb true true 239 3796741975233480872 := qb1 6 3796741975233003520 (by decide) (by decide) (by kernel_rfl) (by kernel_rfl)
theorem b11_241 : Qb true true 241 4115178125766777443 := qb1 6 4115178125766426624 (by decide) (by decide) (by kernel_rfl) (by kernel_rfl)
theorem b11_251 : Qb true true 251 5681478168544905931 := qb1 6 5681478168544542720 (by decide) (by decide) (by kernel_rfl) (by kernel_rfl)
theorem b11_257 : Qb true true 257 6601373596472566643 := qb1 6 6601373596472311808 (by decide) (by decide) (by kernel_rfl) (by kernel_rfl)
theorem b11_263 : Qb true true 263 7507060721942968483 := qb1 6 7507060721942528000 (by decide) (by decide) (by kernel_rfl) (by kernel_rfl)
theorem b11_269 : Qb true true 269 8399075790359081724 := qb1 6 8399075790358577152 (by decide) (by decide) (by kernel_rfl) (by kernel_rfl)
theorem b11_271 : Qb true true 271 8693463985226723168 := qb1 6 8693463985226252288 (by decide) (by decide) (by kernel_rfl) (by kernel_rfl)
theorem b11_277 : Qb true true 277 9568029438360202098 := qb1 6 9568029438359896064 (by decide) (by decide) (by kernel_rfl) (by kernel_rfl)
theorem b11_281 : Qb true true 281 10144078919501101548 := qb1 6 10144078919500824576 (by decide) (by decide) (by kernel_rfl) (by kernel_rfl)
theorem b11_283 : Qb true true 283 10430055236837252648 := qb1 6 10430055236836786176 (by decide) (by decide) (by kernel_rfl) (by kernel_rfl)
theorem b11_293 : Qb true true 293 11840083180663258601 := qb1 6 11840083180662816768 (by decide) (by decide) (by kernel_rfl) (by kernel_rfl)
theorem b11_307 : Qb true true 307 13761210420658862357 := qb1 6 13761210420658438144 (by decide) (by decide) (by kernel_rfl) (by kernel_rfl)
theorem b11_311 : Qb true true 311 14299343276471374635 := qb1 6 14299343276470960128 (by decide) (by decide) (by kernel_rfl) (by kernel_rfl)
theorem b11_313 : Qb true true 313 14566680578165727644 := qb1 6 14566680578165309440 (by decide) (by decide) (by kernel_rfl) (by kernel_rfl)
theorem b11_317 : Qb true true 317 15097957966210449927 := qb1 6 15097957966210138112 (by decide) (by decide) (by kernel_rfl) (by kernel_rfl)
theorem b11_331 : Qb true true 331 16922976911328602910 := qb1 6 16922976911328280576 (by decide) (by decide) (by kernel_rfl) (by kernel_rfl)
theorem b11_337 : Qb true true 337 17689382322260857208 := qb1 6 17689382322260410368 (by decide) (by decide) (by kernel_rfl) (by kernel_rfl)
theorem b11_347 : Qb true true 347 500013540394364858 := qb1 7 500013540393877504 (by decide) (by decide) (by kernel_rfl) (by kernel_rfl)
theorem b11_349 : Qb true true 349 748580250866718886 := qb1 7 748580250866417664 (by decide) (by decide) (by kernel_rfl) (by kernel_rfl)
theorem b11_353 : Qb true true 353 1242879168328830382 := qb1 7 1242879168328499200 (by decide) (by decide) (by kernel_rfl) (by kernel_rfl)
theorem b11_359 : Qb true true 359 1977374033974150939 := qb1 7 1977374033973870592 (by decide) (by decide) (by kernel_rfl) (by kernel_rfl)
theorem b11_367 : Qb true true 367 2944078676154940804 := qb1 7 2944078676154646528 (by decide) (by decide) (by kernel_rfl) (by kernel_rfl)
theorem b11_373 : Qb true true 373 3659926193048069267 := qb1 7 3659926193047601152 (by decide) (by decide) (by kernel_rfl) (by kernel_rfl)
theorem b11_379 : Qb true true 379 4368137639120453308 := qb1 7 4368137639120076800 (by decide) (by decide) (by kernel_rfl) (by kernel_rfl)
theorem b11_383 : Qb true true 383 4836135668995329356 := qb1 7 4836135668995063808 (by decide) (by decide) (by kernel_rfl) (by kernel_rfl)
theorem b11_389 : Qb true true 389 5532061633213252278 := qb1 7 5532061633212841984 (by decide) (by decide) (by kernel_rfl) (by kernel_rfl)
theorem b11_397 : Qb true true 397 6448918945643986474 := qb1 7 6448918945643626496 (by decide) (by decide) (by kernel_rfl) (by kernel_rfl)
theorem b11_401 : Qb true true 401 6902733635092675308 := qb1 7 6902733635092217856 (by decide) (by decide) (by kernel_rfl) (by kernel_rfl)
theorem b11_409 : Qb true true 409 7801388544844847127 := qb1 7 7801388544844365824 (by decide) (by decide) (by kernel_rfl) (by kernel_rfl)
theorem bl11_all : Each (Qb true true) bl11 := ⟨b11_2, b11_3, b11_5, b11_7, b11_11, b11_13, b11_17, b11_19, b11_23, b11_29, b11_31, b11_37, b11_41, b11_43, b11_47, b11_53, b11_59, b11_61, b11_67, b11_71, b11_73, b11_79, b11_83, b11_89, b11_97, b11_101, b11_103, b11_107, b11_109, b11_113, b11_127, b11_131, b11_137, b11_139, b11_149, b11_151, b11_157, b11_163, b11_167, b11_173, b11_179, b11_181, b11_191, b11_193, b11_197, b11_199, b11_211, b11_223, b11_227, b11_229, b11_233, b11_239, b11_241, b11_251, b11_257, b11_263, b11_269, b11_271, b11_277, b11_281, b11_283, b11_293, b11_307, b11_311, b11_313, b11_317, b11_331, b11_337, b11_347, b11_349, b11_353, b11_359, b11_367, b11_373, b11_379, b11_383, b11_389, b11_397, b11_401, b11_409, trivial⟩
def bl01 : List (Nat × Nat) := [(2, 7640891576956012808), (3, 13503953896175478587), (5, 4354685564936845355), (7, 11912009170470909681), (11, 5840696475078001361), (13, 11170449401992604703), (17, 2270897969802886507), (19, 6620516959819538809)]
theorem b01_2 : Qb false true 2 7640891576956012808 := qb1 1 7640891576955699200 (by decide) (by decide) (by kernel_rfl) (by kernel_rfl)
theorem b01_3 : Qb false true 3 13503953896175478587 := qb1 1 13503953896175042560 (by decide) (by decide) (by kernel_rfl) (by kernel_rfl)
theorem b01_5 : Qb false true 5 4354685564936845355 := qb1 2 4354685564936519680 (by decide) (by decide) (by kernel_rfl) (by kernel_rfl)
theorem b01_7 : Qb false true 7 11912009170470909681 := qb1 2 11912009170470567936 (by decide) (by decide) (by kernel_rfl) (by kernel_rfl)
theorem b01_11 : Qb false true 11 5840696475078001361 := qb1 3 5840696475077574656 (by decide) (by decide) (by kernel_rfl) (by kernel_rfl)
theorem b01_13 : Qb false true 13 11170449401992604703 := qb1 3 11170449401992183808 (by decide) (by decide) (by kernel_rfl) (by kernel_rfl)
theorem b01_17 : Qb false true 17 2270897969802886507 := qb1 4 2270897969802510336 (by decide) (by decide) (by kernel_rfl) (by kernel_rfl)
theorem b01_19 : Qb false true 19 6620516959819538809 := qb1 4 6620516959819137024 (by decide) (by decide) (by kernel_rfl) (by kernel_rfl)
theorem bl01_all : Each (Qb false true) bl01 := ⟨b01_2, b01_3, b01_5, b01_7, b01_11, b01_13, b01_17, b01_19, trivial⟩
def bl : Bool → Bool → List (Nat × Nat)
  | true, false => bl10
  | false, false => bl00
  | true, true => bl11
  | false, true => bl01
theorem bl_all : ∀ c a, Each (Qb c a) (bl c a)
  | true, false => bl10_all
  | false, false => bl00_all
  | true, true => bl11_all
  | false, true => bl01_all
def s_bits : Spec := fun a M => match a, M with
  | [.flat [.int .u64 (.ofNat p), .int .u64 (.ofNat 0), .bool c], .bool a], [] => match look (bl c a) p with
    | some y => some (none, .int .u64 (Int.ofNat y), [])
    | none => none
  | _, _ => none
def cH3 (P : Program) : OrcP := addS (cH2 P) 58 s_bits
theorem cH3_ok : OrcPOK Try.prog (cH3 Try.prog) := by
  unfold cH3
  refine addS_ok mixed cH2_ok cH2_ok ?_
  intro a M q v M' h hq
  unfold s_bits at h
  split at h
  · split at h
    · rename_i y hl
      simp only [Option.some.injEq, Prod.mk.injEq] at h
      obtain ⟨rfl, rfl, rfl⟩ := h
      exact look_each (bl_all _ _) hl
    · cases h
  · cases h
end Go.Proofs.Ytkeieikhmaeiiaa
