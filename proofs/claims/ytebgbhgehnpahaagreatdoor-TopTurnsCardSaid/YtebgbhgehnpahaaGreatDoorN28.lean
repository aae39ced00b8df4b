/- A part of the proof of the claim that the last text of this folder states. -/
import Derived.Test.YtebgbhgehnpahaaGreatDoorN26
import Derived.Test.YtebgbhgehnpahaaGreatDoorN27
namespace Go.E
set_option linter.all false
set_option maxRecDepth 100000
noncomputable def natN1 : Cal := orC (oraC (Pth.of 17) [.s (.i .i64 ((symN + 0 : Nat) : Int)), .s (.i .i64 (.ofNat 6))] (.s (.i .i64 (.ofNat 1)))) (orC (oraC (Pth.of 17) [.s (.i .i64 ((symN + 1 : Nat) : Int)), .s (.i .i64 (.ofNat 256))] (.s (.i .i64 (.ofNat 37797378607030871261184)))) (orC (oraC (Pth.of 17) [.s (.i .i64 ((symN + 2 : Nat) : Int)), .s (.i .i64 (.ofNat 120))] (.s (.i .i64 (.ofNat 75576310469988032970752)))) (orC (memS fa0S fa0A fa0H fa0V fa0R) (orC (memS gb1S gb1A gb1H gb1V gb1R) (orC (memS e1_10S e1_10A e1_10H e1_10V e1_10R) (orC (memS e1_11S e1_11A e1_11H e1_11V e1_11R) (orC (memS e1_12S e1_12A e1_12H e1_12V e1_12R) (orC (memS e1_13S e1_13A e1_13H e1_13V e1_13R) (orC (memS e1_14S e1_14A e1_14H e1_14V e1_14R) (orC (memS e1_15S e1_15A e1_15H e1_15V e1_15R) (orC (memS e1_16S e1_16A e1_16H e1_16V e1_16R) (orC (memS e1_17S e1_17A e1_17H e1_17V e1_17R) (orC (memS e1_18S e1_18A e1_18H e1_18V e1_18R) (orC (memS e1_19S e1_19A e1_19H e1_19V e1_19R) (orC (memS e1_20S e1_20A e1_20H e1_20V e1_20R) (orC (memS e1_21S e1_21A e1_21H e1_21V e1_21R) (orC (memS e1_22S e1_22A e1_22H e1_22V e1_22R) (orC (memS e1_23S e1_23A e1_23H e1_23V e1_23R) (orC (memS e1_24S e1_24A e1_24H e1_24V e1_24R) (nat))))))))))))))))))))
noncomputable def sN1 (i : Int) (h : Hp) : LS := ⟨[(a2,(.s (.i .i64 340282366920938463463374607431768211458))),(a7,(.s (.b true))),(a8,(.s (.i .i64 3))),(a11,(.s (.p a36 0))),(a12,(.s (.i .i64 i)))], h⟩
noncomputable def S1_0 : List LS := [sN1 0 hs1_0,sN1 1 hs1_1,sN1 2 hs1_2,sN1 3 hs1_3,sN1 4 hs1_4,sN1 5 hs1_5,sN1 6 hs1_6,sN1 7 hs1_7,sN1 8 hs1_8,sN1 9 hs1_9,sN1 10 hs1_10,sN1 11 hs1_11,sN1 12 hs1_12,sN1 13 hs1_13,sN1 14 hs1_14,sN1 15 hs1_0,sN1 16 hs1_1,sN1 17 hs1_2,sN1 18 hs1_3,sN1 19 hs1_4,sN1 20 hs1_5,sN1 21 hs1_6,sN1 22 hs1_7,sN1 23 hs1_8,sN1 24 hs1_9,sN1 25 hs1_10,sN1 26 hs1_11,sN1 27 hs1_12,sN1 28 hs1_13,sN1 29 hs1_14]
noncomputable def S1_1 : List LS := [sN1 30 hs1_0,sN1 31 hs1_1,sN1 32 hs1_2,sN1 33 hs1_3,sN1 34 hs1_4,sN1 35 hs1_5,sN1 36 hs1_6,sN1 37 hs1_7,sN1 38 hs1_8,sN1 39 hs1_9,sN1 40 hs1_10,sN1 41 hs1_11,sN1 42 hs1_12,sN1 43 hs1_13,sN1 44 hs1_14,sN1 45 hs1_0,sN1 46 hs1_1,sN1 47 hs1_2,sN1 48 hs1_3,sN1 49 hs1_4,sN1 50 hs1_5,sN1 51 hs1_6,sN1 52 hs1_7,sN1 53 hs1_8,sN1 54 hs1_9,sN1 55 hs1_10,sN1 56 hs1_11,sN1 57 hs1_12,sN1 58 hs1_13,sN1 59 hs1_14]
noncomputable def S1_2 : List LS := [sN1 60 hs1_0,sN1 61 hs1_1,sN1 62 hs1_2,sN1 63 hs1_3,sN1 64 hs1_4,sN1 65 hs1_5,sN1 66 hs1_6,sN1 67 hs1_7,sN1 68 hs1_8,sN1 69 hs1_9,sN1 70 hs1_10,sN1 71 hs1_11,sN1 72 hs1_12,sN1 73 hs1_13,sN1 74 hs1_14,sN1 75 hs1_0,sN1 76 hs1_1,sN1 77 hs1_2,sN1 78 hs1_3,sN1 79 hs1_4,sN1 80 hs1_5,sN1 81 hs1_6,sN1 82 hs1_7,sN1 83 hs1_8,sN1 84 hs1_9,sN1 85 hs1_10,sN1 86 hs1_11,sN1 87 hs1_12,sN1 88 hs1_13,sN1 89 hs1_14]
noncomputable def S1_3 : List LS := [sN1 90 hs1_0,sN1 91 hs1_1,sN1 92 hs1_2,sN1 93 hs1_3,sN1 94 hs1_4,sN1 95 hs1_5,sN1 96 hs1_6,sN1 97 hs1_7,sN1 98 hs1_8,sN1 99 hs1_9,sN1 100 hs1_10,sN1 101 hs1_11,sN1 102 hs1_12,sN1 103 hs1_13,sN1 104 hs1_14,sN1 105 hs1_0,sN1 106 hs1_1,sN1 107 hs1_2,sN1 108 hs1_3,sN1 109 hs1_4,sN1 110 hs1_5,sN1 111 hs1_6,sN1 112 hs1_7,sN1 113 hs1_8,sN1 114 hs1_9,sN1 115 hs1_10,sN1 116 hs1_11,sN1 117 hs1_12,sN1 118 hs1_13,sN1 119 hs1_14]
noncomputable def S1 : List LS := S1_0 ++ (S1_1 ++ (S1_2 ++ S1_3))
set_option maxRecDepth 100000
theorem run1 : iniB (symA [.i64, .i64, .i64] 0) (exWs jsN (calM prog natN1 60) (kF (fr f4) (.s (.b true))) (fun _ => noB) fun t h => exW jI (calM prog natN1 60) t h (inL S1) (kF (fr f4) (.s (.b true))) fun _ => noB) (heap0 tabL) = true := by decide +kernel
set_option maxRecDepth 100000
theorem ver1_0 : verC jB (calM prog natN1 60) (kF (fr f4) (.s (.b true))) (kxZ 2 jZ (calM prog natN1 60) (kF (fr f4) (.s (.b true)))) (S1_1 ++ (S1_2 ++ S1_3)) S1_0 = true := by decide +kernel
set_option maxRecDepth 100000
theorem ver1_1 : verC jB (calM prog natN1 60) (kF (fr f4) (.s (.b true))) (kxZ 2 jZ (calM prog natN1 60) (kF (fr f4) (.s (.b true)))) (S1_2 ++ S1_3) S1_1 = true := by decide +kernel
set_option maxRecDepth 100000
theorem ver1_2 : verC jB (calM prog natN1 60) (kF (fr f4) (.s (.b true))) (kxZ 2 jZ (calM prog natN1 60) (kF (fr f4) (.s (.b true)))) S1_3 S1_2 = true := by decide +kernel
set_option maxRecDepth 100000
theorem ver1_3 : verC jB (calM prog natN1 60) (kF (fr f4) (.s (.b true))) (kxZ 2 jZ (calM prog natN1 60) (kF (fr f4) (.s (.b true)))) [] S1_3 = true := by decide +kernel
end Go.E
