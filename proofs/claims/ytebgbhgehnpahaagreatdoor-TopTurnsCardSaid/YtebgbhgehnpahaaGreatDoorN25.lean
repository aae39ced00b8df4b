/- A part of the proof of the claim that the last text of this folder states. -/
import Derived.Test.YtebgbhgehnpahaaGreatDoorN24
namespace Go.E
set_option linter.all false
set_option maxRecDepth 100000
noncomputable def natN0 : Cal := orC (oraC (Pth.of 17) [.s (.i .i64 ((symN + 0 : Nat) : Int)), .s (.i .i64 (.ofNat 6))] (.s (.i .i64 (.ofNat 0)))) (orC (oraC (Pth.of 17) [.s (.i .i64 ((symN + 1 : Nat) : Int)), .s (.i .i64 (.ofNat 256))] (.s (.i .i64 (.ofNat 37797378607030871261184)))) (orC (oraC (Pth.of 17) [.s (.i .i64 ((symN + 2 : Nat) : Int)), .s (.i .i64 (.ofNat 120))] (.s (.i .i64 (.ofNat 75576310469988032970752)))) (orC (memS fa0S fa0A fa0H fa0V fa0R) (orC (memS gb0S gb0A gb0H gb0V gb0R) (orC (memS e0_10S e0_10A e0_10H e0_10V e0_10R) (orC (memS e0_11S e0_11A e0_11H e0_11V e0_11R) (orC (memS e0_12S e0_12A e0_12H e0_12V e0_12R) (orC (memS e0_13S e0_13A e0_13H e0_13V e0_13R) (orC (memS e0_14S e0_14A e0_14H e0_14V e0_14R) (orC (memS e0_15S e0_15A e0_15H e0_15V e0_15R) (orC (memS e0_16S e0_16A e0_16H e0_16V e0_16R) (orC (memS e0_17S e0_17A e0_17H e0_17V e0_17R) (orC (memS e0_18S e0_18A e0_18H e0_18V e0_18R) (orC (memS e0_19S e0_19A e0_19H e0_19V e0_19R) (nat)))))))))))))))
noncomputable def sN0 (i : Int) (h : Hp) : LS := ⟨[(a2,(.s (.i .i64 340282366920938463463374607431768211458))),(a7,(.s (.b true))),(a8,(.s (.i .i64 2))),(a11,(.s (.p a31 0))),(a12,(.s (.i .i64 i)))], h⟩
noncomputable def S0_0 : List LS := [sN0 0 hs0_0,sN0 1 hs0_1,sN0 2 hs0_2,sN0 3 hs0_3,sN0 4 hs0_4,sN0 5 hs0_5,sN0 6 hs0_6,sN0 7 hs0_7,sN0 8 hs0_8,sN0 9 hs0_9,sN0 10 hs0_0,sN0 11 hs0_1,sN0 12 hs0_2,sN0 13 hs0_3,sN0 14 hs0_4,sN0 15 hs0_5,sN0 16 hs0_6,sN0 17 hs0_7,sN0 18 hs0_8,sN0 19 hs0_9,sN0 20 hs0_0,sN0 21 hs0_1,sN0 22 hs0_2,sN0 23 hs0_3,sN0 24 hs0_4,sN0 25 hs0_5,sN0 26 hs0_6,sN0 27 hs0_7,sN0 28 hs0_8,sN0 29 hs0_9]
noncomputable def S0_1 : List LS := [sN0 30 hs0_0,sN0 31 hs0_1,sN0 32 hs0_2,sN0 33 hs0_3,sN0 34 hs0_4,sN0 35 hs0_5,sN0 36 hs0_6,sN0 37 hs0_7,sN0 38 hs0_8,sN0 39 hs0_9,sN0 40 hs0_0,sN0 41 hs0_1,sN0 42 hs0_2,sN0 43 hs0_3,sN0 44 hs0_4,sN0 45 hs0_5,sN0 46 hs0_6,sN0 47 hs0_7,sN0 48 hs0_8,sN0 49 hs0_9,sN0 50 hs0_0,sN0 51 hs0_1,sN0 52 hs0_2,sN0 53 hs0_3,sN0 54 hs0_4,sN0 55 hs0_5,sN0 56 hs0_6,sN0 57 hs0_7,sN0 58 hs0_8,sN0 59 hs0_9]
noncomputable def S0_2 : List LS := [sN0 60 hs0_0,sN0 61 hs0_1,sN0 62 hs0_2,sN0 63 hs0_3,sN0 64 hs0_4,sN0 65 hs0_5,sN0 66 hs0_6,sN0 67 hs0_7,sN0 68 hs0_8,sN0 69 hs0_9,sN0 70 hs0_0,sN0 71 hs0_1,sN0 72 hs0_2,sN0 73 hs0_3,sN0 74 hs0_4,sN0 75 hs0_5,sN0 76 hs0_6,sN0 77 hs0_7,sN0 78 hs0_8,sN0 79 hs0_9,sN0 80 hs0_0,sN0 81 hs0_1,sN0 82 hs0_2,sN0 83 hs0_3,sN0 84 hs0_4,sN0 85 hs0_5,sN0 86 hs0_6,sN0 87 hs0_7,sN0 88 hs0_8,sN0 89 hs0_9]
noncomputable def S0_3 : List LS := [sN0 90 hs0_0,sN0 91 hs0_1,sN0 92 hs0_2,sN0 93 hs0_3,sN0 94 hs0_4,sN0 95 hs0_5,sN0 96 hs0_6,sN0 97 hs0_7,sN0 98 hs0_8,sN0 99 hs0_9,sN0 100 hs0_0,sN0 101 hs0_1,sN0 102 hs0_2,sN0 103 hs0_3,sN0 104 hs0_4,sN0 105 hs0_5,sN0 106 hs0_6,sN0 107 hs0_7,sN0 108 hs0_8,sN0 109 hs0_9,sN0 110 hs0_0,sN0 111 hs0_1,sN0 112 hs0_2,sN0 113 hs0_3,sN0 114 hs0_4,sN0 115 hs0_5,sN0 116 hs0_6,sN0 117 hs0_7,sN0 118 hs0_8,sN0 119 hs0_9]
noncomputable def S0 : List LS := S0_0 ++ (S0_1 ++ (S0_2 ++ S0_3))
set_option maxRecDepth 100000
theorem run0 : iniB (symA [.i64, .i64, .i64] 0) (exWs jsN (calM prog natN0 60) (kF (fr f4) (.s (.b true))) (fun _ => noB) fun t h => exW jI (calM prog natN0 60) t h (inL S0) (kF (fr f4) (.s (.b true))) fun _ => noB) (heap0 tabL) = true := by decide +kernel
set_option maxRecDepth 100000
theorem ver0_0 : verC jB (calM prog natN0 60) (kF (fr f4) (.s (.b true))) (kxZ 2 jZ (calM prog natN0 60) (kF (fr f4) (.s (.b true)))) (S0_1 ++ (S0_2 ++ S0_3)) S0_0 = true := by decide +kernel
set_option maxRecDepth 100000
theorem ver0_1 : verC jB (calM prog natN0 60) (kF (fr f4) (.s (.b true))) (kxZ 2 jZ (calM prog natN0 60) (kF (fr f4) (.s (.b true)))) (S0_2 ++ S0_3) S0_1 = true := by decide +kernel
set_option maxRecDepth 100000
theorem ver0_2 : verC jB (calM prog natN0 60) (kF (fr f4) (.s (.b true))) (kxZ 2 jZ (calM prog natN0 60) (kF (fr f4) (.s (.b true)))) S0_3 S0_2 = true := by decide +kernel
set_option maxRecDepth 100000
theorem ver0_3 : verC jB (calM prog natN0 60) (kF (fr f4) (.s (.b true))) (kxZ 2 jZ (calM prog natN0 60) (kF (fr f4) (.s (.b true)))) [] S0_3 = true := by decide +kernel
end Go.E
