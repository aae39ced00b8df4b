/- A part of the proof of the claim that the last text of this folder states. -/
import Derived.Test.YtebgbhgehnpahaaGreatDoorP23
namespace Go.E
set_option linter.all false
set_option maxRecDepth 100000
theorem w11 : runB (calM prog (orC (memS w12S w12A w12H w12V w12R) (nat)) 60 w11S w11A w11H) w11V w11R = true := by decide +kernel
theorem w14_0 : splL (calM prog nat 60) 64 0 w14S w14A w14H w14V w14R = true := by decide +kernel
theorem w14_1 : splL (calM prog nat 60) 64 1 w14S w14A w14H w14V w14R = true := by decide +kernel
theorem w14_2 : splL (calM prog nat 60) 64 2 w14S w14A w14H w14V w14R = true := by decide +kernel
theorem w14_3 : splL (calM prog nat 60) 64 3 w14S w14A w14H w14V w14R = true := by decide +kernel
theorem w14_4 : splL (calM prog nat 60) 64 4 w14S w14A w14H w14V w14R = true := by decide +kernel
theorem w14_5 : splL (calM prog nat 60) 64 5 w14S w14A w14H w14V w14R = true := by decide +kernel
theorem w14_6 : splL (calM prog nat 60) 64 6 w14S w14A w14H w14V w14R = true := by decide +kernel
theorem w14_7 : splL (calM prog nat 60) 64 7 w14S w14A w14H w14V w14R = true := by decide +kernel
theorem w14_8 : splL (calM prog nat 60) 64 8 w14S w14A w14H w14V w14R = true := by decide +kernel
theorem w14_9 : splL (calM prog nat 60) 64 9 w14S w14A w14H w14V w14R = true := by decide +kernel
theorem w14_10 : splL (calM prog nat 60) 64 10 w14S w14A w14H w14V w14R = true := by decide +kernel
theorem w14_11 : splL (calM prog nat 60) 64 11 w14S w14A w14H w14V w14R = true := by decide +kernel
theorem w14_12 : splL (calM prog nat 60) 64 12 w14S w14A w14H w14V w14R = true := by decide +kernel
theorem w14_13 : splL (calM prog nat 60) 64 13 w14S w14A w14H w14V w14R = true := by decide +kernel
theorem w14_14 : splL (calM prog nat 60) 64 14 w14S w14A w14H w14V w14R = true := by decide +kernel
theorem w14_15 : splL (calM prog nat 60) 64 15 w14S w14A w14H w14V w14R = true := by decide +kernel
theorem w14_16 : splL (calM prog nat 60) 64 16 w14S w14A w14H w14V w14R = true := by decide +kernel
theorem w14_17 : splL (calM prog nat 60) 64 17 w14S w14A w14H w14V w14R = true := by decide +kernel
theorem w14_18 : splL (calM prog nat 60) 64 18 w14S w14A w14H w14V w14R = true := by decide +kernel
theorem w14_19 : splL (calM prog nat 60) 64 19 w14S w14A w14H w14V w14R = true := by decide +kernel
theorem w14_20 : splL (calM prog nat 60) 64 20 w14S w14A w14H w14V w14R = true := by decide +kernel
theorem w14_21 : splL (calM prog nat 60) 64 21 w14S w14A w14H w14V w14R = true := by decide +kernel
theorem w14_22 : splL (calM prog nat 60) 64 22 w14S w14A w14H w14V w14R = true := by decide +kernel
theorem w14_23 : splL (calM prog nat 60) 64 23 w14S w14A w14H w14V w14R = true := by decide +kernel
theorem w14_24 : splL (calM prog nat 60) 64 24 w14S w14A w14H w14V w14R = true := by decide +kernel
theorem w14_25 : splL (calM prog nat 60) 64 25 w14S w14A w14H w14V w14R = true := by decide +kernel
theorem w14_26 : splL (calM prog nat 60) 64 26 w14S w14A w14H w14V w14R = true := by decide +kernel
theorem w14_27 : splL (calM prog nat 60) 64 27 w14S w14A w14H w14V w14R = true := by decide +kernel
theorem w14_28 : splL (calM prog nat 60) 64 28 w14S w14A w14H w14V w14R = true := by decide +kernel
theorem w14_29 : splL (calM prog nat 60) 64 29 w14S w14A w14H w14V w14R = true := by decide +kernel
theorem w14_k : okR w14V w14R = true := by decide +kernel
theorem w13 : runB (calM prog (orC (memS w14S w14A w14H w14V w14R) (nat)) 60 w13S w13A w13H) w13V w13R = true := by decide +kernel
theorem w16_0 : splL (calM prog nat 60) 64 0 w16S w16A w16H w16V w16R = true := by decide +kernel
theorem w16_1 : splL (calM prog nat 60) 64 1 w16S w16A w16H w16V w16R = true := by decide +kernel
theorem w16_2 : splL (calM prog nat 60) 64 2 w16S w16A w16H w16V w16R = true := by decide +kernel
theorem w16_3 : splL (calM prog nat 60) 64 3 w16S w16A w16H w16V w16R = true := by decide +kernel
theorem w16_4 : splL (calM prog nat 60) 64 4 w16S w16A w16H w16V w16R = true := by decide +kernel
theorem w16_5 : splL (calM prog nat 60) 64 5 w16S w16A w16H w16V w16R = true := by decide +kernel
theorem w16_6 : splL (calM prog nat 60) 64 6 w16S w16A w16H w16V w16R = true := by decide +kernel
theorem w16_7 : splL (calM prog nat 60) 64 7 w16S w16A w16H w16V w16R = true := by decide +kernel
theorem w16_8 : splL (calM prog nat 60) 64 8 w16S w16A w16H w16V w16R = true := by decide +kernel
theorem w16_9 : splL (calM prog nat 60) 64 9 w16S w16A w16H w16V w16R = true := by decide +kernel
theorem w16_10 : splL (calM prog nat 60) 64 10 w16S w16A w16H w16V w16R = true := by decide +kernel
theorem w16_11 : splL (calM prog nat 60) 64 11 w16S w16A w16H w16V w16R = true := by decide +kernel
theorem w16_12 : splL (calM prog nat 60) 64 12 w16S w16A w16H w16V w16R = true := by decide +kernel
theorem w16_13 : splL (calM prog nat 60) 64 13 w16S w16A w16H w16V w16R = true := by decide +kernel
theorem w16_14 : splL (calM prog nat 60) 64 14 w16S w16A w16H w16V w16R = true := by decide +kernel
theorem w16_15 : splL (calM prog nat 60) 64 15 w16S w16A w16H w16V w16R = true := by decide +kernel
theorem w16_16 : splL (calM prog nat 60) 64 16 w16S w16A w16H w16V w16R = true := by decide +kernel
theorem w16_17 : splL (calM prog nat 60) 64 17 w16S w16A w16H w16V w16R = true := by decide +kernel
theorem w16_18 : splL (calM prog nat 60) 64 18 w16S w16A w16H w16V w16R = true := by decide +kernel
theorem w16_19 : splL (calM prog nat 60) 64 19 w16S w16A w16H w16V w16R = true := by decide +kernel
theorem w16_20 : splL (calM prog nat 60) 64 20 w16S w16A w16H w16V w16R = true := by decide +kernel
theorem w16_21 : splL (calM prog nat 60) 64 21 w16S w16A w16H w16V w16R = true := by decide +kernel
theorem w16_22 : splL (calM prog nat 60) 64 22 w16S w16A w16H w16V w16R = true := by decide +kernel
theorem w16_23 : splL (calM prog nat 60) 64 23 w16S w16A w16H w16V w16R = true := by decide +kernel
theorem w16_24 : splL (calM prog nat 60) 64 24 w16S w16A w16H w16V w16R = true := by decide +kernel
theorem w16_25 : splL (calM prog nat 60) 64 25 w16S w16A w16H w16V w16R = true := by decide +kernel
theorem w16_26 : splL (calM prog nat 60) 64 26 w16S w16A w16H w16V w16R = true := by decide +kernel
theorem w16_27 : splL (calM prog nat 60) 64 27 w16S w16A w16H w16V w16R = true := by decide +kernel
theorem w16_28 : splL (calM prog nat 60) 64 28 w16S w16A w16H w16V w16R = true := by decide +kernel
theorem w16_29 : splL (calM prog nat 60) 64 29 w16S w16A w16H w16V w16R = true := by decide +kernel
theorem w16_k : okR w16V w16R = true := by decide +kernel
theorem w17_0 : splL (calM prog nat 60) 96 0 w17S w17A w17H w17V w17R = true := by decide +kernel
theorem w17_1 : splL (calM prog nat 60) 96 1 w17S w17A w17H w17V w17R = true := by decide +kernel
end Go.E
