/- A part of the proof of the claim that the last text of this folder states. -/
import Derived.Test.YtebgbhgehnpahaaGreatDoorP23
namespace Go.E
set_option linter.all false
set_option maxRecDepth 100000
theorem w0 : runB (calM prog (nat) 60 w0S w0A w0H) w0V w0R = true := by decide +kernel
theorem w2_0 : splL (calM prog nat 60) 64 0 w2S w2A w2H w2V w2R = true := by decide +kernel
theorem w2_1 : splL (calM prog nat 60) 64 1 w2S w2A w2H w2V w2R = true := by decide +kernel
theorem w2_2 : splL (calM prog nat 60) 64 2 w2S w2A w2H w2V w2R = true := by decide +kernel
theorem w2_3 : splL (calM prog nat 60) 64 3 w2S w2A w2H w2V w2R = true := by decide +kernel
theorem w2_4 : splL (calM prog nat 60) 64 4 w2S w2A w2H w2V w2R = true := by decide +kernel
theorem w2_5 : splL (calM prog nat 60) 64 5 w2S w2A w2H w2V w2R = true := by decide +kernel
theorem w2_6 : splL (calM prog nat 60) 64 6 w2S w2A w2H w2V w2R = true := by decide +kernel
theorem w2_7 : splL (calM prog nat 60) 64 7 w2S w2A w2H w2V w2R = true := by decide +kernel
theorem w2_8 : splL (calM prog nat 60) 64 8 w2S w2A w2H w2V w2R = true := by decide +kernel
theorem w2_9 : splL (calM prog nat 60) 64 9 w2S w2A w2H w2V w2R = true := by decide +kernel
theorem w2_10 : splL (calM prog nat 60) 64 10 w2S w2A w2H w2V w2R = true := by decide +kernel
theorem w2_11 : splL (calM prog nat 60) 64 11 w2S w2A w2H w2V w2R = true := by decide +kernel
theorem w2_12 : splL (calM prog nat 60) 64 12 w2S w2A w2H w2V w2R = true := by decide +kernel
theorem w2_13 : splL (calM prog nat 60) 64 13 w2S w2A w2H w2V w2R = true := by decide +kernel
theorem w2_14 : splL (calM prog nat 60) 64 14 w2S w2A w2H w2V w2R = true := by decide +kernel
theorem w2_15 : splL (calM prog nat 60) 64 15 w2S w2A w2H w2V w2R = true := by decide +kernel
theorem w2_16 : splL (calM prog nat 60) 64 16 w2S w2A w2H w2V w2R = true := by decide +kernel
theorem w2_17 : splL (calM prog nat 60) 64 17 w2S w2A w2H w2V w2R = true := by decide +kernel
theorem w2_18 : splL (calM prog nat 60) 64 18 w2S w2A w2H w2V w2R = true := by decide +kernel
theorem w2_19 : splL (calM prog nat 60) 64 19 w2S w2A w2H w2V w2R = true := by decide +kernel
theorem w2_20 : splL (calM prog nat 60) 64 20 w2S w2A w2H w2V w2R = true := by decide +kernel
theorem w2_21 : splL (calM prog nat 60) 64 21 w2S w2A w2H w2V w2R = true := by decide +kernel
theorem w2_22 : splL (calM prog nat 60) 64 22 w2S w2A w2H w2V w2R = true := by decide +kernel
theorem w2_23 : splL (calM prog nat 60) 64 23 w2S w2A w2H w2V w2R = true := by decide +kernel
theorem w2_24 : splL (calM prog nat 60) 64 24 w2S w2A w2H w2V w2R = true := by decide +kernel
theorem w2_25 : splL (calM prog nat 60) 64 25 w2S w2A w2H w2V w2R = true := by decide +kernel
theorem w2_26 : splL (calM prog nat 60) 64 26 w2S w2A w2H w2V w2R = true := by decide +kernel
end Go.E
