/- A part of the proof of the claim that the last text of this folder states. -/
import Derived.Test.YtebgbhgehnpahaaGreatDoorP23
namespace Go.E
set_option linter.all false
set_option maxRecDepth 100000
theorem w36_22 : splL (calM prog nat 60) 64 22 w36S w36A w36H w36V w36R = true := by decide +kernel
theorem w36_23 : splL (calM prog nat 60) 64 23 w36S w36A w36H w36V w36R = true := by decide +kernel
theorem w36_24 : splL (calM prog nat 60) 64 24 w36S w36A w36H w36V w36R = true := by decide +kernel
theorem w36_25 : splL (calM prog nat 60) 64 25 w36S w36A w36H w36V w36R = true := by decide +kernel
theorem w36_26 : splL (calM prog nat 60) 64 26 w36S w36A w36H w36V w36R = true := by decide +kernel
theorem w36_27 : splL (calM prog nat 60) 64 27 w36S w36A w36H w36V w36R = true := by decide +kernel
set_option maxRecDepth 100000
theorem w36_28 : splL (calM prog nat 60) 64 28 w36S w36A w36H w36V w36R = true := by decide +kernel
theorem w36_29 : splL (calM prog nat 60) 64 29 w36S w36A w36H w36V w36R = true := by decide +kernel
theorem w36_k : okR w36V w36R = true := by decide +kernel
theorem w38_0 : splL (calM prog nat 60) 64 0 w38S w38A w38H w38V w38R = true := by decide +kernel
theorem w38_1 : splL (calM prog nat 60) 64 1 w38S w38A w38H w38V w38R = true := by decide +kernel
theorem w38_2 : splL (calM prog nat 60) 64 2 w38S w38A w38H w38V w38R = true := by decide +kernel
theorem w38_3 : splL (calM prog nat 60) 64 3 w38S w38A w38H w38V w38R = true := by decide +kernel
theorem w38_4 : splL (calM prog nat 60) 64 4 w38S w38A w38H w38V w38R = true := by decide +kernel
theorem w38_5 : splL (calM prog nat 60) 64 5 w38S w38A w38H w38V w38R = true := by decide +kernel
theorem w38_6 : splL (calM prog nat 60) 64 6 w38S w38A w38H w38V w38R = true := by decide +kernel
theorem w38_7 : splL (calM prog nat 60) 64 7 w38S w38A w38H w38V w38R = true := by decide +kernel
theorem w38_8 : splL (calM prog nat 60) 64 8 w38S w38A w38H w38V w38R = true := by decide +kernel
theorem w38_9 : splL (calM prog nat 60) 64 9 w38S w38A w38H w38V w38R = true := by decide +kernel
theorem w38_10 : splL (calM prog nat 60) 64 10 w38S w38A w38H w38V w38R = true := by decide +kernel
theorem w38_11 : splL (calM prog nat 60) 64 11 w38S w38A w38H w38V w38R = true := by decide +kernel
theorem w38_12 : splL (calM prog nat 60) 64 12 w38S w38A w38H w38V w38R = true := by decide +kernel
theorem w38_13 : splL (calM prog nat 60) 64 13 w38S w38A w38H w38V w38R = true := by decide +kernel
theorem w38_14 : splL (calM prog nat 60) 64 14 w38S w38A w38H w38V w38R = true := by decide +kernel
theorem w38_15 : splL (calM prog nat 60) 64 15 w38S w38A w38H w38V w38R = true := by decide +kernel
theorem w38_16 : splL (calM prog nat 60) 64 16 w38S w38A w38H w38V w38R = true := by decide +kernel
theorem w38_17 : splL (calM prog nat 60) 64 17 w38S w38A w38H w38V w38R = true := by decide +kernel
theorem w38_18 : splL (calM prog nat 60) 64 18 w38S w38A w38H w38V w38R = true := by decide +kernel
theorem w38_19 : splL (calM prog nat 60) 64 19 w38S w38A w38H w38V w38R = true := by decide +kernel
theorem w38_20 : splL (calM prog nat 60) 64 20 w38S w38A w38H w38V w38R = true := by decide +kernel
theorem w38_21 : splL (calM prog nat 60) 64 21 w38S w38A w38H w38V w38R = true := by decide +kernel
theorem w38_22 : splL (calM prog nat 60) 64 22 w38S w38A w38H w38V w38R = true := by decide +kernel
theorem w38_23 : splL (calM prog nat 60) 64 23 w38S w38A w38H w38V w38R = true := by decide +kernel
theorem w38_24 : splL (calM prog nat 60) 64 24 w38S w38A w38H w38V w38R = true := by decide +kernel
theorem w38_25 : splL (calM prog nat 60) 64 25 w38S w38A w38H w38V w38R = true := by decide +kernel
theorem w38_26 : splL (calM prog nat 60) 64 26 w38S w38A w38H w38V w38R = true := by decide +kernel
end Go.E
