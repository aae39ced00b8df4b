/- A part of the proof of the claim that the last text of this folder states. -/
import Derived.Test.YtebgbhgehnpahaaGreatDoorP23
namespace Go.E
set_option linter.all false
set_option maxRecDepth 100000
theorem w20_16 : splL (calM prog nat 60) 64 16 w20S w20A w20H w20V w20R = true := by decide +kernel
theorem w20_17 : splL (calM prog nat 60) 64 17 w20S w20A w20H w20V w20R = true := by decide +kernel
theorem w20_18 : splL (calM prog nat 60) 64 18 w20S w20A w20H w20V w20R = true := by decide +kernel
theorem w20_19 : splL (calM prog nat 60) 64 19 w20S w20A w20H w20V w20R = true := by decide +kernel
theorem w20_20 : splL (calM prog nat 60) 64 20 w20S w20A w20H w20V w20R = true := by decide +kernel
theorem w20_21 : splL (calM prog nat 60) 64 21 w20S w20A w20H w20V w20R = true := by decide +kernel
theorem w20_22 : splL (calM prog nat 60) 64 22 w20S w20A w20H w20V w20R = true := by decide +kernel
theorem w20_23 : splL (calM prog nat 60) 64 23 w20S w20A w20H w20V w20R = true := by decide +kernel
theorem w20_24 : splL (calM prog nat 60) 64 24 w20S w20A w20H w20V w20R = true := by decide +kernel
theorem w20_25 : splL (calM prog nat 60) 64 25 w20S w20A w20H w20V w20R = true := by decide +kernel
theorem w20_26 : splL (calM prog nat 60) 64 26 w20S w20A w20H w20V w20R = true := by decide +kernel
theorem w20_27 : splL (calM prog nat 60) 64 27 w20S w20A w20H w20V w20R = true := by decide +kernel
theorem w20_28 : splL (calM prog nat 60) 64 28 w20S w20A w20H w20V w20R = true := by decide +kernel
theorem w20_29 : splL (calM prog nat 60) 64 29 w20S w20A w20H w20V w20R = true := by decide +kernel
theorem w20_k : okR w20V w20R = true := by decide +kernel
theorem w21_0 : splL (calM prog nat 60) 64 0 w21S w21A w21H w21V w21R = true := by decide +kernel
theorem w21_1 : splL (calM prog nat 60) 64 1 w21S w21A w21H w21V w21R = true := by decide +kernel
theorem w21_2 : splL (calM prog nat 60) 64 2 w21S w21A w21H w21V w21R = true := by decide +kernel
end Go.E
