/- A part of the proof of the claim that the last text of this folder states. -/
import Derived.Test.YtebgbhgehnpahaaGreatDoorP23
namespace Go.E
set_option linter.all false
set_option maxRecDepth 100000
theorem w21_27 : splL (calM prog nat 60) 64 27 w21S w21A w21H w21V w21R = true := by decide +kernel
theorem w21_28 : splL (calM prog nat 60) 64 28 w21S w21A w21H w21V w21R = true := by decide +kernel
theorem w21_29 : splL (calM prog nat 60) 64 29 w21S w21A w21H w21V w21R = true := by decide +kernel
theorem w21_k : okR w21V w21R = true := by decide +kernel
theorem w22_0 : splL (calM prog nat 60) 96 0 w22S w22A w22H w22V w22R = true := by decide +kernel
theorem w22_1 : splL (calM prog nat 60) 96 1 w22S w22A w22H w22V w22R = true := by decide +kernel
theorem w22_2 : splL (calM prog nat 60) 96 2 w22S w22A w22H w22V w22R = true := by decide +kernel
theorem w22_3 : splL (calM prog nat 60) 96 3 w22S w22A w22H w22V w22R = true := by decide +kernel
set_option maxRecDepth 100000
theorem w22_4 : splL (calM prog nat 60) 96 4 w22S w22A w22H w22V w22R = true := by decide +kernel
theorem w22_5 : splL (calM prog nat 60) 96 5 w22S w22A w22H w22V w22R = true := by decide +kernel
theorem w22_6 : splL (calM prog nat 60) 96 6 w22S w22A w22H w22V w22R = true := by decide +kernel
theorem w22_7 : splL (calM prog nat 60) 96 7 w22S w22A w22H w22V w22R = true := by decide +kernel
theorem w22_8 : splL (calM prog nat 60) 96 8 w22S w22A w22H w22V w22R = true := by decide +kernel
theorem w22_k : okR w22V w22R = true := by decide +kernel
theorem w24_0 : splL (calM prog nat 60) 96 0 w24S w24A w24H w24V w24R = true := by decide +kernel
theorem w24_1 : splL (calM prog nat 60) 96 1 w24S w24A w24H w24V w24R = true := by decide +kernel
theorem w24_2 : splL (calM prog nat 60) 96 2 w24S w24A w24H w24V w24R = true := by decide +kernel
theorem w24_3 : splL (calM prog nat 60) 96 3 w24S w24A w24H w24V w24R = true := by decide +kernel
theorem w24_4 : splL (calM prog nat 60) 96 4 w24S w24A w24H w24V w24R = true := by decide +kernel
theorem w24_5 : splL (calM prog nat 60) 96 5 w24S w24A w24H w24V w24R = true := by decide +kernel
end Go.E
