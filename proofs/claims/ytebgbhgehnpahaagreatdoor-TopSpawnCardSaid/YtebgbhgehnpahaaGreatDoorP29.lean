/- A part of the proof of the claim that the last text of this folder states. -/
import Derived.Test.YtebgbhgehnpahaaGreatDoorP23
namespace Go.E
set_option linter.all false
set_option maxRecDepth 100000
theorem w17_2 : splL (calM prog nat 60) 96 2 w17S w17A w17H w17V w17R = true := by decide +kernel
theorem w17_3 : splL (calM prog nat 60) 96 3 w17S w17A w17H w17V w17R = true := by decide +kernel
theorem w17_4 : splL (calM prog nat 60) 96 4 w17S w17A w17H w17V w17R = true := by decide +kernel
theorem w17_5 : splL (calM prog nat 60) 96 5 w17S w17A w17H w17V w17R = true := by decide +kernel
theorem w17_6 : splL (calM prog nat 60) 96 6 w17S w17A w17H w17V w17R = true := by decide +kernel
theorem w17_7 : splL (calM prog nat 60) 96 7 w17S w17A w17H w17V w17R = true := by decide +kernel
theorem w17_8 : splL (calM prog nat 60) 96 8 w17S w17A w17H w17V w17R = true := by decide +kernel
theorem w17_k : okR w17V w17R = true := by decide +kernel
theorem w18_0 : splL (calM prog nat 60) 96 0 w18S w18A w18H w18V w18R = true := by decide +kernel
theorem w18_1 : splL (calM prog nat 60) 96 1 w18S w18A w18H w18V w18R = true := by decide +kernel
theorem w18_2 : splL (calM prog nat 60) 96 2 w18S w18A w18H w18V w18R = true := by decide +kernel
theorem w18_3 : splL (calM prog nat 60) 96 3 w18S w18A w18H w18V w18R = true := by decide +kernel
theorem w18_4 : splL (calM prog nat 60) 96 4 w18S w18A w18H w18V w18R = true := by decide +kernel
theorem w18_5 : splL (calM prog nat 60) 96 5 w18S w18A w18H w18V w18R = true := by decide +kernel
theorem w18_6 : splL (calM prog nat 60) 96 6 w18S w18A w18H w18V w18R = true := by decide +kernel
theorem w18_7 : splL (calM prog nat 60) 96 7 w18S w18A w18H w18V w18R = true := by decide +kernel
theorem w18_8 : splL (calM prog nat 60) 96 8 w18S w18A w18H w18V w18R = true := by decide +kernel
theorem w18_k : okR w18V w18R = true := by decide +kernel
theorem w15 : runB (calM prog (orC (memS w16S w16A w16H w16V w16R) (orC (memS w17S w17A w17H w17V w17R) (orC (memS w18S w18A w18H w18V w18R) (nat)))) 60 w15S w15A w15H) w15V w15R = true := by decide +kernel
theorem w20_0 : splL (calM prog nat 60) 64 0 w20S w20A w20H w20V w20R = true := by decide +kernel
theorem w20_1 : splL (calM prog nat 60) 64 1 w20S w20A w20H w20V w20R = true := by decide +kernel
theorem w20_2 : splL (calM prog nat 60) 64 2 w20S w20A w20H w20V w20R = true := by decide +kernel
theorem w20_3 : splL (calM prog nat 60) 64 3 w20S w20A w20H w20V w20R = true := by decide +kernel
theorem w20_4 : splL (calM prog nat 60) 64 4 w20S w20A w20H w20V w20R = true := by decide +kernel
theorem w20_5 : splL (calM prog nat 60) 64 5 w20S w20A w20H w20V w20R = true := by decide +kernel
theorem w20_6 : splL (calM prog nat 60) 64 6 w20S w20A w20H w20V w20R = true := by decide +kernel
theorem w20_7 : splL (calM prog nat 60) 64 7 w20S w20A w20H w20V w20R = true := by decide +kernel
theorem w20_8 : splL (calM prog nat 60) 64 8 w20S w20A w20H w20V w20R = true := by decide +kernel
theorem w20_9 : splL (calM prog nat 60) 64 9 w20S w20A w20H w20V w20R = true := by decide +kernel
theorem w20_10 : splL (calM prog nat 60) 64 10 w20S w20A w20H w20V w20R = true := by decide +kernel
theorem w20_11 : splL (calM prog nat 60) 64 11 w20S w20A w20H w20V w20R = true := by decide +kernel
theorem w20_12 : splL (calM prog nat 60) 64 12 w20S w20A w20H w20V w20R = true := by decide +kernel
theorem w20_13 : splL (calM prog nat 60) 64 13 w20S w20A w20H w20V w20R = true := by decide +kernel
theorem w20_14 : splL (calM prog nat 60) 64 14 w20S w20A w20H w20V w20R = true := by decide +kernel
theorem w20_15 : splL (calM prog nat 60) 64 15 w20S w20A w20H w20V w20R = true := by decide +kernel
end Go.E
