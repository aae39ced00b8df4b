/- A part of the proof of the claim that the last text of this folder states. -/
import Derived.Test.YtebgbhgehnpahaaGreatDoorP23
namespace Go.E
set_option linter.all false
set_option maxRecDepth 100000
theorem w38_27 : splL (calM prog nat 60) 64 27 w38S w38A w38H w38V w38R = true := by decide +kernel
theorem w38_28 : splL (calM prog nat 60) 64 28 w38S w38A w38H w38V w38R = true := by decide +kernel
theorem w38_29 : splL (calM prog nat 60) 64 29 w38S w38A w38H w38V w38R = true := by decide +kernel
theorem w38_k : okR w38V w38R = true := by decide +kernel
theorem w37 : runB (calM prog (orC (memS w38S w38A w38H w38V w38R) (nat)) 60 w37S w37A w37H) w37V w37R = true := by decide +kernel
theorem w40_0 : splL (calM prog nat 60) 64 0 w40S w40A w40H w40V w40R = true := by decide +kernel
theorem w40_1 : splL (calM prog nat 60) 64 1 w40S w40A w40H w40V w40R = true := by decide +kernel
theorem w40_2 : splL (calM prog nat 60) 64 2 w40S w40A w40H w40V w40R = true := by decide +kernel
theorem w40_3 : splL (calM prog nat 60) 64 3 w40S w40A w40H w40V w40R = true := by decide +kernel
theorem w40_4 : splL (calM prog nat 60) 64 4 w40S w40A w40H w40V w40R = true := by decide +kernel
theorem w40_5 : splL (calM prog nat 60) 64 5 w40S w40A w40H w40V w40R = true := by decide +kernel
theorem w40_6 : splL (calM prog nat 60) 64 6 w40S w40A w40H w40V w40R = true := by decide +kernel
theorem w40_7 : splL (calM prog nat 60) 64 7 w40S w40A w40H w40V w40R = true := by decide +kernel
theorem w40_8 : splL (calM prog nat 60) 64 8 w40S w40A w40H w40V w40R = true := by decide +kernel
theorem w40_9 : splL (calM prog nat 60) 64 9 w40S w40A w40H w40V w40R = true := by decide +kernel
theorem w40_10 : splL (calM prog nat 60) 64 10 w40S w40A w40H w40V w40R = true := by decide +kernel
theorem w40_11 : splL (calM prog nat 60) 64 11 w40S w40A w40H w40V w40R = true := by decide +kernel
theorem w40_12 : splL (calM prog nat 60) 64 12 w40S w40A w40H w40V w40R = true := by decide +kernel
theorem w40_13 : splL (calM prog nat 60) 64 13 w40S w40A w40H w40V w40R = true := by decide +kernel
theorem w40_14 : splL (calM prog nat 60) 64 14 w40S w40A w40H w40V w40R = true := by decide +kernel
theorem w40_15 : splL (calM prog nat 60) 64 15 w40S w40A w40H w40V w40R = true := by decide +kernel
theorem w40_16 : splL (calM prog nat 60) 64 16 w40S w40A w40H w40V w40R = true := by decide +kernel
theorem w40_17 : splL (calM prog nat 60) 64 17 w40S w40A w40H w40V w40R = true := by decide +kernel
theorem w40_18 : splL (calM prog nat 60) 64 18 w40S w40A w40H w40V w40R = true := by decide +kernel
theorem w40_19 : splL (calM prog nat 60) 64 19 w40S w40A w40H w40V w40R = true := by decide +kernel
theorem w40_20 : splL (calM prog nat 60) 64 20 w40S w40A w40H w40V w40R = true := by decide +kernel
theorem w40_21 : splL (calM prog nat 60) 64 21 w40S w40A w40H w40V w40R = true := by decide +kernel
theorem w40_22 : splL (calM prog nat 60) 64 22 w40S w40A w40H w40V w40R = true := by decide +kernel
theorem w40_23 : splL (calM prog nat 60) 64 23 w40S w40A w40H w40V w40R = true := by decide +kernel
theorem w40_24 : splL (calM prog nat 60) 64 24 w40S w40A w40H w40V w40R = true := by decide +kernel
theorem w40_25 : splL (calM prog nat 60) 64 25 w40S w40A w40H w40V w40R = true := by decide +kernel
theorem w40_26 : splL (calM prog nat 60) 64 26 w40S w40A w40H w40V w40R = true := by decide +kernel
theorem w40_27 : splL (calM prog nat 60) 64 27 w40S w40A w40H w40V w40R = true := by decide +kernel
theorem w40_28 : splL (calM prog nat 60) 64 28 w40S w40A w40H w40V w40R = true := by decide +kernel
theorem w40_29 : splL (calM prog nat 60) 64 29 w40S w40A w40H w40V w40R = true := by decide +kernel
theorem w40_k : okR w40V w40R = true := by decide +kernel
theorem w39 : runB (calM prog (orC (memS w40S w40A w40H w40V w40R) (nat)) 60 w39S w39A w39H) w39V w39R = true := by decide +kernel
theorem w42_0 : splL (calM prog nat 60) 64 0 w42S w42A w42H w42V w42R = true := by decide +kernel
theorem w42_1 : splL (calM prog nat 60) 64 1 w42S w42A w42H w42V w42R = true := by decide +kernel
theorem w42_2 : splL (calM prog nat 60) 64 2 w42S w42A w42H w42V w42R = true := by decide +kernel
theorem w42_3 : splL (calM prog nat 60) 64 3 w42S w42A w42H w42V w42R = true := by decide +kernel
theorem w42_4 : splL (calM prog nat 60) 64 4 w42S w42A w42H w42V w42R = true := by decide +kernel
theorem w42_5 : splL (calM prog nat 60) 64 5 w42S w42A w42H w42V w42R = true := by decide +kernel
theorem w42_6 : splL (calM prog nat 60) 64 6 w42S w42A w42H w42V w42R = true := by decide +kernel
theorem w42_7 : splL (calM prog nat 60) 64 7 w42S w42A w42H w42V w42R = true := by decide +kernel
theorem w42_8 : splL (calM prog nat 60) 64 8 w42S w42A w42H w42V w42R = true := by decide +kernel
theorem w42_9 : splL (calM prog nat 60) 64 9 w42S w42A w42H w42V w42R = true := by decide +kernel
theorem w42_10 : splL (calM prog nat 60) 64 10 w42S w42A w42H w42V w42R = true := by decide +kernel
theorem w42_11 : splL (calM prog nat 60) 64 11 w42S w42A w42H w42V w42R = true := by decide +kernel
theorem w42_12 : splL (calM prog nat 60) 64 12 w42S w42A w42H w42V w42R = true := by decide +kernel
theorem w42_13 : splL (calM prog nat 60) 64 13 w42S w42A w42H w42V w42R = true := by decide +kernel
theorem w42_14 : splL (calM prog nat 60) 64 14 w42S w42A w42H w42V w42R = true := by decide +kernel
theorem w42_15 : splL (calM prog nat 60) 64 15 w42S w42A w42H w42V w42R = true := by decide +kernel
theorem w42_16 : splL (calM prog nat 60) 64 16 w42S w42A w42H w42V w42R = true := by decide +kernel
theorem w42_17 : splL (calM prog nat 60) 64 17 w42S w42A w42H w42V w42R = true := by decide +kernel
theorem w42_18 : splL (calM prog nat 60) 64 18 w42S w42A w42H w42V w42R = true := by decide +kernel
theorem w42_19 : splL (calM prog nat 60) 64 19 w42S w42A w42H w42V w42R = true := by decide +kernel
theorem w42_20 : splL (calM prog nat 60) 64 20 w42S w42A w42H w42V w42R = true := by decide +kernel
theorem w42_21 : splL (calM prog nat 60) 64 21 w42S w42A w42H w42V w42R = true := by decide +kernel
theorem w42_22 : splL (calM prog nat 60) 64 22 w42S w42A w42H w42V w42R = true := by decide +kernel
theorem w42_23 : splL (calM prog nat 60) 64 23 w42S w42A w42H w42V w42R = true := by decide +kernel
theorem w42_24 : splL (calM prog nat 60) 64 24 w42S w42A w42H w42V w42R = true := by decide +kernel
theorem w42_25 : splL (calM prog nat 60) 64 25 w42S w42A w42H w42V w42R = true := by decide +kernel
theorem w42_26 : splL (calM prog nat 60) 64 26 w42S w42A w42H w42V w42R = true := by decide +kernel
theorem w42_27 : splL (calM prog nat 60) 64 27 w42S w42A w42H w42V w42R = true := by decide +kernel
theorem w42_28 : splL (calM prog nat 60) 64 28 w42S w42A w42H w42V w42R = true := by decide +kernel
theorem w42_29 : splL (calM prog nat 60) 64 29 w42S w42A w42H w42V w42R = true := by decide +kernel
theorem w42_k : okR w42V w42R = true := by decide +kernel
set_option maxRecDepth 100000
theorem w41 : runB (calM prog (orC (memS w42S w42A w42H w42V w42R) (nat)) 60 w41S w41A w41H) w41V w41R = true := by decide +kernel
theorem w44_0 : splL (calM prog nat 60) 64 0 w44S w44A w44H w44V w44R = true := by decide +kernel
theorem w44_1 : splL (calM prog nat 60) 64 1 w44S w44A w44H w44V w44R = true := by decide +kernel
theorem w44_2 : splL (calM prog nat 60) 64 2 w44S w44A w44H w44V w44R = true := by decide +kernel
theorem w44_3 : splL (calM prog nat 60) 64 3 w44S w44A w44H w44V w44R = true := by decide +kernel
theorem w44_4 : splL (calM prog nat 60) 64 4 w44S w44A w44H w44V w44R = true := by decide +kernel
theorem w44_5 : splL (calM prog nat 60) 64 5 w44S w44A w44H w44V w44R = true := by decide +kernel
theorem w44_6 : splL (calM prog nat 60) 64 6 w44S w44A w44H w44V w44R = true := by decide +kernel
theorem w44_7 : splL (calM prog nat 60) 64 7 w44S w44A w44H w44V w44R = true := by decide +kernel
theorem w44_8 : splL (calM prog nat 60) 64 8 w44S w44A w44H w44V w44R = true := by decide +kernel
theorem w44_9 : splL (calM prog nat 60) 64 9 w44S w44A w44H w44V w44R = true := by decide +kernel
theorem w44_10 : splL (calM prog nat 60) 64 10 w44S w44A w44H w44V w44R = true := by decide +kernel
theorem w44_11 : splL (calM prog nat 60) 64 11 w44S w44A w44H w44V w44R = true := by decide +kernel
theorem w44_12 : splL (calM prog nat 60) 64 12 w44S w44A w44H w44V w44R = true := by decide +kernel
theorem w44_13 : splL (calM prog nat 60) 64 13 w44S w44A w44H w44V w44R = true := by decide +kernel
theorem w44_14 : splL (calM prog nat 60) 64 14 w44S w44A w44H w44V w44R = true := by decide +kernel
theorem w44_15 : splL (calM prog nat 60) 64 15 w44S w44A w44H w44V w44R = true := by decide +kernel
theorem w44_16 : splL (calM prog nat 60) 64 16 w44S w44A w44H w44V w44R = true := by decide +kernel
theorem w44_17 : splL (calM prog nat 60) 64 17 w44S w44A w44H w44V w44R = true := by decide +kernel
theorem w44_18 : splL (calM prog nat 60) 64 18 w44S w44A w44H w44V w44R = true := by decide +kernel
theorem w44_19 : splL (calM prog nat 60) 64 19 w44S w44A w44H w44V w44R = true := by decide +kernel
end Go.E
