/- A part of the proof of the claim that the last text of this folder states. -/
import Derived.Test.YtebgbhgehnpahaaGreatDoorP23
namespace Go.E
set_option linter.all false
set_option maxRecDepth 100000
theorem w2_27 : splL (calM prog nat 60) 64 27 w2S w2A w2H w2V w2R = true := by decide +kernel
theorem w2_28 : splL (calM prog nat 60) 64 28 w2S w2A w2H w2V w2R = true := by decide +kernel
theorem w2_29 : splL (calM prog nat 60) 64 29 w2S w2A w2H w2V w2R = true := by decide +kernel
theorem w2_k : okR w2V w2R = true := by decide +kernel
theorem w1 : runB (calM prog (orC (memS w2S w2A w2H w2V w2R) (nat)) 60 w1S w1A w1H) w1V w1R = true := by decide +kernel
theorem w3 : runB (calM prog (nat) 60 w3S w3A w3H) w3V w3R = true := by decide +kernel
theorem w5_0 : splL (calM prog nat 60) 64 0 w5S w5A w5H w5V w5R = true := by decide +kernel
theorem w5_1 : splL (calM prog nat 60) 64 1 w5S w5A w5H w5V w5R = true := by decide +kernel
theorem w5_2 : splL (calM prog nat 60) 64 2 w5S w5A w5H w5V w5R = true := by decide +kernel
theorem w5_3 : splL (calM prog nat 60) 64 3 w5S w5A w5H w5V w5R = true := by decide +kernel
theorem w5_4 : splL (calM prog nat 60) 64 4 w5S w5A w5H w5V w5R = true := by decide +kernel
theorem w5_5 : splL (calM prog nat 60) 64 5 w5S w5A w5H w5V w5R = true := by decide +kernel
theorem w5_6 : splL (calM prog nat 60) 64 6 w5S w5A w5H w5V w5R = true := by decide +kernel
theorem w5_7 : splL (calM prog nat 60) 64 7 w5S w5A w5H w5V w5R = true := by decide +kernel
theorem w5_8 : splL (calM prog nat 60) 64 8 w5S w5A w5H w5V w5R = true := by decide +kernel
theorem w5_9 : splL (calM prog nat 60) 64 9 w5S w5A w5H w5V w5R = true := by decide +kernel
theorem w5_10 : splL (calM prog nat 60) 64 10 w5S w5A w5H w5V w5R = true := by decide +kernel
theorem w5_11 : splL (calM prog nat 60) 64 11 w5S w5A w5H w5V w5R = true := by decide +kernel
theorem w5_12 : splL (calM prog nat 60) 64 12 w5S w5A w5H w5V w5R = true := by decide +kernel
theorem w5_13 : splL (calM prog nat 60) 64 13 w5S w5A w5H w5V w5R = true := by decide +kernel
theorem w5_14 : splL (calM prog nat 60) 64 14 w5S w5A w5H w5V w5R = true := by decide +kernel
theorem w5_15 : splL (calM prog nat 60) 64 15 w5S w5A w5H w5V w5R = true := by decide +kernel
theorem w5_16 : splL (calM prog nat 60) 64 16 w5S w5A w5H w5V w5R = true := by decide +kernel
theorem w5_17 : splL (calM prog nat 60) 64 17 w5S w5A w5H w5V w5R = true := by decide +kernel
theorem w5_18 : splL (calM prog nat 60) 64 18 w5S w5A w5H w5V w5R = true := by decide +kernel
theorem w5_19 : splL (calM prog nat 60) 64 19 w5S w5A w5H w5V w5R = true := by decide +kernel
theorem w5_20 : splL (calM prog nat 60) 64 20 w5S w5A w5H w5V w5R = true := by decide +kernel
theorem w5_21 : splL (calM prog nat 60) 64 21 w5S w5A w5H w5V w5R = true := by decide +kernel
theorem w5_22 : splL (calM prog nat 60) 64 22 w5S w5A w5H w5V w5R = true := by decide +kernel
theorem w5_23 : splL (calM prog nat 60) 64 23 w5S w5A w5H w5V w5R = true := by decide +kernel
theorem w5_24 : splL (calM prog nat 60) 64 24 w5S w5A w5H w5V w5R = true := by decide +kernel
theorem w5_25 : splL (calM prog nat 60) 64 25 w5S w5A w5H w5V w5R = true := by decide +kernel
theorem w5_26 : splL (calM prog nat 60) 64 26 w5S w5A w5H w5V w5R = true := by decide +kernel
theorem w5_27 : splL (calM prog nat 60) 64 27 w5S w5A w5H w5V w5R = true := by decide +kernel
theorem w5_28 : splL (calM prog nat 60) 64 28 w5S w5A w5H w5V w5R = true := by decide +kernel
theorem w5_29 : splL (calM prog nat 60) 64 29 w5S w5A w5H w5V w5R = true := by decide +kernel
theorem w5_k : okR w5V w5R = true := by decide +kernel
theorem w6_0 : splL (calM prog nat 60) 80 0 w6S w6A w6H w6V w6R = true := by decide +kernel
theorem w6_1 : splL (calM prog nat 60) 80 1 w6S w6A w6H w6V w6R = true := by decide +kernel
theorem w6_2 : splL (calM prog nat 60) 80 2 w6S w6A w6H w6V w6R = true := by decide +kernel
theorem w6_3 : splL (calM prog nat 60) 80 3 w6S w6A w6H w6V w6R = true := by decide +kernel
theorem w6_4 : splL (calM prog nat 60) 80 4 w6S w6A w6H w6V w6R = true := by decide +kernel
theorem w6_5 : splL (calM prog nat 60) 80 5 w6S w6A w6H w6V w6R = true := by decide +kernel
theorem w6_6 : splL (calM prog nat 60) 80 6 w6S w6A w6H w6V w6R = true := by decide +kernel
theorem w6_7 : splL (calM prog nat 60) 80 7 w6S w6A w6H w6V w6R = true := by decide +kernel
theorem w6_8 : splL (calM prog nat 60) 80 8 w6S w6A w6H w6V w6R = true := by decide +kernel
theorem w6_9 : splL (calM prog nat 60) 80 9 w6S w6A w6H w6V w6R = true := by decide +kernel
theorem w6_10 : splL (calM prog nat 60) 80 10 w6S w6A w6H w6V w6R = true := by decide +kernel
theorem w6_11 : splL (calM prog nat 60) 80 11 w6S w6A w6H w6V w6R = true := by decide +kernel
theorem w6_12 : splL (calM prog nat 60) 80 12 w6S w6A w6H w6V w6R = true := by decide +kernel
theorem w6_13 : splL (calM prog nat 60) 80 13 w6S w6A w6H w6V w6R = true := by decide +kernel
theorem w6_14 : splL (calM prog nat 60) 80 14 w6S w6A w6H w6V w6R = true := by decide +kernel
theorem w6_15 : splL (calM prog nat 60) 80 15 w6S w6A w6H w6V w6R = true := by decide +kernel
theorem w6_k : okR w6V w6R = true := by decide +kernel
theorem w4 : runB (calM prog (orC (memS w5S w5A w5H w5V w5R) (orC (memS w6S w6A w6H w6V w6R) (nat))) 60 w4S w4A w4H) w4V w4R = true := by decide +kernel
theorem w8_0 : splL (calM prog nat 60) 64 0 w8S w8A w8H w8V w8R = true := by decide +kernel
theorem w8_1 : splL (calM prog nat 60) 64 1 w8S w8A w8H w8V w8R = true := by decide +kernel
theorem w8_2 : splL (calM prog nat 60) 64 2 w8S w8A w8H w8V w8R = true := by decide +kernel
theorem w8_3 : splL (calM prog nat 60) 64 3 w8S w8A w8H w8V w8R = true := by decide +kernel
theorem w8_4 : splL (calM prog nat 60) 64 4 w8S w8A w8H w8V w8R = true := by decide +kernel
theorem w8_5 : splL (calM prog nat 60) 64 5 w8S w8A w8H w8V w8R = true := by decide +kernel
end Go.E
