/- A part of the proof of the claim that the last text of this folder states. -/
import Derived.Test.YtebgbhgehnpahaaGreatDoorS35
namespace Go.E
set_option linter.all false
set_option maxRecDepth 100000
theorem sg1 : (runS 4294967297 1 1 && (verS 4294967297 1 1 && posS 4294967297 1 1)) = true := by decide +kernel
theorem sg5 : (runS 4294967301 5 5 && (verS 4294967301 5 5 && posS 4294967301 5 5)) = true := by decide +kernel
theorem sg9 : (runS 4294967305 9 9 && (verS 4294967305 9 9 && posS 4294967305 9 9)) = true := by decide +kernel
theorem sg13 : (runS 4294967309 13 13 && (verS 4294967309 13 13 && posS 4294967309 13 13)) = true := by decide +kernel
theorem sg17 : (runS 4294967313 17 17 && (verS 4294967313 17 17 && posS 4294967313 17 17)) = true := by decide +kernel
theorem sg21 : (runS 4294967317 21 21 && (verS 4294967317 21 21 && posS 4294967317 21 21)) = true := by decide +kernel
theorem sg25 : (runS 4294967321 25 25 && (verS 4294967321 25 25 && posS 4294967321 25 25)) = true := by decide +kernel
theorem sg29 : (runS 4294967325 29 29 && (verS 4294967325 29 29 && posS 4294967325 29 29)) = true := by decide +kernel
end Go.E
