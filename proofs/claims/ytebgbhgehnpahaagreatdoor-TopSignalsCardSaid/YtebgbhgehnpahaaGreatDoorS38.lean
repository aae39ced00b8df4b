/- A part of the proof of the claim that the last text of this folder states. -/
import Derived.Test.YtebgbhgehnpahaaGreatDoorS35
namespace Go.E
set_option linter.all false
set_option maxRecDepth 100000
theorem sg2 : (runS 4294967298 2 2 && (verS 4294967298 2 2 && posS 4294967298 2 2)) = true := by decide +kernel
theorem sg6 : (runS 4294967302 6 6 && (verS 4294967302 6 6 && posS 4294967302 6 6)) = true := by decide +kernel
theorem sg10 : (runS 4294967306 10 10 && (verS 4294967306 10 10 && posS 4294967306 10 10)) = true := by decide +kernel
theorem sg14 : (runS 4294967310 14 14 && (verS 4294967310 14 14 && posS 4294967310 14 14)) = true := by decide +kernel
theorem sg18 : (runS 4294967314 18 18 && (verS 4294967314 18 18 && posS 4294967314 18 18)) = true := by decide +kernel
theorem sg22 : (runS 4294967318 22 22 && (verS 4294967318 22 22 && posS 4294967318 22 22)) = true := by decide +kernel
theorem sg26 : (runS 4294967322 26 26 && (verS 4294967322 26 26 && posS 4294967322 26 26)) = true := by decide +kernel
theorem sg30 : (runS 4294967326 30 30 && (verS 4294967326 30 30 && posS 4294967326 30 30)) = true := by decide +kernel
end Go.E
