/- A part of the proof of the claim that the last text of this folder states. -/
import Derived.Test.YtebgbhgehnpahaaGreatDoorE27
import Derived.Test.YtebgbhgehnpahaaGreatDoorE28
import Derived.Test.YtebgbhgehnpahaaGreatDoorE31
namespace Go.E
set_option linter.all false
set_option maxRecDepth 100000
noncomputable def natF1 : Cal := orC (oraC (Pth.of 17) [.s (.i .i64 ((symN + 1 : Nat) : Int)), .s (.i .i64 (.ofNat 3))] (.s (.i .i64 (.ofNat 1)))) (orC (memS fa0S fa0A fa0H fa0V fa0R) (orC (memS fb5S fb5A fb5H fb5V fb5R) (orC (memS fb7S fb7A fb7H fb7V fb7R) (orC (memS gd1S gd1A gd1H gd1V gd1R) (nat)))))
theorem forgets1 : valB (calM prog natF1 60 (.fn a10 []) (symA [.u64, .i64] 0) (heap0 tabL)) (.s (.b true)) = true := by decide +kernel
end Go.E
