/- A part of the proof of the claim that the last text of this folder states. -/
import Derived.Test.YtebgbhgehnpahaaGreatDoorP21
namespace Go.E
set_option linter.all false
set_option maxRecDepth 100000
noncomputable def fa0A : List V := []
noncomputable def fa0H : Hp := hmk [(a0,(.ro [(.i .u8 0),(.i .u8 1),(.i .u8 28),(.i .u8 2),(.i .u8 29),(.i .u8 14),(.i .u8 24),(.i .u8 3),(.i .u8 30),(.i .u8 22),(.i .u8 20),(.i .u8 15),(.i .u8 25),(.i .u8 17),(.i .u8 4),(.i .u8 8),(.i .u8 31),(.i .u8 27),(.i .u8 13),(.i .u8 23),(.i .u8 21),(.i .u8 19),(.i .u8 16),(.i .u8 7),(.i .u8 26),(.i .u8 12),(.i .u8 18),(.i .u8 6),(.i .u8 11),(.i .u8 5),(.i .u8 10),(.i .u8 9)]))] a1 1000000000 0
noncomputable def fa0V : V := (.s (.b true))
noncomputable def fa0R : Hp := hset fa0H [] a1 1000000000 0
noncomputable def fa0S : S := (.fn a11 [])
theorem fa0 : runB (trimC (calM prog (orC (memS fa4S fa4A fa4H fa4V fa4R) (nat)) 60) fa0S fa0A fa0H) fa0V fa0R = true := by decide +kernel
end Go.E
