/- A part of the proof of the claim that the last text of this folder states. -/
import Derived.Test.YtebgbhgehnpahaaGreatDoorB31
namespace Go.E
set_option linter.all false
set_option maxRecDepth 100000
noncomputable def ga16_0A : List V := [(.s (.p a45 0)),(.s (.i .i64 3)),(.s (.i .i64 3)),(.agg [(.i .u64 18),(.i .u64 32),(.i .u64 7),(.i .u64 0)]),(.s (.i .i64 1)),(.s z0)]
noncomputable def ga16_0H : Hp := hset fb3R [] a46 1 8
noncomputable def ga16_0V : V := (.s z0)
noncomputable def ga16_0R : Hp := hset ga16_0H [(a24,wB ga16_0H a24 [(1058,18),(1059,32),(1060,7),(1062,1),(1158,88605832),(1286,4298900808),(1352,234903556),(1354,4379116676)])] a46 1 8
noncomputable def ga16_0S : S := (.fn a21 [])
theorem ga16_0 : runB (calM prog (nat) 60 ga16_0S ga16_0A ga16_0H) ga16_0V ga16_0R = true := by decide +kernel
noncomputable def natB16_0 : Cal := orC (oraC (Pth.of 17) [.s (.i .i64 ((symN + 0 : Nat) : Int)), .s (.i .i64 (.ofNat 30))] (.s (.i .i64 (.ofNat 16)))) (orC (oraC (Pth.of 17) [.s (.i .i64 ((symN + 1 : Nat) : Int)), .s (.i .i64 (.ofNat 268435456))] (.s (.i .i64 (.ofNat 0)))) (orC (memS fa0S fa0A fa0H fa0V fa0R) (orC (memS fb3S fb3A fb3H fb3V fb3R) (orC (memS ga16_0S ga16_0A ga16_0H ga16_0V ga16_0R) (nat)))))
theorem bdg16_0 : valB (calM prog natB16_0 60 (.fn a6 []) (symA [.i64, .i64] 0) (heap0 tabL)) (.s (.b true)) = true := by decide +kernel
noncomputable def ga16_1A : List V := [(.s (.p a45 0)),(.s (.i .i64 3)),(.s (.i .i64 3)),(.agg [(.i .u64 18),(.i .u64 32),(.i .u64 7),(.i .u64 18907912675552290406400)]),(.s (.i .i64 1)),(.s z0)]
noncomputable def ga16_1H : Hp := hset fb3R [] a46 1 8
noncomputable def ga16_1V : V := (.s z0)
noncomputable def ga16_1R : Hp := hset ga16_1H [(a24,wB ga16_1H a24 [(1058,18),(1059,32),(1060,7),(1061,18907912675552290406400),(1062,1),(1158,88605832),(1286,4298900808),(1352,234903556),(1353,18907912675552290406400),(1354,4379116676)])] a46 1 8
noncomputable def ga16_1S : S := (.fn a21 [])
theorem ga16_1 : runB (calM prog (nat) 60 ga16_1S ga16_1A ga16_1H) ga16_1V ga16_1R = true := by decide +kernel
noncomputable def natB16_1 : Cal := orC (oraC (Pth.of 17) [.s (.i .i64 ((symN + 0 : Nat) : Int)), .s (.i .i64 (.ofNat 30))] (.s (.i .i64 (.ofNat 16)))) (orC (oraC (Pth.of 17) [.s (.i .i64 ((symN + 1 : Nat) : Int)), .s (.i .i64 (.ofNat 268435456))] (.s (.i .i64 (.ofNat 18907912675552290406400)))) (orC (memS fa0S fa0A fa0H fa0V fa0R) (orC (memS fb3S fb3A fb3H fb3V fb3R) (orC (memS ga16_1S ga16_1A ga16_1H ga16_1V ga16_1R) (nat)))))
theorem bdg16_1 : valB (calM prog natB16_1 60 (.fn a6 []) (symA [.i64, .i64] 0) (heap0 tabL)) (.s (.b true)) = true := by decide +kernel
noncomputable def ga17_0A : List V := [(.s (.p a45 0)),(.s (.i .i64 3)),(.s (.i .i64 3)),(.agg [(.i .u64 19),(.i .u64 32),(.i .u64 7),(.i .u64 0)]),(.s (.i .i64 1)),(.s z0)]
noncomputable def ga17_0H : Hp := hset fb3R [] a46 1 8
noncomputable def ga17_0V : V := (.s z0)
noncomputable def ga17_0R : Hp := hset ga17_0H [(a24,wB ga17_0H a24 [(1058,19),(1059,32),(1060,7),(1062,1),(1158,88867976),(1286,4298900812),(1356,234903556),(1358,4379116676)])] a46 1 8
noncomputable def ga17_0S : S := (.fn a21 [])
theorem ga17_0 : runB (calM prog (nat) 60 ga17_0S ga17_0A ga17_0H) ga17_0V ga17_0R = true := by decide +kernel
noncomputable def natB17_0 : Cal := orC (oraC (Pth.of 17) [.s (.i .i64 ((symN + 0 : Nat) : Int)), .s (.i .i64 (.ofNat 30))] (.s (.i .i64 (.ofNat 17)))) (orC (oraC (Pth.of 17) [.s (.i .i64 ((symN + 1 : Nat) : Int)), .s (.i .i64 (.ofNat 268435456))] (.s (.i .i64 (.ofNat 0)))) (orC (memS fa0S fa0A fa0H fa0V fa0R) (orC (memS fb3S fb3A fb3H fb3V fb3R) (orC (memS ga17_0S ga17_0A ga17_0H ga17_0V ga17_0R) (nat)))))
theorem bdg17_0 : valB (calM prog natB17_0 60 (.fn a6 []) (symA [.i64, .i64] 0) (heap0 tabL)) (.s (.b true)) = true := by decide +kernel
noncomputable def ga17_1A : List V := [(.s (.p a45 0)),(.s (.i .i64 3)),(.s (.i .i64 3)),(.agg [(.i .u64 19),(.i .u64 32),(.i .u64 7),(.i .u64 18907912675552290406400)]),(.s (.i .i64 1)),(.s z0)]
noncomputable def ga17_1H : Hp := hset fb3R [] a46 1 8
noncomputable def ga17_1V : V := (.s z0)
noncomputable def ga17_1R : Hp := hset ga17_1H [(a24,wB ga17_1H a24 [(1058,19),(1059,32),(1060,7),(1061,18907912675552290406400),(1062,1),(1158,88867976),(1286,4298900812),(1356,234903556),(1357,18907912675552290406400),(1358,4379116676)])] a46 1 8
noncomputable def ga17_1S : S := (.fn a21 [])
theorem ga17_1 : runB (calM prog (nat) 60 ga17_1S ga17_1A ga17_1H) ga17_1V ga17_1R = true := by decide +kernel
noncomputable def natB17_1 : Cal := orC (oraC (Pth.of 17) [.s (.i .i64 ((symN + 0 : Nat) : Int)), .s (.i .i64 (.ofNat 30))] (.s (.i .i64 (.ofNat 17)))) (orC (oraC (Pth.of 17) [.s (.i .i64 ((symN + 1 : Nat) : Int)), .s (.i .i64 (.ofNat 268435456))] (.s (.i .i64 (.ofNat 18907912675552290406400)))) (orC (memS fa0S fa0A fa0H fa0V fa0R) (orC (memS fb3S fb3A fb3H fb3V fb3R) (orC (memS ga17_1S ga17_1A ga17_1H ga17_1V ga17_1R) (nat)))))
theorem bdg17_1 : valB (calM prog natB17_1 60 (.fn a6 []) (symA [.i64, .i64] 0) (heap0 tabL)) (.s (.b true)) = true := by decide +kernel
end Go.E
