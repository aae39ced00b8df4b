/- A part of the proof of the claim that the last text of this folder states. -/
import Derived.Test.YtebgbhgehnpahaaGreatDoorB31
namespace Go.E
set_option linter.all false
set_option maxRecDepth 100000
noncomputable def ga18_0A : List V := [(.s (.p a45 0)),(.s (.i .i64 3)),(.s (.i .i64 3)),(.agg [(.i .u64 20),(.i .u64 32),(.i .u64 7),(.i .u64 0)]),(.s (.i .i64 1)),(.s z0)]
noncomputable def ga18_0H : Hp := hset fb3R [] a46 1 8
noncomputable def ga18_0V : V := (.s z0)
noncomputable def ga18_0R : Hp := hset ga18_0H [(a24,wB ga18_0H a24 [(1058,20),(1059,32),(1060,7),(1062,1),(1158,89130120),(1286,4298900816),(1360,234903556),(1362,4379116676)])] a46 1 8
noncomputable def ga18_0S : S := (.fn a21 [])
theorem ga18_0 : runB (calM prog (nat) 60 ga18_0S ga18_0A ga18_0H) ga18_0V ga18_0R = true := by decide +kernel
noncomputable def natB18_0 : Cal := orC (oraC (Pth.of 17) [.s (.i .i64 ((symN + 0 : Nat) : Int)), .s (.i .i64 (.ofNat 30))] (.s (.i .i64 (.ofNat 18)))) (orC (oraC (Pth.of 17) [.s (.i .i64 ((symN + 1 : Nat) : Int)), .s (.i .i64 (.ofNat 268435456))] (.s (.i .i64 (.ofNat 0)))) (orC (memS fa0S fa0A fa0H fa0V fa0R) (orC (memS fb3S fb3A fb3H fb3V fb3R) (orC (memS ga18_0S ga18_0A ga18_0H ga18_0V ga18_0R) (nat)))))
theorem bdg18_0 : valB (calM prog natB18_0 60 (.fn a6 []) (symA [.i64, .i64] 0) (heap0 tabL)) (.s (.b true)) = true := by decide +kernel
noncomputable def ga18_1A : List V := [(.s (.p a45 0)),(.s (.i .i64 3)),(.s (.i .i64 3)),(.agg [(.i .u64 20),(.i .u64 32),(.i .u64 7),(.i .u64 18907912675552290406400)]),(.s (.i .i64 1)),(.s z0)]
noncomputable def ga18_1H : Hp := hset fb3R [] a46 1 8
noncomputable def ga18_1V : V := (.s z0)
noncomputable def ga18_1R : Hp := hset ga18_1H [(a24,wB ga18_1H a24 [(1058,20),(1059,32),(1060,7),(1061,18907912675552290406400),(1062,1),(1158,89130120),(1286,4298900816),(1360,234903556),(1361,18907912675552290406400),(1362,4379116676)])] a46 1 8
noncomputable def ga18_1S : S := (.fn a21 [])
theorem ga18_1 : runB (calM prog (nat) 60 ga18_1S ga18_1A ga18_1H) ga18_1V ga18_1R = true := by decide +kernel
noncomputable def natB18_1 : Cal := orC (oraC (Pth.of 17) [.s (.i .i64 ((symN + 0 : Nat) : Int)), .s (.i .i64 (.ofNat 30))] (.s (.i .i64 (.ofNat 18)))) (orC (oraC (Pth.of 17) [.s (.i .i64 ((symN + 1 : Nat) : Int)), .s (.i .i64 (.ofNat 268435456))] (.s (.i .i64 (.ofNat 18907912675552290406400)))) (orC (memS fa0S fa0A fa0H fa0V fa0R) (orC (memS fb3S fb3A fb3H fb3V fb3R) (orC (memS ga18_1S ga18_1A ga18_1H ga18_1V ga18_1R) (nat)))))
theorem bdg18_1 : valB (calM prog natB18_1 60 (.fn a6 []) (symA [.i64, .i64] 0) (heap0 tabL)) (.s (.b true)) = true := by decide +kernel
noncomputable def ga19_0A : List V := [(.s (.p a45 0)),(.s (.i .i64 3)),(.s (.i .i64 3)),(.agg [(.i .u64 21),(.i .u64 32),(.i .u64 7),(.i .u64 0)]),(.s (.i .i64 1)),(.s z0)]
noncomputable def ga19_0H : Hp := hset fb3R [] a46 1 8
noncomputable def ga19_0V : V := (.s z0)
noncomputable def ga19_0R : Hp := hset ga19_0H [(a24,wB ga19_0H a24 [(1058,21),(1059,32),(1060,7),(1062,1),(1158,89392264),(1286,4298900820),(1364,234903556),(1366,4379116676)])] a46 1 8
noncomputable def ga19_0S : S := (.fn a21 [])
theorem ga19_0 : runB (calM prog (nat) 60 ga19_0S ga19_0A ga19_0H) ga19_0V ga19_0R = true := by decide +kernel
noncomputable def natB19_0 : Cal := orC (oraC (Pth.of 17) [.s (.i .i64 ((symN + 0 : Nat) : Int)), .s (.i .i64 (.ofNat 30))] (.s (.i .i64 (.ofNat 19)))) (orC (oraC (Pth.of 17) [.s (.i .i64 ((symN + 1 : Nat) : Int)), .s (.i .i64 (.ofNat 268435456))] (.s (.i .i64 (.ofNat 0)))) (orC (memS fa0S fa0A fa0H fa0V fa0R) (orC (memS fb3S fb3A fb3H fb3V fb3R) (orC (memS ga19_0S ga19_0A ga19_0H ga19_0V ga19_0R) (nat)))))
theorem bdg19_0 : valB (calM prog natB19_0 60 (.fn a6 []) (symA [.i64, .i64] 0) (heap0 tabL)) (.s (.b true)) = true := by decide +kernel
noncomputable def ga19_1A : List V := [(.s (.p a45 0)),(.s (.i .i64 3)),(.s (.i .i64 3)),(.agg [(.i .u64 21),(.i .u64 32),(.i .u64 7),(.i .u64 18907912675552290406400)]),(.s (.i .i64 1)),(.s z0)]
noncomputable def ga19_1H : Hp := hset fb3R [] a46 1 8
noncomputable def ga19_1V : V := (.s z0)
noncomputable def ga19_1R : Hp := hset ga19_1H [(a24,wB ga19_1H a24 [(1058,21),(1059,32),(1060,7),(1061,18907912675552290406400),(1062,1),(1158,89392264),(1286,4298900820),(1364,234903556),(1365,18907912675552290406400),(1366,4379116676)])] a46 1 8
noncomputable def ga19_1S : S := (.fn a21 [])
theorem ga19_1 : runB (calM prog (nat) 60 ga19_1S ga19_1A ga19_1H) ga19_1V ga19_1R = true := by decide +kernel
noncomputable def natB19_1 : Cal := orC (oraC (Pth.of 17) [.s (.i .i64 ((symN + 0 : Nat) : Int)), .s (.i .i64 (.ofNat 30))] (.s (.i .i64 (.ofNat 19)))) (orC (oraC (Pth.of 17) [.s (.i .i64 ((symN + 1 : Nat) : Int)), .s (.i .i64 (.ofNat 268435456))] (.s (.i .i64 (.ofNat 18907912675552290406400)))) (orC (memS fa0S fa0A fa0H fa0V fa0R) (orC (memS fb3S fb3A fb3H fb3V fb3R) (orC (memS ga19_1S ga19_1A ga19_1H ga19_1V ga19_1R) (nat)))))
theorem bdg19_1 : valB (calM prog natB19_1 60 (.fn a6 []) (symA [.i64, .i64] 0) (heap0 tabL)) (.s (.b true)) = true := by decide +kernel
end Go.E
