/- A part of the proof of the claim that the last text of this folder states. -/
import Derived.Test.YtebgbhgehnpahaaGreatDoorB31
namespace Go.E
set_option linter.all false
set_option maxRecDepth 100000
noncomputable def ga14_0A : List V := [(.s (.p a45 0)),(.s (.i .i64 3)),(.s (.i .i64 3)),(.agg [(.i .u64 16),(.i .u64 32),(.i .u64 7),(.i .u64 0)]),(.s (.i .i64 1)),(.s z0)]
noncomputable def ga14_0H : Hp := hset fb3R [] a46 1 8
noncomputable def ga14_0V : V := (.s z0)
noncomputable def ga14_0R : Hp := hset ga14_0H [(a24,wB ga14_0H a24 [(1058,16),(1059,32),(1060,7),(1062,1),(1158,88081544),(1286,4298900800),(1344,234903556),(1346,4379116676)])] a46 1 8
noncomputable def ga14_0S : S := (.fn a21 [])
theorem ga14_0 : runB (calM prog (nat) 60 ga14_0S ga14_0A ga14_0H) ga14_0V ga14_0R = true := by decide +kernel
noncomputable def natB14_0 : Cal := orC (oraC (Pth.of 17) [.s (.i .i64 ((symN + 0 : Nat) : Int)), .s (.i .i64 (.ofNat 30))] (.s (.i .i64 (.ofNat 14)))) (orC (oraC (Pth.of 17) [.s (.i .i64 ((symN + 1 : Nat) : Int)), .s (.i .i64 (.ofNat 268435456))] (.s (.i .i64 (.ofNat 0)))) (orC (memS fa0S fa0A fa0H fa0V fa0R) (orC (memS fb3S fb3A fb3H fb3V fb3R) (orC (memS ga14_0S ga14_0A ga14_0H ga14_0V ga14_0R) (nat)))))
theorem bdg14_0 : valB (calM prog natB14_0 60 (.fn a6 []) (symA [.i64, .i64] 0) (heap0 tabL)) (.s (.b true)) = true := by decide +kernel
noncomputable def ga14_1A : List V := [(.s (.p a45 0)),(.s (.i .i64 3)),(.s (.i .i64 3)),(.agg [(.i .u64 16),(.i .u64 32),(.i .u64 7),(.i .u64 18907912675552290406400)]),(.s (.i .i64 1)),(.s z0)]
noncomputable def ga14_1H : Hp := hset fb3R [] a46 1 8
noncomputable def ga14_1V : V := (.s z0)
noncomputable def ga14_1R : Hp := hset ga14_1H [(a24,wB ga14_1H a24 [(1058,16),(1059,32),(1060,7),(1061,18907912675552290406400),(1062,1),(1158,88081544),(1286,4298900800),(1344,234903556),(1345,18907912675552290406400),(1346,4379116676)])] a46 1 8
noncomputable def ga14_1S : S := (.fn a21 [])
theorem ga14_1 : runB (calM prog (nat) 60 ga14_1S ga14_1A ga14_1H) ga14_1V ga14_1R = true := by decide +kernel
noncomputable def natB14_1 : Cal := orC (oraC (Pth.of 17) [.s (.i .i64 ((symN + 0 : Nat) : Int)), .s (.i .i64 (.ofNat 30))] (.s (.i .i64 (.ofNat 14)))) (orC (oraC (Pth.of 17) [.s (.i .i64 ((symN + 1 : Nat) : Int)), .s (.i .i64 (.ofNat 268435456))] (.s (.i .i64 (.ofNat 18907912675552290406400)))) (orC (memS fa0S fa0A fa0H fa0V fa0R) (orC (memS fb3S fb3A fb3H fb3V fb3R) (orC (memS ga14_1S ga14_1A ga14_1H ga14_1V ga14_1R) (nat)))))
theorem bdg14_1 : valB (calM prog natB14_1 60 (.fn a6 []) (symA [.i64, .i64] 0) (heap0 tabL)) (.s (.b true)) = true := by decide +kernel
noncomputable def ga15_0A : List V := [(.s (.p a45 0)),(.s (.i .i64 3)),(.s (.i .i64 3)),(.agg [(.i .u64 17),(.i .u64 32),(.i .u64 7),(.i .u64 0)]),(.s (.i .i64 1)),(.s z0)]
noncomputable def ga15_0H : Hp := hset fb3R [] a46 1 8
noncomputable def ga15_0V : V := (.s z0)
noncomputable def ga15_0R : Hp := hset ga15_0H [(a24,wB ga15_0H a24 [(1058,17),(1059,32),(1060,7),(1062,1),(1158,88343688),(1286,4298900804),(1348,234903556),(1350,4379116676)])] a46 1 8
noncomputable def ga15_0S : S := (.fn a21 [])
theorem ga15_0 : runB (calM prog (nat) 60 ga15_0S ga15_0A ga15_0H) ga15_0V ga15_0R = true := by decide +kernel
noncomputable def natB15_0 : Cal := orC (oraC (Pth.of 17) [.s (.i .i64 ((symN + 0 : Nat) : Int)), .s (.i .i64 (.ofNat 30))] (.s (.i .i64 (.ofNat 15)))) (orC (oraC (Pth.of 17) [.s (.i .i64 ((symN + 1 : Nat) : Int)), .s (.i .i64 (.ofNat 268435456))] (.s (.i .i64 (.ofNat 0)))) (orC (memS fa0S fa0A fa0H fa0V fa0R) (orC (memS fb3S fb3A fb3H fb3V fb3R) (orC (memS ga15_0S ga15_0A ga15_0H ga15_0V ga15_0R) (nat)))))
theorem bdg15_0 : valB (calM prog natB15_0 60 (.fn a6 []) (symA [.i64, .i64] 0) (heap0 tabL)) (.s (.b true)) = true := by decide +kernel
noncomputable def ga15_1A : List V := [(.s (.p a45 0)),(.s (.i .i64 3)),(.s (.i .i64 3)),(.agg [(.i .u64 17),(.i .u64 32),(.i .u64 7),(.i .u64 18907912675552290406400)]),(.s (.i .i64 1)),(.s z0)]
noncomputable def ga15_1H : Hp := hset fb3R [] a46 1 8
noncomputable def ga15_1V : V := (.s z0)
noncomputable def ga15_1R : Hp := hset ga15_1H [(a24,wB ga15_1H a24 [(1058,17),(1059,32),(1060,7),(1061,18907912675552290406400),(1062,1),(1158,88343688),(1286,4298900804),(1348,234903556),(1349,18907912675552290406400),(1350,4379116676)])] a46 1 8
noncomputable def ga15_1S : S := (.fn a21 [])
theorem ga15_1 : runB (calM prog (nat) 60 ga15_1S ga15_1A ga15_1H) ga15_1V ga15_1R = true := by decide +kernel
noncomputable def natB15_1 : Cal := orC (oraC (Pth.of 17) [.s (.i .i64 ((symN + 0 : Nat) : Int)), .s (.i .i64 (.ofNat 30))] (.s (.i .i64 (.ofNat 15)))) (orC (oraC (Pth.of 17) [.s (.i .i64 ((symN + 1 : Nat) : Int)), .s (.i .i64 (.ofNat 268435456))] (.s (.i .i64 (.ofNat 18907912675552290406400)))) (orC (memS fa0S fa0A fa0H fa0V fa0R) (orC (memS fb3S fb3A fb3H fb3V fb3R) (orC (memS ga15_1S ga15_1A ga15_1H ga15_1V ga15_1R) (nat)))))
theorem bdg15_1 : valB (calM prog natB15_1 60 (.fn a6 []) (symA [.i64, .i64] 0) (heap0 tabL)) (.s (.b true)) = true := by decide +kernel
end Go.E
