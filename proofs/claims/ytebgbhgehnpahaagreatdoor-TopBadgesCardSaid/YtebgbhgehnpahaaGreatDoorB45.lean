/- A part of the proof of the claim that the last text of this folder states. -/
import Derived.Test.YtebgbhgehnpahaaGreatDoorB31
namespace Go.E
set_option linter.all false
set_option maxRecDepth 100000
noncomputable def ga26_0A : List V := [(.s (.p a45 0)),(.s (.i .i64 3)),(.s (.i .i64 3)),(.agg [(.i .u64 28),(.i .u64 32),(.i .u64 7),(.i .u64 0)]),(.s (.i .i64 1)),(.s z0)]
noncomputable def ga26_0H : Hp := hset fb3R [] a46 1 8
noncomputable def ga26_0V : V := (.s z0)
noncomputable def ga26_0R : Hp := hset ga26_0H [(a24,wB ga26_0H a24 [(1058,28),(1059,32),(1060,7),(1062,1),(1158,91227272),(1286,4298900848),(1392,234903556),(1394,4379116676)])] a46 1 8
noncomputable def ga26_0S : S := (.fn a21 [])
theorem ga26_0 : runB (calM prog (nat) 60 ga26_0S ga26_0A ga26_0H) ga26_0V ga26_0R = true := by decide +kernel
noncomputable def natB26_0 : Cal := orC (oraC (Pth.of 17) [.s (.i .i64 ((symN + 0 : Nat) : Int)), .s (.i .i64 (.ofNat 30))] (.s (.i .i64 (.ofNat 26)))) (orC (oraC (Pth.of 17) [.s (.i .i64 ((symN + 1 : Nat) : Int)), .s (.i .i64 (.ofNat 268435456))] (.s (.i .i64 (.ofNat 0)))) (orC (memS fa0S fa0A fa0H fa0V fa0R) (orC (memS fb3S fb3A fb3H fb3V fb3R) (orC (memS ga26_0S ga26_0A ga26_0H ga26_0V ga26_0R) (nat)))))
theorem bdg26_0 : valB (calM prog natB26_0 60 (.fn a6 []) (symA [.i64, .i64] 0) (heap0 tabL)) (.s (.b true)) = true := by decide +kernel
noncomputable def ga26_1A : List V := [(.s (.p a45 0)),(.s (.i .i64 3)),(.s (.i .i64 3)),(.agg [(.i .u64 28),(.i .u64 32),(.i .u64 7),(.i .u64 18907912675552290406400)]),(.s (.i .i64 1)),(.s z0)]
noncomputable def ga26_1H : Hp := hset fb3R [] a46 1 8
noncomputable def ga26_1V : V := (.s z0)
noncomputable def ga26_1R : Hp := hset ga26_1H [(a24,wB ga26_1H a24 [(1058,28),(1059,32),(1060,7),(1061,18907912675552290406400),(1062,1),(1158,91227272),(1286,4298900848),(1392,234903556),(1393,18907912675552290406400),(1394,4379116676)])] a46 1 8
noncomputable def ga26_1S : S := (.fn a21 [])
theorem ga26_1 : runB (calM prog (nat) 60 ga26_1S ga26_1A ga26_1H) ga26_1V ga26_1R = true := by decide +kernel
noncomputable def natB26_1 : Cal := orC (oraC (Pth.of 17) [.s (.i .i64 ((symN + 0 : Nat) : Int)), .s (.i .i64 (.ofNat 30))] (.s (.i .i64 (.ofNat 26)))) (orC (oraC (Pth.of 17) [.s (.i .i64 ((symN + 1 : Nat) : Int)), .s (.i .i64 (.ofNat 268435456))] (.s (.i .i64 (.ofNat 18907912675552290406400)))) (orC (memS fa0S fa0A fa0H fa0V fa0R) (orC (memS fb3S fb3A fb3H fb3V fb3R) (orC (memS ga26_1S ga26_1A ga26_1H ga26_1V ga26_1R) (nat)))))
theorem bdg26_1 : valB (calM prog natB26_1 60 (.fn a6 []) (symA [.i64, .i64] 0) (heap0 tabL)) (.s (.b true)) = true := by decide +kernel
noncomputable def ga27_0A : List V := [(.s (.p a45 0)),(.s (.i .i64 3)),(.s (.i .i64 3)),(.agg [(.i .u64 29),(.i .u64 32),(.i .u64 7),(.i .u64 0)]),(.s (.i .i64 1)),(.s z0)]
noncomputable def ga27_0H : Hp := hset fb3R [] a46 1 8
noncomputable def ga27_0V : V := (.s z0)
noncomputable def ga27_0R : Hp := hset ga27_0H [(a24,wB ga27_0H a24 [(1058,29),(1059,32),(1060,7),(1062,1),(1158,91489416),(1286,4298900852),(1396,234903556),(1398,4379116676)])] a46 1 8
noncomputable def ga27_0S : S := (.fn a21 [])
theorem ga27_0 : runB (calM prog (nat) 60 ga27_0S ga27_0A ga27_0H) ga27_0V ga27_0R = true := by decide +kernel
noncomputable def natB27_0 : Cal := orC (oraC (Pth.of 17) [.s (.i .i64 ((symN + 0 : Nat) : Int)), .s (.i .i64 (.ofNat 30))] (.s (.i .i64 (.ofNat 27)))) (orC (oraC (Pth.of 17) [.s (.i .i64 ((symN + 1 : Nat) : Int)), .s (.i .i64 (.ofNat 268435456))] (.s (.i .i64 (.ofNat 0)))) (orC (memS fa0S fa0A fa0H fa0V fa0R) (orC (memS fb3S fb3A fb3H fb3V fb3R) (orC (memS ga27_0S ga27_0A ga27_0H ga27_0V ga27_0R) (nat)))))
theorem bdg27_0 : valB (calM prog natB27_0 60 (.fn a6 []) (symA [.i64, .i64] 0) (heap0 tabL)) (.s (.b true)) = true := by decide +kernel
noncomputable def ga27_1A : List V := [(.s (.p a45 0)),(.s (.i .i64 3)),(.s (.i .i64 3)),(.agg [(.i .u64 29),(.i .u64 32),(.i .u64 7),(.i .u64 18907912675552290406400)]),(.s (.i .i64 1)),(.s z0)]
noncomputable def ga27_1H : Hp := hset fb3R [] a46 1 8
noncomputable def ga27_1V : V := (.s z0)
noncomputable def ga27_1R : Hp := hset ga27_1H [(a24,wB ga27_1H a24 [(1058,29),(1059,32),(1060,7),(1061,18907912675552290406400),(1062,1),(1158,91489416),(1286,4298900852),(1396,234903556),(1397,18907912675552290406400),(1398,4379116676)])] a46 1 8
noncomputable def ga27_1S : S := (.fn a21 [])
theorem ga27_1 : runB (calM prog (nat) 60 ga27_1S ga27_1A ga27_1H) ga27_1V ga27_1R = true := by decide +kernel
noncomputable def natB27_1 : Cal := orC (oraC (Pth.of 17) [.s (.i .i64 ((symN + 0 : Nat) : Int)), .s (.i .i64 (.ofNat 30))] (.s (.i .i64 (.ofNat 27)))) (orC (oraC (Pth.of 17) [.s (.i .i64 ((symN + 1 : Nat) : Int)), .s (.i .i64 (.ofNat 268435456))] (.s (.i .i64 (.ofNat 18907912675552290406400)))) (orC (memS fa0S fa0A fa0H fa0V fa0R) (orC (memS fb3S fb3A fb3H fb3V fb3R) (orC (memS ga27_1S ga27_1A ga27_1H ga27_1V ga27_1R) (nat)))))
theorem bdg27_1 : valB (calM prog natB27_1 60 (.fn a6 []) (symA [.i64, .i64] 0) (heap0 tabL)) (.s (.b true)) = true := by decide +kernel
end Go.E
