/- A part of the proof of the claim that the last text of this folder states. -/
import Derived.Test.YtebgbhgehnpahaaGreatDoorB31
namespace Go.E
set_option linter.all false
set_option maxRecDepth 100000
noncomputable def ga28_0A : List V := [(.s (.p a45 0)),(.s (.i .i64 3)),(.s (.i .i64 3)),(.agg [(.i .u64 30),(.i .u64 32),(.i .u64 7),(.i .u64 0)]),(.s (.i .i64 1)),(.s z0)]
noncomputable def ga28_0H : Hp := hset fb3R [] a46 1 8
noncomputable def ga28_0V : V := (.s z0)
noncomputable def ga28_0R : Hp := hset ga28_0H [(a24,wB ga28_0H a24 [(1058,30),(1059,32),(1060,7),(1062,1),(1158,91751560),(1286,4298900856),(1400,234903556),(1402,4379116676)])] a46 1 8
noncomputable def ga28_0S : S := (.fn a21 [])
theorem ga28_0 : runB (calM prog (nat) 60 ga28_0S ga28_0A ga28_0H) ga28_0V ga28_0R = true := by decide +kernel
noncomputable def natB28_0 : Cal := orC (oraC (Pth.of 17) [.s (.i .i64 ((symN + 0 : Nat) : Int)), .s (.i .i64 (.ofNat 30))] (.s (.i .i64 (.ofNat 28)))) (orC (oraC (Pth.of 17) [.s (.i .i64 ((symN + 1 : Nat) : Int)), .s (.i .i64 (.ofNat 268435456))] (.s (.i .i64 (.ofNat 0)))) (orC (memS fa0S fa0A fa0H fa0V fa0R) (orC (memS fb3S fb3A fb3H fb3V fb3R) (orC (memS ga28_0S ga28_0A ga28_0H ga28_0V ga28_0R) (nat)))))
theorem bdg28_0 : valB (calM prog natB28_0 60 (.fn a6 []) (symA [.i64, .i64] 0) (heap0 tabL)) (.s (.b true)) = true := by decide +kernel
noncomputable def ga28_1A : List V := [(.s (.p a45 0)),(.s (.i .i64 3)),(.s (.i .i64 3)),(.agg [(.i .u64 30),(.i .u64 32),(.i .u64 7),(.i .u64 18907912675552290406400)]),(.s (.i .i64 1)),(.s z0)]
noncomputable def ga28_1H : Hp := hset fb3R [] a46 1 8
noncomputable def ga28_1V : V := (.s z0)
noncomputable def ga28_1R : Hp := hset ga28_1H [(a24,wB ga28_1H a24 [(1058,30),(1059,32),(1060,7),(1061,18907912675552290406400),(1062,1),(1158,91751560),(1286,4298900856),(1400,234903556),(1401,18907912675552290406400),(1402,4379116676)])] a46 1 8
noncomputable def ga28_1S : S := (.fn a21 [])
theorem ga28_1 : runB (calM prog (nat) 60 ga28_1S ga28_1A ga28_1H) ga28_1V ga28_1R = true := by decide +kernel
noncomputable def natB28_1 : Cal := orC (oraC (Pth.of 17) [.s (.i .i64 ((symN + 0 : Nat) : Int)), .s (.i .i64 (.ofNat 30))] (.s (.i .i64 (.ofNat 28)))) (orC (oraC (Pth.of 17) [.s (.i .i64 ((symN + 1 : Nat) : Int)), .s (.i .i64 (.ofNat 268435456))] (.s (.i .i64 (.ofNat 18907912675552290406400)))) (orC (memS fa0S fa0A fa0H fa0V fa0R) (orC (memS fb3S fb3A fb3H fb3V fb3R) (orC (memS ga28_1S ga28_1A ga28_1H ga28_1V ga28_1R) (nat)))))
theorem bdg28_1 : valB (calM prog natB28_1 60 (.fn a6 []) (symA [.i64, .i64] 0) (heap0 tabL)) (.s (.b true)) = true := by decide +kernel
noncomputable def ga29_0A : List V := [(.s (.p a45 0)),(.s (.i .i64 3)),(.s (.i .i64 3)),(.agg [(.i .u64 31),(.i .u64 32),(.i .u64 7),(.i .u64 0)]),(.s (.i .i64 1)),(.s z0)]
noncomputable def ga29_0H : Hp := hset fb3R [] a46 1 8
noncomputable def ga29_0V : V := (.s z0)
noncomputable def ga29_0R : Hp := hset ga29_0H [(a24,wB ga29_0H a24 [(1058,31),(1059,32),(1060,7),(1062,1),(1158,92013704),(1286,4298900860),(1404,234903556),(1406,4379116676)])] a46 1 8
noncomputable def ga29_0S : S := (.fn a21 [])
theorem ga29_0 : runB (calM prog (nat) 60 ga29_0S ga29_0A ga29_0H) ga29_0V ga29_0R = true := by decide +kernel
noncomputable def natB29_0 : Cal := orC (oraC (Pth.of 17) [.s (.i .i64 ((symN + 0 : Nat) : Int)), .s (.i .i64 (.ofNat 30))] (.s (.i .i64 (.ofNat 29)))) (orC (oraC (Pth.of 17) [.s (.i .i64 ((symN + 1 : Nat) : Int)), .s (.i .i64 (.ofNat 268435456))] (.s (.i .i64 (.ofNat 0)))) (orC (memS fa0S fa0A fa0H fa0V fa0R) (orC (memS fb3S fb3A fb3H fb3V fb3R) (orC (memS ga29_0S ga29_0A ga29_0H ga29_0V ga29_0R) (nat)))))
theorem bdg29_0 : valB (calM prog natB29_0 60 (.fn a6 []) (symA [.i64, .i64] 0) (heap0 tabL)) (.s (.b true)) = true := by decide +kernel
noncomputable def ga29_1A : List V := [(.s (.p a45 0)),(.s (.i .i64 3)),(.s (.i .i64 3)),(.agg [(.i .u64 31),(.i .u64 32),(.i .u64 7),(.i .u64 18907912675552290406400)]),(.s (.i .i64 1)),(.s z0)]
noncomputable def ga29_1H : Hp := hset fb3R [] a46 1 8
noncomputable def ga29_1V : V := (.s z0)
noncomputable def ga29_1R : Hp := hset ga29_1H [(a24,wB ga29_1H a24 [(1058,31),(1059,32),(1060,7),(1061,18907912675552290406400),(1062,1),(1158,92013704),(1286,4298900860),(1404,234903556),(1405,18907912675552290406400),(1406,4379116676)])] a46 1 8
noncomputable def ga29_1S : S := (.fn a21 [])
theorem ga29_1 : runB (calM prog (nat) 60 ga29_1S ga29_1A ga29_1H) ga29_1V ga29_1R = true := by decide +kernel
noncomputable def natB29_1 : Cal := orC (oraC (Pth.of 17) [.s (.i .i64 ((symN + 0 : Nat) : Int)), .s (.i .i64 (.ofNat 30))] (.s (.i .i64 (.ofNat 29)))) (orC (oraC (Pth.of 17) [.s (.i .i64 ((symN + 1 : Nat) : Int)), .s (.i .i64 (.ofNat 268435456))] (.s (.i .i64 (.ofNat 18907912675552290406400)))) (orC (memS fa0S fa0A fa0H fa0V fa0R) (orC (memS fb3S fb3A fb3H fb3V fb3R) (orC (memS ga29_1S ga29_1A ga29_1H ga29_1V ga29_1R) (nat)))))
theorem bdg29_1 : valB (calM prog natB29_1 60 (.fn a6 []) (symA [.i64, .i64] 0) (heap0 tabL)) (.s (.b true)) = true := by decide +kernel
end Go.E
