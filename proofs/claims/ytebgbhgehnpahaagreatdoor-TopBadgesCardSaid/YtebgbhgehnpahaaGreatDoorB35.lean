/- A part of the proof of the claim that the last text of this folder states. -/
import Derived.Test.YtebgbhgehnpahaaGreatDoorB31
namespace Go.E
set_option linter.all false
set_option maxRecDepth 100000
noncomputable def ga6_0A : List V := [(.s (.p a45 0)),(.s (.i .i64 3)),(.s (.i .i64 3)),(.agg [(.i .u64 8),(.i .u64 32),(.i .u64 7),(.i .u64 0)]),(.s (.i .i64 1)),(.s z0)]
noncomputable def ga6_0H : Hp := hset fb3R [] a46 1 8
noncomputable def ga6_0V : V := (.s z0)
noncomputable def ga6_0R : Hp := hset ga6_0H [(a24,wB ga6_0H a24 [(1058,8),(1059,32),(1060,7),(1062,1),(1158,85984392),(1286,4298900768),(1312,234903556),(1314,4379116676)])] a46 1 8
noncomputable def ga6_0S : S := (.fn a21 [])
theorem ga6_0 : runB (calM prog (nat) 60 ga6_0S ga6_0A ga6_0H) ga6_0V ga6_0R = true := by decide +kernel
noncomputable def natB6_0 : Cal := orC (oraC (Pth.of 17) [.s (.i .i64 ((symN + 0 : Nat) : Int)), .s (.i .i64 (.ofNat 30))] (.s (.i .i64 (.ofNat 6)))) (orC (oraC (Pth.of 17) [.s (.i .i64 ((symN + 1 : Nat) : Int)), .s (.i .i64 (.ofNat 268435456))] (.s (.i .i64 (.ofNat 0)))) (orC (memS fa0S fa0A fa0H fa0V fa0R) (orC (memS fb3S fb3A fb3H fb3V fb3R) (orC (memS ga6_0S ga6_0A ga6_0H ga6_0V ga6_0R) (nat)))))
theorem bdg6_0 : valB (calM prog natB6_0 60 (.fn a6 []) (symA [.i64, .i64] 0) (heap0 tabL)) (.s (.b true)) = true := by decide +kernel
noncomputable def ga6_1A : List V := [(.s (.p a45 0)),(.s (.i .i64 3)),(.s (.i .i64 3)),(.agg [(.i .u64 8),(.i .u64 32),(.i .u64 7),(.i .u64 18907912675552290406400)]),(.s (.i .i64 1)),(.s z0)]
noncomputable def ga6_1H : Hp := hset fb3R [] a46 1 8
noncomputable def ga6_1V : V := (.s z0)
noncomputable def ga6_1R : Hp := hset ga6_1H [(a24,wB ga6_1H a24 [(1058,8),(1059,32),(1060,7),(1061,18907912675552290406400),(1062,1),(1158,85984392),(1286,4298900768),(1312,234903556),(1313,18907912675552290406400),(1314,4379116676)])] a46 1 8
noncomputable def ga6_1S : S := (.fn a21 [])
theorem ga6_1 : runB (calM prog (nat) 60 ga6_1S ga6_1A ga6_1H) ga6_1V ga6_1R = true := by decide +kernel
noncomputable def natB6_1 : Cal := orC (oraC (Pth.of 17) [.s (.i .i64 ((symN + 0 : Nat) : Int)), .s (.i .i64 (.ofNat 30))] (.s (.i .i64 (.ofNat 6)))) (orC (oraC (Pth.of 17) [.s (.i .i64 ((symN + 1 : Nat) : Int)), .s (.i .i64 (.ofNat 268435456))] (.s (.i .i64 (.ofNat 18907912675552290406400)))) (orC (memS fa0S fa0A fa0H fa0V fa0R) (orC (memS fb3S fb3A fb3H fb3V fb3R) (orC (memS ga6_1S ga6_1A ga6_1H ga6_1V ga6_1R) (nat)))))
theorem bdg6_1 : valB (calM prog natB6_1 60 (.fn a6 []) (symA [.i64, .i64] 0) (heap0 tabL)) (.s (.b true)) = true := by decide +kernel
noncomputable def ga7_0A : List V := [(.s (.p a45 0)),(.s (.i .i64 3)),(.s (.i .i64 3)),(.agg [(.i .u64 9),(.i .u64 32),(.i .u64 7),(.i .u64 0)]),(.s (.i .i64 1)),(.s z0)]
noncomputable def ga7_0H : Hp := hset fb3R [] a46 1 8
noncomputable def ga7_0V : V := (.s z0)
noncomputable def ga7_0R : Hp := hset ga7_0H [(a24,wB ga7_0H a24 [(1058,9),(1059,32),(1060,7),(1062,1),(1158,86246536),(1286,4298900772),(1316,234903556),(1318,4379116676)])] a46 1 8
noncomputable def ga7_0S : S := (.fn a21 [])
theorem ga7_0 : runB (calM prog (nat) 60 ga7_0S ga7_0A ga7_0H) ga7_0V ga7_0R = true := by decide +kernel
noncomputable def natB7_0 : Cal := orC (oraC (Pth.of 17) [.s (.i .i64 ((symN + 0 : Nat) : Int)), .s (.i .i64 (.ofNat 30))] (.s (.i .i64 (.ofNat 7)))) (orC (oraC (Pth.of 17) [.s (.i .i64 ((symN + 1 : Nat) : Int)), .s (.i .i64 (.ofNat 268435456))] (.s (.i .i64 (.ofNat 0)))) (orC (memS fa0S fa0A fa0H fa0V fa0R) (orC (memS fb3S fb3A fb3H fb3V fb3R) (orC (memS ga7_0S ga7_0A ga7_0H ga7_0V ga7_0R) (nat)))))
theorem bdg7_0 : valB (calM prog natB7_0 60 (.fn a6 []) (symA [.i64, .i64] 0) (heap0 tabL)) (.s (.b true)) = true := by decide +kernel
noncomputable def ga7_1A : List V := [(.s (.p a45 0)),(.s (.i .i64 3)),(.s (.i .i64 3)),(.agg [(.i .u64 9),(.i .u64 32),(.i .u64 7),(.i .u64 18907912675552290406400)]),(.s (.i .i64 1)),(.s z0)]
noncomputable def ga7_1H : Hp := hset fb3R [] a46 1 8
noncomputable def ga7_1V : V := (.s z0)
noncomputable def ga7_1R : Hp := hset ga7_1H [(a24,wB ga7_1H a24 [(1058,9),(1059,32),(1060,7),(1061,18907912675552290406400),(1062,1),(1158,86246536),(1286,4298900772),(1316,234903556),(1317,18907912675552290406400),(1318,4379116676)])] a46 1 8
noncomputable def ga7_1S : S := (.fn a21 [])
theorem ga7_1 : runB (calM prog (nat) 60 ga7_1S ga7_1A ga7_1H) ga7_1V ga7_1R = true := by decide +kernel
noncomputable def natB7_1 : Cal := orC (oraC (Pth.of 17) [.s (.i .i64 ((symN + 0 : Nat) : Int)), .s (.i .i64 (.ofNat 30))] (.s (.i .i64 (.ofNat 7)))) (orC (oraC (Pth.of 17) [.s (.i .i64 ((symN + 1 : Nat) : Int)), .s (.i .i64 (.ofNat 268435456))] (.s (.i .i64 (.ofNat 18907912675552290406400)))) (orC (memS fa0S fa0A fa0H fa0V fa0R) (orC (memS fb3S fb3A fb3H fb3V fb3R) (orC (memS ga7_1S ga7_1A ga7_1H ga7_1V ga7_1R) (nat)))))
theorem bdg7_1 : valB (calM prog natB7_1 60 (.fn a6 []) (symA [.i64, .i64] 0) (heap0 tabL)) (.s (.b true)) = true := by decide +kernel
end Go.E
