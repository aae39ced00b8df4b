/- A part of the proof of the claim that the last text of this folder states. -/
import Derived.Test.YtebgbhgehnpahaaGreatDoorB31
namespace Go.E
set_option linter.all false
set_option maxRecDepth 100000
noncomputable def ga2_0A : List V := [(.s (.p a45 0)),(.s (.i .i64 3)),(.s (.i .i64 3)),(.agg [(.i .u64 4),(.i .u64 32),(.i .u64 7),(.i .u64 0)]),(.s (.i .i64 1)),(.s z0)]
noncomputable def ga2_0H : Hp := hset fb3R [] a46 1 8
noncomputable def ga2_0V : V := (.s z0)
noncomputable def ga2_0R : Hp := hset ga2_0H [(a24,wB ga2_0H a24 [(1058,4),(1059,32),(1060,7),(1062,1),(1158,84935816),(1286,4298900752),(1296,234903556),(1298,4379116676)])] a46 1 8
noncomputable def ga2_0S : S := (.fn a21 [])
theorem ga2_0 : runB (calM prog (nat) 60 ga2_0S ga2_0A ga2_0H) ga2_0V ga2_0R = true := by decide +kernel
noncomputable def natB2_0 : Cal := orC (oraC (Pth.of 17) [.s (.i .i64 ((symN + 0 : Nat) : Int)), .s (.i .i64 (.ofNat 30))] (.s (.i .i64 (.ofNat 2)))) (orC (oraC (Pth.of 17) [.s (.i .i64 ((symN + 1 : Nat) : Int)), .s (.i .i64 (.ofNat 268435456))] (.s (.i .i64 (.ofNat 0)))) (orC (memS fa0S fa0A fa0H fa0V fa0R) (orC (memS fb3S fb3A fb3H fb3V fb3R) (orC (memS ga2_0S ga2_0A ga2_0H ga2_0V ga2_0R) (nat)))))
theorem bdg2_0 : valB (calM prog natB2_0 60 (.fn a6 []) (symA [.i64, .i64] 0) (heap0 tabL)) (.s (.b true)) = true := by decide +kernel
noncomputable def ga2_1A : List V := [(.s (.p a45 0)),(.s (.i .i64 3)),(.s (.i .i64 3)),(.agg [(.i .u64 4),(.i .u64 32),(.i .u64 7),(.i .u64 18907912675552290406400)]),(.s (.i .i64 1)),(.s z0)]
noncomputable def ga2_1H : Hp := hset fb3R [] a46 1 8
noncomputable def ga2_1V : V := (.s z0)
noncomputable def ga2_1R : Hp := hset ga2_1H [(a24,wB ga2_1H a24 [(1058,4),(1059,32),(1060,7),(1061,18907912675552290406400),(1062,1),(1158,84935816),(1286,4298900752),(1296,234903556),(1297,18907912675552290406400),(1298,4379116676)])] a46 1 8
noncomputable def ga2_1S : S := (.fn a21 [])
theorem ga2_1 : runB (calM prog (nat) 60 ga2_1S ga2_1A ga2_1H) ga2_1V ga2_1R = true := by decide +kernel
noncomputable def natB2_1 : Cal := orC (oraC (Pth.of 17) [.s (.i .i64 ((symN + 0 : Nat) : Int)), .s (.i .i64 (.ofNat 30))] (.s (.i .i64 (.ofNat 2)))) (orC (oraC (Pth.of 17) [.s (.i .i64 ((symN + 1 : Nat) : Int)), .s (.i .i64 (.ofNat 268435456))] (.s (.i .i64 (.ofNat 18907912675552290406400)))) (orC (memS fa0S fa0A fa0H fa0V fa0R) (orC (memS fb3S fb3A fb3H fb3V fb3R) (orC (memS ga2_1S ga2_1A ga2_1H ga2_1V ga2_1R) (nat)))))
theorem bdg2_1 : valB (calM prog natB2_1 60 (.fn a6 []) (symA [.i64, .i64] 0) (heap0 tabL)) (.s (.b true)) = true := by decide +kernel
noncomputable def ga3_0A : List V := [(.s (.p a45 0)),(.s (.i .i64 3)),(.s (.i .i64 3)),(.agg [(.i .u64 5),(.i .u64 32),(.i .u64 7),(.i .u64 0)]),(.s (.i .i64 1)),(.s z0)]
noncomputable def ga3_0H : Hp := hset fb3R [] a46 1 8
noncomputable def ga3_0V : V := (.s z0)
noncomputable def ga3_0R : Hp := hset ga3_0H [(a24,wB ga3_0H a24 [(1058,5),(1059,32),(1060,7),(1062,1),(1158,85197960),(1286,4298900756),(1300,234903556),(1302,4379116676)])] a46 1 8
noncomputable def ga3_0S : S := (.fn a21 [])
theorem ga3_0 : runB (calM prog (nat) 60 ga3_0S ga3_0A ga3_0H) ga3_0V ga3_0R = true := by decide +kernel
noncomputable def natB3_0 : Cal := orC (oraC (Pth.of 17) [.s (.i .i64 ((symN + 0 : Nat) : Int)), .s (.i .i64 (.ofNat 30))] (.s (.i .i64 (.ofNat 3)))) (orC (oraC (Pth.of 17) [.s (.i .i64 ((symN + 1 : Nat) : Int)), .s (.i .i64 (.ofNat 268435456))] (.s (.i .i64 (.ofNat 0)))) (orC (memS fa0S fa0A fa0H fa0V fa0R) (orC (memS fb3S fb3A fb3H fb3V fb3R) (orC (memS ga3_0S ga3_0A ga3_0H ga3_0V ga3_0R) (nat)))))
theorem bdg3_0 : valB (calM prog natB3_0 60 (.fn a6 []) (symA [.i64, .i64] 0) (heap0 tabL)) (.s (.b true)) = true := by decide +kernel
noncomputable def ga3_1A : List V := [(.s (.p a45 0)),(.s (.i .i64 3)),(.s (.i .i64 3)),(.agg [(.i .u64 5),(.i .u64 32),(.i .u64 7),(.i .u64 18907912675552290406400)]),(.s (.i .i64 1)),(.s z0)]
noncomputable def ga3_1H : Hp := hset fb3R [] a46 1 8
noncomputable def ga3_1V : V := (.s z0)
noncomputable def ga3_1R : Hp := hset ga3_1H [(a24,wB ga3_1H a24 [(1058,5),(1059,32),(1060,7),(1061,18907912675552290406400),(1062,1),(1158,85197960),(1286,4298900756),(1300,234903556),(1301,18907912675552290406400),(1302,4379116676)])] a46 1 8
noncomputable def ga3_1S : S := (.fn a21 [])
theorem ga3_1 : runB (calM prog (nat) 60 ga3_1S ga3_1A ga3_1H) ga3_1V ga3_1R = true := by decide +kernel
noncomputable def natB3_1 : Cal := orC (oraC (Pth.of 17) [.s (.i .i64 ((symN + 0 : Nat) : Int)), .s (.i .i64 (.ofNat 30))] (.s (.i .i64 (.ofNat 3)))) (orC (oraC (Pth.of 17) [.s (.i .i64 ((symN + 1 : Nat) : Int)), .s (.i .i64 (.ofNat 268435456))] (.s (.i .i64 (.ofNat 18907912675552290406400)))) (orC (memS fa0S fa0A fa0H fa0V fa0R) (orC (memS fb3S fb3A fb3H fb3V fb3R) (orC (memS ga3_1S ga3_1A ga3_1H ga3_1V ga3_1R) (nat)))))
theorem bdg3_1 : valB (calM prog natB3_1 60 (.fn a6 []) (symA [.i64, .i64] 0) (heap0 tabL)) (.s (.b true)) = true := by decide +kernel
end Go.E
