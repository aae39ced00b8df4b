/- A part of the proof of the claim that the last text of this folder states. -/
import Derived.Test.YtebgbhgehnpahaaGreatDoorB31
namespace Go.E
set_option linter.all false
set_option maxRecDepth 100000
noncomputable def ga24_0A : List V := [(.s (.p a45 0)),(.s (.i .i64 3)),(.s (.i .i64 3)),(.agg [(.i .u64 26),(.i .u64 32),(.i .u64 7),(.i .u64 0)]),(.s (.i .i64 1)),(.s z0)]
noncomputable def ga24_0H : Hp := hset fb3R [] a46 1 8
noncomputable def ga24_0V : V := (.s z0)
noncomputable def ga24_0R : Hp := hset ga24_0H [(a24,wB ga24_0H a24 [(1058,26),(1059,32),(1060,7),(1062,1),(1158,90702984),(1286,4298900840),(1384,234903556),(1386,4379116676)])] a46 1 8
noncomputable def ga24_0S : S := (.fn a21 [])
theorem ga24_0 : runB (calM prog (nat) 60 ga24_0S ga24_0A ga24_0H) ga24_0V ga24_0R = true := by decide +kernel
noncomputable def natB24_0 : Cal := orC (oraC (Pth.of 17) [.s (.i .i64 ((symN + 0 : Nat) : Int)), .s (.i .i64 (.ofNat 30))] (.s (.i .i64 (.ofNat 24)))) (orC (oraC (Pth.of 17) [.s (.i .i64 ((symN + 1 : Nat) : Int)), .s (.i .i64 (.ofNat 268435456))] (.s (.i .i64 (.ofNat 0)))) (orC (memS fa0S fa0A fa0H fa0V fa0R) (orC (memS fb3S fb3A fb3H fb3V fb3R) (orC (memS ga24_0S ga24_0A ga24_0H ga24_0V ga24_0R) (nat)))))
theorem bdg24_0 : valB (calM prog natB24_0 60 (.fn a6 []) (symA [.i64, .i64] 0) (heap0 tabL)) (.s (.b true)) = true := by decide +kernel
noncomputable def ga24_1A : List V := [(.s (.p a45 0)),(.s (.i .i64 3)),(.s (.i .i64 3)),(.agg [(.i .u64 26),(.i .u64 32),(.i .u64 7),(.i .u64 18907912675552290406400)]),(.s (.i .i64 1)),(.s z0)]
noncomputable def ga24_1H : Hp := hset fb3R [] a46 1 8
noncomputable def ga24_1V : V := (.s z0)
noncomputable def ga24_1R : Hp := hset ga24_1H [(a24,wB ga24_1H a24 [(1058,26),(1059,32),(1060,7),(1061,18907912675552290406400),(1062,1),(1158,90702984),(1286,4298900840),(1384,234903556),(1385,18907912675552290406400),(1386,4379116676)])] a46 1 8
noncomputable def ga24_1S : S := (.fn a21 [])
theorem ga24_1 : runB (calM prog (nat) 60 ga24_1S ga24_1A ga24_1H) ga24_1V ga24_1R = true := by decide +kernel
noncomputable def natB24_1 : Cal := orC (oraC (Pth.of 17) [.s (.i .i64 ((symN + 0 : Nat) : Int)), .s (.i .i64 (.ofNat 30))] (.s (.i .i64 (.ofNat 24)))) (orC (oraC (Pth.of 17) [.s (.i .i64 ((symN + 1 : Nat) : Int)), .s (.i .i64 (.ofNat 268435456))] (.s (.i .i64 (.ofNat 18907912675552290406400)))) (orC (memS fa0S fa0A fa0H fa0V fa0R) (orC (memS fb3S fb3A fb3H fb3V fb3R) (orC (memS ga24_1S ga24_1A ga24_1H ga24_1V ga24_1R) (nat)))))
theorem bdg24_1 : valB (calM prog natB24_1 60 (.fn a6 []) (symA [.i64, .i64] 0) (heap0 tabL)) (.s (.b true)) = true := by decide +kernel
noncomputable def ga25_0A : List V := [(.s (.p a45 0)),(.s (.i .i64 3)),(.s (.i .i64 3)),(.agg [(.i .u64 27),(.i .u64 32),(.i .u64 7),(.i .u64 0)]),(.s (.i .i64 1)),(.s z0)]
noncomputable def ga25_0H : Hp := hset fb3R [] a46 1 8
noncomputable def ga25_0V : V := (.s z0)
noncomputable def ga25_0R : Hp := hset ga25_0H [(a24,wB ga25_0H a24 [(1058,27),(1059,32),(1060,7),(1062,1),(1158,90965128),(1286,4298900844),(1388,234903556),(1390,4379116676)])] a46 1 8
noncomputable def ga25_0S : S := (.fn a21 [])
theorem ga25_0 : runB (calM prog (nat) 60 ga25_0S ga25_0A ga25_0H) ga25_0V ga25_0R = true := by decide +kernel
noncomputable def natB25_0 : Cal := orC (oraC (Pth.of 17) [.s (.i .i64 ((symN + 0 : Nat) : Int)), .s (.i .i64 (.ofNat 30))] (.s (.i .i64 (.ofNat 25)))) (orC (oraC (Pth.of 17) [.s (.i .i64 ((symN + 1 : Nat) : Int)), .s (.i .i64 (.ofNat 268435456))] (.s (.i .i64 (.ofNat 0)))) (orC (memS fa0S fa0A fa0H fa0V fa0R) (orC (memS fb3S fb3A fb3H fb3V fb3R) (orC (memS ga25_0S ga25_0A ga25_0H ga25_0V ga25_0R) (nat)))))
theorem bdg25_0 : valB (calM prog natB25_0 60 (.fn a6 []) (symA [.i64, .i64] 0) (heap0 tabL)) (.s (.b true)) = true := by decide +kernel
noncomputable def ga25_1A : List V := [(.s (.p a45 0)),(.s (.i .i64 3)),(.s (.i .i64 3)),(.agg [(.i .u64 27),(.i .u64 32),(.i .u64 7),(.i .u64 18907912675552290406400)]),(.s (.i .i64 1)),(.s z0)]
noncomputable def ga25_1H : Hp := hset fb3R [] a46 1 8
noncomputable def ga25_1V : V := (.s z0)
noncomputable def ga25_1R : Hp := hset ga25_1H [(a24,wB ga25_1H a24 [(1058,27),(1059,32),(1060,7),(1061,18907912675552290406400),(1062,1),(1158,90965128),(1286,4298900844),(1388,234903556),(1389,18907912675552290406400),(1390,4379116676)])] a46 1 8
noncomputable def ga25_1S : S := (.fn a21 [])
theorem ga25_1 : runB (calM prog (nat) 60 ga25_1S ga25_1A ga25_1H) ga25_1V ga25_1R = true := by decide +kernel
noncomputable def natB25_1 : Cal := orC (oraC (Pth.of 17) [.s (.i .i64 ((symN + 0 : Nat) : Int)), .s (.i .i64 (.ofNat 30))] (.s (.i .i64 (.ofNat 25)))) (orC (oraC (Pth.of 17) [.s (.i .i64 ((symN + 1 : Nat) : Int)), .s (.i .i64 (.ofNat 268435456))] (.s (.i .i64 (.ofNat 18907912675552290406400)))) (orC (memS fa0S fa0A fa0H fa0V fa0R) (orC (memS fb3S fb3A fb3H fb3V fb3R) (orC (memS ga25_1S ga25_1A ga25_1H ga25_1V ga25_1R) (nat)))))
theorem bdg25_1 : valB (calM prog natB25_1 60 (.fn a6 []) (symA [.i64, .i64] 0) (heap0 tabL)) (.s (.b true)) = true := by decide +kernel
end Go.E
