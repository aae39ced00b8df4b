/- A part of the proof of the claim that the last text of this folder states. -/
import Derived.Test.YtebgbhgehnpahaaGreatDoorB31
namespace Go.E
set_option linter.all false
set_option maxRecDepth 100000
noncomputable def ga22_0A : List V := [(.s (.p a45 0)),(.s (.i .i64 3)),(.s (.i .i64 3)),(.agg [(.i .u64 24),(.i .u64 32),(.i .u64 7),(.i .u64 0)]),(.s (.i .i64 1)),(.s z0)]
noncomputable def ga22_0H : Hp := hset fb3R [] a46 1 8
noncomputable def ga22_0V : V := (.s z0)
noncomputable def ga22_0R : Hp := hset ga22_0H [(a24,wB ga22_0H a24 [(1058,24),(1059,32),(1060,7),(1062,1),(1158,90178696),(1286,4298900832),(1376,234903556),(1378,4379116676)])] a46 1 8
noncomputable def ga22_0S : S := (.fn a21 [])
theorem ga22_0 : runB (calM prog (nat) 60 ga22_0S ga22_0A ga22_0H) ga22_0V ga22_0R = true := by decide +kernel
noncomputable def natB22_0 : Cal := orC (oraC (Pth.of 17) [.s (.i .i64 ((symN + 0 : Nat) : Int)), .s (.i .i64 (.ofNat 30))] (.s (.i .i64 (.ofNat 22)))) (orC (oraC (Pth.of 17) [.s (.i .i64 ((symN + 1 : Nat) : Int)), .s (.i .i64 (.ofNat 268435456))] (.s (.i .i64 (.ofNat 0)))) (orC (memS fa0S fa0A fa0H fa0V fa0R) (orC (memS fb3S fb3A fb3H fb3V fb3R) (orC (memS ga22_0S ga22_0A ga22_0H ga22_0V ga22_0R) (nat)))))
theorem bdg22_0 : valB (calM prog natB22_0 60 (.fn a6 []) (symA [.i64, .i64] 0) (heap0 tabL)) (.s (.b true)) = true := by decide +kernel
noncomputable def ga22_1A : List V := [(.s (.p a45 0)),(.s (.i .i64 3)),(.s (.i .i64 3)),(.agg [(.i .u64 24),(.i .u64 32),(.i .u64 7),(.i .u64 18907912675552290406400)]),(.s (.i .i64 1)),(.s z0)]
noncomputable def ga22_1H : Hp := hset fb3R [] a46 1 8
noncomputable def ga22_1V : V := (.s z0)
noncomputable def ga22_1R : Hp := hset ga22_1H [(a24,wB ga22_1H a24 [(1058,24),(1059,32),(1060,7),(1061,18907912675552290406400),(1062,1),(1158,90178696),(1286,4298900832),(1376,234903556),(1377,18907912675552290406400),(1378,4379116676)])] a46 1 8
noncomputable def ga22_1S : S := (.fn a21 [])
theorem ga22_1 : runB (calM prog (nat) 60 ga22_1S ga22_1A ga22_1H) ga22_1V ga22_1R = true := by decide +kernel
noncomputable def natB22_1 : Cal := orC (oraC (Pth.of 17) [.s (.i .i64 ((symN + 0 : Nat) : Int)), .s (.i .i64 (.ofNat 30))] (.s (.i .i64 (.ofNat 22)))) (orC (oraC (Pth.of 17) [.s (.i .i64 ((symN + 1 : Nat) : Int)), .s (.i .i64 (.ofNat 268435456))] (.s (.i .i64 (.ofNat 18907912675552290406400)))) (orC (memS fa0S fa0A fa0H fa0V fa0R) (orC (memS fb3S fb3A fb3H fb3V fb3R) (orC (memS ga22_1S ga22_1A ga22_1H ga22_1V ga22_1R) (nat)))))
theorem bdg22_1 : valB (calM prog natB22_1 60 (.fn a6 []) (symA [.i64, .i64] 0) (heap0 tabL)) (.s (.b true)) = true := by decide +kernel
noncomputable def ga23_0A : List V := [(.s (.p a45 0)),(.s (.i .i64 3)),(.s (.i .i64 3)),(.agg [(.i .u64 25),(.i .u64 32),(.i .u64 7),(.i .u64 0)]),(.s (.i .i64 1)),(.s z0)]
noncomputable def ga23_0H : Hp := hset fb3R [] a46 1 8
noncomputable def ga23_0V : V := (.s z0)
noncomputable def ga23_0R : Hp := hset ga23_0H [(a24,wB ga23_0H a24 [(1058,25),(1059,32),(1060,7),(1062,1),(1158,90440840),(1286,4298900836),(1380,234903556),(1382,4379116676)])] a46 1 8
noncomputable def ga23_0S : S := (.fn a21 [])
theorem ga23_0 : runB (calM prog (nat) 60 ga23_0S ga23_0A ga23_0H) ga23_0V ga23_0R = true := by decide +kernel
noncomputable def natB23_0 : Cal := orC (oraC (Pth.of 17) [.s (.i .i64 ((symN + 0 : Nat) : Int)), .s (.i .i64 (.ofNat 30))] (.s (.i .i64 (.ofNat 23)))) (orC (oraC (Pth.of 17) [.s (.i .i64 ((symN + 1 : Nat) : Int)), .s (.i .i64 (.ofNat 268435456))] (.s (.i .i64 (.ofNat 0)))) (orC (memS fa0S fa0A fa0H fa0V fa0R) (orC (memS fb3S fb3A fb3H fb3V fb3R) (orC (memS ga23_0S ga23_0A ga23_0H ga23_0V ga23_0R) (nat)))))
theorem bdg23_0 : valB (calM prog natB23_0 60 (.fn a6 []) (symA [.i64, .i64] 0) (heap0 tabL)) (.s (.b true)) = true := by decide +kernel
noncomputable def ga23_1A : List V := [(.s (.p a45 0)),(.s (.i .i64 3)),(.s (.i .i64 3)),(.agg [(.i .u64 25),(.i .u64 32),(.i .u64 7),(.i .u64 18907912675552290406400)]),(.s (.i .i64 1)),(.s z0)]
noncomputable def ga23_1H : Hp := hset fb3R [] a46 1 8
noncomputable def ga23_1V : V := (.s z0)
noncomputable def ga23_1R : Hp := hset ga23_1H [(a24,wB ga23_1H a24 [(1058,25),(1059,32),(1060,7),(1061,18907912675552290406400),(1062,1),(1158,90440840),(1286,4298900836),(1380,234903556),(1381,18907912675552290406400),(1382,4379116676)])] a46 1 8
noncomputable def ga23_1S : S := (.fn a21 [])
theorem ga23_1 : runB (calM prog (nat) 60 ga23_1S ga23_1A ga23_1H) ga23_1V ga23_1R = true := by decide +kernel
noncomputable def natB23_1 : Cal := orC (oraC (Pth.of 17) [.s (.i .i64 ((symN + 0 : Nat) : Int)), .s (.i .i64 (.ofNat 30))] (.s (.i .i64 (.ofNat 23)))) (orC (oraC (Pth.of 17) [.s (.i .i64 ((symN + 1 : Nat) : Int)), .s (.i .i64 (.ofNat 268435456))] (.s (.i .i64 (.ofNat 18907912675552290406400)))) (orC (memS fa0S fa0A fa0H fa0V fa0R) (orC (memS fb3S fb3A fb3H fb3V fb3R) (orC (memS ga23_1S ga23_1A ga23_1H ga23_1V ga23_1R) (nat)))))
theorem bdg23_1 : valB (calM prog natB23_1 60 (.fn a6 []) (symA [.i64, .i64] 0) (heap0 tabL)) (.s (.b true)) = true := by decide +kernel
end Go.E
