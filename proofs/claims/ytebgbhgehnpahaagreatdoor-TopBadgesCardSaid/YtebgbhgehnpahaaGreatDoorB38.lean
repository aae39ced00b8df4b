/- A part of the proof of the claim that the last text of this folder states. -/
import Derived.Test.YtebgbhgehnpahaaGreatDoorB31
namespace Go.E
set_option linter.all false
set_option maxRecDepth 100000
noncomputable def ga12_0A : List V := [(.s (.p a45 0)),(.s (.i .i64 3)),(.s (.i .i64 3)),(.agg [(.i .u64 14),(.i .u64 32),(.i .u64 7),(.i .u64 0)]),(.s (.i .i64 1)),(.s z0)]
noncomputable def ga12_0H : Hp := hset fb3R [] a46 1 8
noncomputable def ga12_0V : V := (.s z0)
noncomputable def ga12_0R : Hp := hset ga12_0H [(a24,wB ga12_0H a24 [(1058,14),(1059,32),(1060,7),(1062,1),(1158,87557256),(1286,4298900792),(1336,234903556),(1338,4379116676)])] a46 1 8
noncomputable def ga12_0S : S := (.fn a21 [])
theorem ga12_0 : runB (calM prog (nat) 60 ga12_0S ga12_0A ga12_0H) ga12_0V ga12_0R = true := by decide +kernel
noncomputable def natB12_0 : Cal := orC (oraC (Pth.of 17) [.s (.i .i64 ((symN + 0 : Nat) : Int)), .s (.i .i64 (.ofNat 30))] (.s (.i .i64 (.ofNat 12)))) (orC (oraC (Pth.of 17) [.s (.i .i64 ((symN + 1 : Nat) : Int)), .s (.i .i64 (.ofNat 268435456))] (.s (.i .i64 (.ofNat 0)))) (orC (memS fa0S fa0A fa0H fa0V fa0R) (orC (memS fb3S fb3A fb3H fb3V fb3R) (orC (memS ga12_0S ga12_0A ga12_0H ga12_0V ga12_0R) (nat)))))
theorem bdg12_0 : valB (calM prog natB12_0 60 (.fn a6 []) (symA [.i64, .i64] 0) (heap0 tabL)) (.s (.b true)) = true := by decide +kernel
noncomputable def ga12_1A : List V := [(.s (.p a45 0)),(.s (.i .i64 3)),(.s (.i .i64 3)),(.agg [(.i .u64 14),(.i .u64 32),(.i .u64 7),(.i .u64 18907912675552290406400)]),(.s (.i .i64 1)),(.s z0)]
noncomputable def ga12_1H : Hp := hset fb3R [] a46 1 8
noncomputable def ga12_1V : V := (.s z0)
noncomputable def ga12_1R : Hp := hset ga12_1H [(a24,wB ga12_1H a24 [(1058,14),(1059,32),(1060,7),(1061,18907912675552290406400),(1062,1),(1158,87557256),(1286,4298900792),(1336,234903556),(1337,18907912675552290406400),(1338,4379116676)])] a46 1 8
noncomputable def ga12_1S : S := (.fn a21 [])
theorem ga12_1 : runB (calM prog (nat) 60 ga12_1S ga12_1A ga12_1H) ga12_1V ga12_1R = true := by decide +kernel
noncomputable def natB12_1 : Cal := orC (oraC (Pth.of 17) [.s (.i .i64 ((symN + 0 : Nat) : Int)), .s (.i .i64 (.ofNat 30))] (.s (.i .i64 (.ofNat 12)))) (orC (oraC (Pth.of 17) [.s (.i .i64 ((symN + 1 : Nat) : Int)), .s (.i .i64 (.ofNat 268435456))] (.s (.i .i64 (.ofNat 18907912675552290406400)))) (orC (memS fa0S fa0A fa0H fa0V fa0R) (orC (memS fb3S fb3A fb3H fb3V fb3R) (orC (memS ga12_1S ga12_1A ga12_1H ga12_1V ga12_1R) (nat)))))
theorem bdg12_1 : valB (calM prog natB12_1 60 (.fn a6 []) (symA [.i64, .i64] 0) (heap0 tabL)) (.s (.b true)) = true := by decide +kernel
noncomputable def ga13_0A : List V := [(.s (.p a45 0)),(.s (.i .i64 3)),(.s (.i .i64 3)),(.agg [(.i .u64 15),(.i .u64 32),(.i .u64 7),(.i .u64 0)]),(.s (.i .i64 1)),(.s z0)]
noncomputable def ga13_0H : Hp := hset fb3R [] a46 1 8
noncomputable def ga13_0V : V := (.s z0)
noncomputable def ga13_0R : Hp := hset ga13_0H [(a24,wB ga13_0H a24 [(1058,15),(1059,32),(1060,7),(1062,1),(1158,87819400),(1286,4298900796),(1340,234903556),(1342,4379116676)])] a46 1 8
noncomputable def ga13_0S : S := (.fn a21 [])
theorem ga13_0 : runB (calM prog (nat) 60 ga13_0S ga13_0A ga13_0H) ga13_0V ga13_0R = true := by decide +kernel
noncomputable def natB13_0 : Cal := orC (oraC (Pth.of 17) [.s (.i .i64 ((symN + 0 : Nat) : Int)), .s (.i .i64 (.ofNat 30))] (.s (.i .i64 (.ofNat 13)))) (orC (oraC (Pth.of 17) [.s (.i .i64 ((symN + 1 : Nat) : Int)), .s (.i .i64 (.ofNat 268435456))] (.s (.i .i64 (.ofNat 0)))) (orC (memS fa0S fa0A fa0H fa0V fa0R) (orC (memS fb3S fb3A fb3H fb3V fb3R) (orC (memS ga13_0S ga13_0A ga13_0H ga13_0V ga13_0R) (nat)))))
theorem bdg13_0 : valB (calM prog natB13_0 60 (.fn a6 []) (symA [.i64, .i64] 0) (heap0 tabL)) (.s (.b true)) = true := by decide +kernel
noncomputable def ga13_1A : List V := [(.s (.p a45 0)),(.s (.i .i64 3)),(.s (.i .i64 3)),(.agg [(.i .u64 15),(.i .u64 32),(.i .u64 7),(.i .u64 18907912675552290406400)]),(.s (.i .i64 1)),(.s z0)]
noncomputable def ga13_1H : Hp := hset fb3R [] a46 1 8
noncomputable def ga13_1V : V := (.s z0)
noncomputable def ga13_1R : Hp := hset ga13_1H [(a24,wB ga13_1H a24 [(1058,15),(1059,32),(1060,7),(1061,18907912675552290406400),(1062,1),(1158,87819400),(1286,4298900796),(1340,234903556),(1341,18907912675552290406400),(1342,4379116676)])] a46 1 8
noncomputable def ga13_1S : S := (.fn a21 [])
theorem ga13_1 : runB (calM prog (nat) 60 ga13_1S ga13_1A ga13_1H) ga13_1V ga13_1R = true := by decide +kernel
noncomputable def natB13_1 : Cal := orC (oraC (Pth.of 17) [.s (.i .i64 ((symN + 0 : Nat) : Int)), .s (.i .i64 (.ofNat 30))] (.s (.i .i64 (.ofNat 13)))) (orC (oraC (Pth.of 17) [.s (.i .i64 ((symN + 1 : Nat) : Int)), .s (.i .i64 (.ofNat 268435456))] (.s (.i .i64 (.ofNat 18907912675552290406400)))) (orC (memS fa0S fa0A fa0H fa0V fa0R) (orC (memS fb3S fb3A fb3H fb3V fb3R) (orC (memS ga13_1S ga13_1A ga13_1H ga13_1V ga13_1R) (nat)))))
theorem bdg13_1 : valB (calM prog natB13_1 60 (.fn a6 []) (symA [.i64, .i64] 0) (heap0 tabL)) (.s (.b true)) = true := by decide +kernel
end Go.E
