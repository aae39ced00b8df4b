/- A part of the proof of the claim that the last text of this folder states. -/
import Derived.Test.YtebgbhgehnpahaaGreatDoorB31
namespace Go.E
set_option linter.all false
set_option maxRecDepth 100000
noncomputable def ga10_0A : List V := [(.s (.p a45 0)),(.s (.i .i64 3)),(.s (.i .i64 3)),(.agg [(.i .u64 12),(.i .u64 32),(.i .u64 7),(.i .u64 0)]),(.s (.i .i64 1)),(.s z0)]
noncomputable def ga10_0H : Hp := hset fb3R [] a46 1 8
noncomputable def ga10_0V : V := (.s z0)
noncomputable def ga10_0R : Hp := hset ga10_0H [(a24,wB ga10_0H a24 [(1058,12),(1059,32),(1060,7),(1062,1),(1158,87032968),(1286,4298900784),(1328,234903556),(1330,4379116676)])] a46 1 8
noncomputable def ga10_0S : S := (.fn a21 [])
theorem ga10_0 : runB (calM prog (nat) 60 ga10_0S ga10_0A ga10_0H) ga10_0V ga10_0R = true := by decide +kernel
noncomputable def natB10_0 : Cal := orC (oraC (Pth.of 17) [.s (.i .i64 ((symN + 0 : Nat) : Int)), .s (.i .i64 (.ofNat 30))] (.s (.i .i64 (.ofNat 10)))) (orC (oraC (Pth.of 17) [.s (.i .i64 ((symN + 1 : Nat) : Int)), .s (.i .i64 (.ofNat 268435456))] (.s (.i .i64 (.ofNat 0)))) (orC (memS fa0S fa0A fa0H fa0V fa0R) (orC (memS fb3S fb3A fb3H fb3V fb3R) (orC (memS ga10_0S ga10_0A ga10_0H ga10_0V ga10_0R) (nat)))))
theorem bdg10_0 : valB (calM prog natB10_0 60 (.fn a6 []) (symA [.i64, .i64] 0) (heap0 tabL)) (.s (.b true)) = true := by decide +kernel
noncomputable def ga10_1A : List V := [(.s (.p a45 0)),(.s (.i .i64 3)),(.s (.i .i64 3)),(.agg [(.i .u64 12),(.i .u64 32),(.i .u64 7),(.i .u64 18907912675552290406400)]),(.s (.i .i64 1)),(.s z0)]
noncomputable def ga10_1H : Hp := hset fb3R [] a46 1 8
noncomputable def ga10_1V : V := (.s z0)
noncomputable def ga10_1R : Hp := hset ga10_1H [(a24,wB ga10_1H a24 [(1058,12),(1059,32),(1060,7),(1061,18907912675552290406400),(1062,1),(1158,87032968),(1286,4298900784),(1328,234903556),(1329,18907912675552290406400),(1330,4379116676)])] a46 1 8
noncomputable def ga10_1S : S := (.fn a21 [])
theorem ga10_1 : runB (calM prog (nat) 60 ga10_1S ga10_1A ga10_1H) ga10_1V ga10_1R = true := by decide +kernel
noncomputable def natB10_1 : Cal := orC (oraC (Pth.of 17) [.s (.i .i64 ((symN + 0 : Nat) : Int)), .s (.i .i64 (.ofNat 30))] (.s (.i .i64 (.ofNat 10)))) (orC (oraC (Pth.of 17) [.s (.i .i64 ((symN + 1 : Nat) : Int)), .s (.i .i64 (.ofNat 268435456))] (.s (.i .i64 (.ofNat 18907912675552290406400)))) (orC (memS fa0S fa0A fa0H fa0V fa0R) (orC (memS fb3S fb3A fb3H fb3V fb3R) (orC (memS ga10_1S ga10_1A ga10_1H ga10_1V ga10_1R) (nat)))))
theorem bdg10_1 : valB (calM prog natB10_1 60 (.fn a6 []) (symA [.i64, .i64] 0) (heap0 tabL)) (.s (.b true)) = true := by decide +kernel
noncomputable def ga11_0A : List V := [(.s (.p a45 0)),(.s (.i .i64 3)),(.s (.i .i64 3)),(.agg [(.i .u64 13),(.i .u64 32),(.i .u64 7),(.i .u64 0)]),(.s (.i .i64 1)),(.s z0)]
noncomputable def ga11_0H : Hp := hset fb3R [] a46 1 8
noncomputable def ga11_0V : V := (.s z0)
noncomputable def ga11_0R : Hp := hset ga11_0H [(a24,wB ga11_0H a24 [(1058,13),(1059,32),(1060,7),(1062,1),(1158,87295112),(1286,4298900788),(1332,234903556),(1334,4379116676)])] a46 1 8
noncomputable def ga11_0S : S := (.fn a21 [])
theorem ga11_0 : runB (calM prog (nat) 60 ga11_0S ga11_0A ga11_0H) ga11_0V ga11_0R = true := by decide +kernel
noncomputable def natB11_0 : Cal := orC (oraC (Pth.of 17) [.s (.i .i64 ((symN + 0 : Nat) : Int)), .s (.i .i64 (.ofNat 30))] (.s (.i .i64 (.ofNat 11)))) (orC (oraC (Pth.of 17) [.s (.i .i64 ((symN + 1 : Nat) : Int)), .s (.i .i64 (.ofNat 268435456))] (.s (.i .i64 (.ofNat 0)))) (orC (memS fa0S fa0A fa0H fa0V fa0R) (orC (memS fb3S fb3A fb3H fb3V fb3R) (orC (memS ga11_0S ga11_0A ga11_0H ga11_0V ga11_0R) (nat)))))
theorem bdg11_0 : valB (calM prog natB11_0 60 (.fn a6 []) (symA [.i64, .i64] 0) (heap0 tabL)) (.s (.b true)) = true := by decide +kernel
noncomputable def ga11_1A : List V := [(.s (.p a45 0)),(.s (.i .i64 3)),(.s (.i .i64 3)),(.agg [(.i .u64 13),(.i .u64 32),(.i .u64 7),(.i .u64 18907912675552290406400)]),(.s (.i .i64 1)),(.s z0)]
noncomputable def ga11_1H : Hp := hset fb3R [] a46 1 8
noncomputable def ga11_1V : V := (.s z0)
noncomputable def ga11_1R : Hp := hset ga11_1H [(a24,wB ga11_1H a24 [(1058,13),(1059,32),(1060,7),(1061,18907912675552290406400),(1062,1),(1158,87295112),(1286,4298900788),(1332,234903556),(1333,18907912675552290406400),(1334,4379116676)])] a46 1 8
noncomputable def ga11_1S : S := (.fn a21 [])
theorem ga11_1 : runB (calM prog (nat) 60 ga11_1S ga11_1A ga11_1H) ga11_1V ga11_1R = true := by decide +kernel
noncomputable def natB11_1 : Cal := orC (oraC (Pth.of 17) [.s (.i .i64 ((symN + 0 : Nat) : Int)), .s (.i .i64 (.ofNat 30))] (.s (.i .i64 (.ofNat 11)))) (orC (oraC (Pth.of 17) [.s (.i .i64 ((symN + 1 : Nat) : Int)), .s (.i .i64 (.ofNat 268435456))] (.s (.i .i64 (.ofNat 18907912675552290406400)))) (orC (memS fa0S fa0A fa0H fa0V fa0R) (orC (memS fb3S fb3A fb3H fb3V fb3R) (orC (memS ga11_1S ga11_1A ga11_1H ga11_1V ga11_1R) (nat)))))
theorem bdg11_1 : valB (calM prog natB11_1 60 (.fn a6 []) (symA [.i64, .i64] 0) (heap0 tabL)) (.s (.b true)) = true := by decide +kernel
end Go.E
