/- A part of the proof of the claim that the last text of this folder states. -/
import Derived.Test.YtebgbhgehnpahaaGreatDoorB31
namespace Go.E
set_option linter.all false
set_option maxRecDepth 100000
noncomputable def ga20_0A : List V := [(.s (.p a45 0)),(.s (.i .i64 3)),(.s (.i .i64 3)),(.agg [(.i .u64 22),(.i .u64 32),(.i .u64 7),(.i .u64 0)]),(.s (.i .i64 1)),(.s z0)]
noncomputable def ga20_0H : Hp := hset fb3R [] a46 1 8
noncomputable def ga20_0V : V := (.s z0)
noncomputable def ga20_0R : Hp := hset ga20_0H [(a24,wB ga20_0H a24 [(1058,22),(1059,32),(1060,7),(1062,1),(1158,89654408),(1286,4298900824),(1368,234903556),(1370,4379116676)])] a46 1 8
noncomputable def ga20_0S : S := (.fn a21 [])
theorem ga20_0 : runB (calM prog (nat) 60 ga20_0S ga20_0A ga20_0H) ga20_0V ga20_0R = true := by decide +kernel
noncomputable def natB20_0 : Cal := orC (oraC (Pth.of 17) [.s (.i .i64 ((symN + 0 : Nat) : Int)), .s (.i .i64 (.ofNat 30))] (.s (.i .i64 (.ofNat 20)))) (orC (oraC (Pth.of 17) [.s (.i .i64 ((symN + 1 : Nat) : Int)), .s (.i .i64 (.ofNat 268435456))] (.s (.i .i64 (.ofNat 0)))) (orC (memS fa0S fa0A fa0H fa0V fa0R) (orC (memS fb3S fb3A fb3H fb3V fb3R) (orC (memS ga20_0S ga20_0A ga20_0H ga20_0V ga20_0R) (nat)))))
theorem bdg20_0 : valB (calM prog natB20_0 60 (.fn a6 []) (symA [.i64, .i64] 0) (heap0 tabL)) (.s (.b true)) = true := by decide +kernel
noncomputable def ga20_1A : List V := [(.s (.p a45 0)),(.s (.i .i64 3)),(.s (.i .i64 3)),(.agg [(.i .u64 22),(.i .u64 32),(.i .u64 7),(.i .u64 18907912675552290406400)]),(.s (.i .i64 1)),(.s z0)]
noncomputable def ga20_1H : Hp := hset fb3R [] a46 1 8
noncomputable def ga20_1V : V := (.s z0)
noncomputable def ga20_1R : Hp := hset ga20_1H [(a24,wB ga20_1H a24 [(1058,22),(1059,32),(1060,7),(1061,18907912675552290406400),(1062,1),(1158,89654408),(1286,4298900824),(1368,234903556),(1369,18907912675552290406400),(1370,4379116676)])] a46 1 8
noncomputable def ga20_1S : S := (.fn a21 [])
theorem ga20_1 : runB (calM prog (nat) 60 ga20_1S ga20_1A ga20_1H) ga20_1V ga20_1R = true := by decide +kernel
noncomputable def natB20_1 : Cal := orC (oraC (Pth.of 17) [.s (.i .i64 ((symN + 0 : Nat) : Int)), .s (.i .i64 (.ofNat 30))] (.s (.i .i64 (.ofNat 20)))) (orC (oraC (Pth.of 17) [.s (.i .i64 ((symN + 1 : Nat) : Int)), .s (.i .i64 (.ofNat 268435456))] (.s (.i .i64 (.ofNat 18907912675552290406400)))) (orC (memS fa0S fa0A fa0H fa0V fa0R) (orC (memS fb3S fb3A fb3H fb3V fb3R) (orC (memS ga20_1S ga20_1A ga20_1H ga20_1V ga20_1R) (nat)))))
theorem bdg20_1 : valB (calM prog natB20_1 60 (.fn a6 []) (symA [.i64, .i64] 0) (heap0 tabL)) (.s (.b true)) = true := by decide +kernel
noncomputable def ga21_0A : List V := [(.s (.p a45 0)),(.s (.i .i64 3)),(.s (.i .i64 3)),(.agg [(.i .u64 23),(.i .u64 32),(.i .u64 7),(.i .u64 0)]),(.s (.i .i64 1)),(.s z0)]
noncomputable def ga21_0H : Hp := hset fb3R [] a46 1 8
noncomputable def ga21_0V : V := (.s z0)
noncomputable def ga21_0R : Hp := hset ga21_0H [(a24,wB ga21_0H a24 [(1058,23),(1059,32),(1060,7),(1062,1),(1158,89916552),(1286,4298900828),(1372,234903556),(1374,4379116676)])] a46 1 8
noncomputable def ga21_0S : S := (.fn a21 [])
theorem ga21_0 : runB (calM prog (nat) 60 ga21_0S ga21_0A ga21_0H) ga21_0V ga21_0R = true := by decide +kernel
noncomputable def natB21_0 : Cal := orC (oraC (Pth.of 17) [.s (.i .i64 ((symN + 0 : Nat) : Int)), .s (.i .i64 (.ofNat 30))] (.s (.i .i64 (.ofNat 21)))) (orC (oraC (Pth.of 17) [.s (.i .i64 ((symN + 1 : Nat) : Int)), .s (.i .i64 (.ofNat 268435456))] (.s (.i .i64 (.ofNat 0)))) (orC (memS fa0S fa0A fa0H fa0V fa0R) (orC (memS fb3S fb3A fb3H fb3V fb3R) (orC (memS ga21_0S ga21_0A ga21_0H ga21_0V ga21_0R) (nat)))))
theorem bdg21_0 : valB (calM prog natB21_0 60 (.fn a6 []) (symA [.i64, .i64] 0) (heap0 tabL)) (.s (.b true)) = true := by decide +kernel
noncomputable def ga21_1A : List V := [(.s (.p a45 0)),(.s (.i .i64 3)),(.s (.i .i64 3)),(.agg [(.i .u64 23),(.i .u64 32),(.i .u64 7),(.i .u64 18907912675552290406400)]),(.s (.i .i64 1)),(.s z0)]
noncomputable def ga21_1H : Hp := hset fb3R [] a46 1 8
noncomputable def ga21_1V : V := (.s z0)
noncomputable def ga21_1R : Hp := hset ga21_1H [(a24,wB ga21_1H a24 [(1058,23),(1059,32),(1060,7),(1061,18907912675552290406400),(1062,1),(1158,89916552),(1286,4298900828),(1372,234903556),(1373,18907912675552290406400),(1374,4379116676)])] a46 1 8
noncomputable def ga21_1S : S := (.fn a21 [])
theorem ga21_1 : runB (calM prog (nat) 60 ga21_1S ga21_1A ga21_1H) ga21_1V ga21_1R = true := by decide +kernel
noncomputable def natB21_1 : Cal := orC (oraC (Pth.of 17) [.s (.i .i64 ((symN + 0 : Nat) : Int)), .s (.i .i64 (.ofNat 30))] (.s (.i .i64 (.ofNat 21)))) (orC (oraC (Pth.of 17) [.s (.i .i64 ((symN + 1 : Nat) : Int)), .s (.i .i64 (.ofNat 268435456))] (.s (.i .i64 (.ofNat 18907912675552290406400)))) (orC (memS fa0S fa0A fa0H fa0V fa0R) (orC (memS fb3S fb3A fb3H fb3V fb3R) (orC (memS ga21_1S ga21_1A ga21_1H ga21_1V ga21_1R) (nat)))))
theorem bdg21_1 : valB (calM prog natB21_1 60 (.fn a6 []) (symA [.i64, .i64] 0) (heap0 tabL)) (.s (.b true)) = true := by decide +kernel
end Go.E
