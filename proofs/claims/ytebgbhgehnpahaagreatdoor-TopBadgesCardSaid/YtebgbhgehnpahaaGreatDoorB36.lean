/- A part of the proof of the claim that the last text of this folder states. -/
import Derived.Test.YtebgbhgehnpahaaGreatDoorB31
namespace Go.E
set_option linter.all false
set_option maxRecDepth 100000
noncomputable def ga8_0A : List V := [(.s (.p a45 0)),(.s (.i .i64 3)),(.s (.i .i64 3)),(.agg [(.i .u64 10),(.i .u64 32),(.i .u64 7),(.i .u64 0)]),(.s (.i .i64 1)),(.s z0)]
noncomputable def ga8_0H : Hp := hset fb3R [] a46 1 8
noncomputable def ga8_0V : V := (.s z0)
noncomputable def ga8_0R : Hp := hset ga8_0H [(a24,wB ga8_0H a24 [(1058,10),(1059,32),(1060,7),(1062,1),(1158,86508680),(1286,4298900776),(1320,234903556),(1322,4379116676)])] a46 1 8
noncomputable def ga8_0S : S := (.fn a21 [])
theorem ga8_0 : runB (calM prog (nat) 60 ga8_0S ga8_0A ga8_0H) ga8_0V ga8_0R = true := by decide +kernel
noncomputable def natB8_0 : Cal := orC (oraC (Pth.of 17) [.s (.i .i64 ((symN + 0 : Nat) : Int)), .s (.i .i64 (.ofNat 30))] (.s (.i .i64 (.ofNat 8)))) (orC (oraC (Pth.of 17) [.s (.i .i64 ((symN + 1 : Nat) : Int)), .s (.i .i64 (.ofNat 268435456))] (.s (.i .i64 (.ofNat 0)))) (orC (memS fa0S fa0A fa0H fa0V fa0R) (orC (memS fb3S fb3A fb3H fb3V fb3R) (orC (memS ga8_0S ga8_0A ga8_0H ga8_0V ga8_0R) (nat)))))
theorem bdg8_0 : valB (calM prog natB8_0 60 (.fn a6 []) (symA [.i64, .i64] 0) (heap0 tabL)) (.s (.b true)) = true := by decide +kernel
noncomputable def ga8_1A : List V := [(.s (.p a45 0)),(.s (.i .i64 3)),(.s (.i .i64 3)),(.agg [(.i .u64 10),(.i .u64 32),(.i .u64 7),(.i .u64 18907912675552290406400)]),(.s (.i .i64 1)),(.s z0)]
noncomputable def ga8_1H : Hp := hset fb3R [] a46 1 8
noncomputable def ga8_1V : V := (.s z0)
noncomputable def ga8_1R : Hp := hset ga8_1H [(a24,wB ga8_1H a24 [(1058,10),(1059,32),(1060,7),(1061,18907912675552290406400),(1062,1),(1158,86508680),(1286,4298900776),(1320,234903556),(1321,18907912675552290406400),(1322,4379116676)])] a46 1 8
noncomputable def ga8_1S : S := (.fn a21 [])
theorem ga8_1 : runB (calM prog (nat) 60 ga8_1S ga8_1A ga8_1H) ga8_1V ga8_1R = true := by decide +kernel
noncomputable def natB8_1 : Cal := orC (oraC (Pth.of 17) [.s (.i .i64 ((symN + 0 : Nat) : Int)), .s (.i .i64 (.ofNat 30))] (.s (.i .i64 (.ofNat 8)))) (orC (oraC (Pth.of 17) [.s (.i .i64 ((symN + 1 : Nat) : Int)), .s (.i .i64 (.ofNat 268435456))] (.s (.i .i64 (.ofNat 18907912675552290406400)))) (orC (memS fa0S fa0A fa0H fa0V fa0R) (orC (memS fb3S fb3A fb3H fb3V fb3R) (orC (memS ga8_1S ga8_1A ga8_1H ga8_1V ga8_1R) (nat)))))
theorem bdg8_1 : valB (calM prog natB8_1 60 (.fn a6 []) (symA [.i64, .i64] 0) (heap0 tabL)) (.s (.b true)) = true := by decide +kernel
noncomputable def ga9_0A : List V := [(.s (.p a45 0)),(.s (.i .i64 3)),(.s (.i .i64 3)),(.agg [(.i .u64 11),(.i .u64 32),(.i .u64 7),(.i .u64 0)]),(.s (.i .i64 1)),(.s z0)]
noncomputable def ga9_0H : Hp := hset fb3R [] a46 1 8
noncomputable def ga9_0V : V := (.s z0)
noncomputable def ga9_0R : Hp := hset ga9_0H [(a24,wB ga9_0H a24 [(1058,11),(1059,32),(1060,7),(1062,1),(1158,86770824),(1286,4298900780),(1324,234903556),(1326,4379116676)])] a46 1 8
noncomputable def ga9_0S : S := (.fn a21 [])
theorem ga9_0 : runB (calM prog (nat) 60 ga9_0S ga9_0A ga9_0H) ga9_0V ga9_0R = true := by decide +kernel
noncomputable def natB9_0 : Cal := orC (oraC (Pth.of 17) [.s (.i .i64 ((symN + 0 : Nat) : Int)), .s (.i .i64 (.ofNat 30))] (.s (.i .i64 (.ofNat 9)))) (orC (oraC (Pth.of 17) [.s (.i .i64 ((symN + 1 : Nat) : Int)), .s (.i .i64 (.ofNat 268435456))] (.s (.i .i64 (.ofNat 0)))) (orC (memS fa0S fa0A fa0H fa0V fa0R) (orC (memS fb3S fb3A fb3H fb3V fb3R) (orC (memS ga9_0S ga9_0A ga9_0H ga9_0V ga9_0R) (nat)))))
theorem bdg9_0 : valB (calM prog natB9_0 60 (.fn a6 []) (symA [.i64, .i64] 0) (heap0 tabL)) (.s (.b true)) = true := by decide +kernel
noncomputable def ga9_1A : List V := [(.s (.p a45 0)),(.s (.i .i64 3)),(.s (.i .i64 3)),(.agg [(.i .u64 11),(.i .u64 32),(.i .u64 7),(.i .u64 18907912675552290406400)]),(.s (.i .i64 1)),(.s z0)]
noncomputable def ga9_1H : Hp := hset fb3R [] a46 1 8
noncomputable def ga9_1V : V := (.s z0)
noncomputable def ga9_1R : Hp := hset ga9_1H [(a24,wB ga9_1H a24 [(1058,11),(1059,32),(1060,7),(1061,18907912675552290406400),(1062,1),(1158,86770824),(1286,4298900780),(1324,234903556),(1325,18907912675552290406400),(1326,4379116676)])] a46 1 8
noncomputable def ga9_1S : S := (.fn a21 [])
theorem ga9_1 : runB (calM prog (nat) 60 ga9_1S ga9_1A ga9_1H) ga9_1V ga9_1R = true := by decide +kernel
noncomputable def natB9_1 : Cal := orC (oraC (Pth.of 17) [.s (.i .i64 ((symN + 0 : Nat) : Int)), .s (.i .i64 (.ofNat 30))] (.s (.i .i64 (.ofNat 9)))) (orC (oraC (Pth.of 17) [.s (.i .i64 ((symN + 1 : Nat) : Int)), .s (.i .i64 (.ofNat 268435456))] (.s (.i .i64 (.ofNat 18907912675552290406400)))) (orC (memS fa0S fa0A fa0H fa0V fa0R) (orC (memS fb3S fb3A fb3H fb3V fb3R) (orC (memS ga9_1S ga9_1A ga9_1H ga9_1V ga9_1R) (nat)))))
theorem bdg9_1 : valB (calM prog natB9_1 60 (.fn a6 []) (symA [.i64, .i64] 0) (heap0 tabL)) (.s (.b true)) = true := by decide +kernel
end Go.E
