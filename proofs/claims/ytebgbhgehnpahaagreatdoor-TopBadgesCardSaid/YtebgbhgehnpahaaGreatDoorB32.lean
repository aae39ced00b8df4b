/- A part of the proof of the claim that the last text of this folder states. -/
import Derived.Test.YtebgbhgehnpahaaGreatDoorB31
namespace Go.E
set_option linter.all false
set_option maxRecDepth 100000
noncomputable def ga0_0A : List V := [(.s (.p a45 0)),(.s (.i .i64 3)),(.s (.i .i64 3)),(.agg [(.i .u64 2),(.i .u64 32),(.i .u64 7),(.i .u64 0)]),(.s (.i .i64 1)),(.s z0)]
noncomputable def ga0_0H : Hp := hset fb3R [] a46 1 8
noncomputable def ga0_0V : V := (.s z0)
noncomputable def ga0_0R : Hp := hset ga0_0H [(a24,wB ga0_0H a24 [(1058,2),(1059,32),(1060,7),(1062,1),(1158,84411528),(1286,4298900744),(1288,234903556),(1290,4379116676)])] a46 1 8
noncomputable def ga0_0S : S := (.fn a21 [])
theorem ga0_0 : runB (calM prog (nat) 60 ga0_0S ga0_0A ga0_0H) ga0_0V ga0_0R = true := by decide +kernel
noncomputable def natB0_0 : Cal := orC (oraC (Pth.of 17) [.s (.i .i64 ((symN + 0 : Nat) : Int)), .s (.i .i64 (.ofNat 30))] (.s (.i .i64 (.ofNat 0)))) (orC (oraC (Pth.of 17) [.s (.i .i64 ((symN + 1 : Nat) : Int)), .s (.i .i64 (.ofNat 268435456))] (.s (.i .i64 (.ofNat 0)))) (orC (memS fa0S fa0A fa0H fa0V fa0R) (orC (memS fb3S fb3A fb3H fb3V fb3R) (orC (memS ga0_0S ga0_0A ga0_0H ga0_0V ga0_0R) (nat)))))
theorem bdg0_0 : valB (calM prog natB0_0 60 (.fn a6 []) (symA [.i64, .i64] 0) (heap0 tabL)) (.s (.b true)) = true := by decide +kernel
noncomputable def ga0_1A : List V := [(.s (.p a45 0)),(.s (.i .i64 3)),(.s (.i .i64 3)),(.agg [(.i .u64 2),(.i .u64 32),(.i .u64 7),(.i .u64 18907912675552290406400)]),(.s (.i .i64 1)),(.s z0)]
noncomputable def ga0_1H : Hp := hset fb3R [] a46 1 8
noncomputable def ga0_1V : V := (.s z0)
noncomputable def ga0_1R : Hp := hset ga0_1H [(a24,wB ga0_1H a24 [(1058,2),(1059,32),(1060,7),(1061,18907912675552290406400),(1062,1),(1158,84411528),(1286,4298900744),(1288,234903556),(1289,18907912675552290406400),(1290,4379116676)])] a46 1 8
noncomputable def ga0_1S : S := (.fn a21 [])
theorem ga0_1 : runB (calM prog (nat) 60 ga0_1S ga0_1A ga0_1H) ga0_1V ga0_1R = true := by decide +kernel
noncomputable def natB0_1 : Cal := orC (oraC (Pth.of 17) [.s (.i .i64 ((symN + 0 : Nat) : Int)), .s (.i .i64 (.ofNat 30))] (.s (.i .i64 (.ofNat 0)))) (orC (oraC (Pth.of 17) [.s (.i .i64 ((symN + 1 : Nat) : Int)), .s (.i .i64 (.ofNat 268435456))] (.s (.i .i64 (.ofNat 18907912675552290406400)))) (orC (memS fa0S fa0A fa0H fa0V fa0R) (orC (memS fb3S fb3A fb3H fb3V fb3R) (orC (memS ga0_1S ga0_1A ga0_1H ga0_1V ga0_1R) (nat)))))
theorem bdg0_1 : valB (calM prog natB0_1 60 (.fn a6 []) (symA [.i64, .i64] 0) (heap0 tabL)) (.s (.b true)) = true := by decide +kernel
noncomputable def ga1_0A : List V := [(.s (.p a45 0)),(.s (.i .i64 3)),(.s (.i .i64 3)),(.agg [(.i .u64 3),(.i .u64 32),(.i .u64 7),(.i .u64 0)]),(.s (.i .i64 1)),(.s z0)]
noncomputable def ga1_0H : Hp := hset fb3R [] a46 1 8
noncomputable def ga1_0V : V := (.s z0)
noncomputable def ga1_0R : Hp := hset ga1_0H [(a24,wB ga1_0H a24 [(1058,3),(1059,32),(1060,7),(1062,1),(1158,84673672),(1286,4298900748),(1292,234903556),(1294,4379116676)])] a46 1 8
noncomputable def ga1_0S : S := (.fn a21 [])
theorem ga1_0 : runB (calM prog (nat) 60 ga1_0S ga1_0A ga1_0H) ga1_0V ga1_0R = true := by decide +kernel
noncomputable def natB1_0 : Cal := orC (oraC (Pth.of 17) [.s (.i .i64 ((symN + 0 : Nat) : Int)), .s (.i .i64 (.ofNat 30))] (.s (.i .i64 (.ofNat 1)))) (orC (oraC (Pth.of 17) [.s (.i .i64 ((symN + 1 : Nat) : Int)), .s (.i .i64 (.ofNat 268435456))] (.s (.i .i64 (.ofNat 0)))) (orC (memS fa0S fa0A fa0H fa0V fa0R) (orC (memS fb3S fb3A fb3H fb3V fb3R) (orC (memS ga1_0S ga1_0A ga1_0H ga1_0V ga1_0R) (nat)))))
theorem bdg1_0 : valB (calM prog natB1_0 60 (.fn a6 []) (symA [.i64, .i64] 0) (heap0 tabL)) (.s (.b true)) = true := by decide +kernel
noncomputable def ga1_1A : List V := [(.s (.p a45 0)),(.s (.i .i64 3)),(.s (.i .i64 3)),(.agg [(.i .u64 3),(.i .u64 32),(.i .u64 7),(.i .u64 18907912675552290406400)]),(.s (.i .i64 1)),(.s z0)]
noncomputable def ga1_1H : Hp := hset fb3R [] a46 1 8
noncomputable def ga1_1V : V := (.s z0)
noncomputable def ga1_1R : Hp := hset ga1_1H [(a24,wB ga1_1H a24 [(1058,3),(1059,32),(1060,7),(1061,18907912675552290406400),(1062,1),(1158,84673672),(1286,4298900748),(1292,234903556),(1293,18907912675552290406400),(1294,4379116676)])] a46 1 8
noncomputable def ga1_1S : S := (.fn a21 [])
theorem ga1_1 : runB (calM prog (nat) 60 ga1_1S ga1_1A ga1_1H) ga1_1V ga1_1R = true := by decide +kernel
noncomputable def natB1_1 : Cal := orC (oraC (Pth.of 17) [.s (.i .i64 ((symN + 0 : Nat) : Int)), .s (.i .i64 (.ofNat 30))] (.s (.i .i64 (.ofNat 1)))) (orC (oraC (Pth.of 17) [.s (.i .i64 ((symN + 1 : Nat) : Int)), .s (.i .i64 (.ofNat 268435456))] (.s (.i .i64 (.ofNat 18907912675552290406400)))) (orC (memS fa0S fa0A fa0H fa0V fa0R) (orC (memS fb3S fb3A fb3H fb3V fb3R) (orC (memS ga1_1S ga1_1A ga1_1H ga1_1V ga1_1R) (nat)))))
theorem bdg1_1 : valB (calM prog natB1_1 60 (.fn a6 []) (symA [.i64, .i64] 0) (heap0 tabL)) (.s (.b true)) = true := by decide +kernel
end Go.E
