/- A part of the proof of the claim that the last text of this folder states. -/
import Derived.Test.YtebgbhgehnpahaaGreatDoorB31
namespace Go.E
set_option linter.all false
set_option maxRecDepth 100000
noncomputable def ga4_0A : List V := [(.s (.p a45 0)),(.s (.i .i64 3)),(.s (.i .i64 3)),(.agg [(.i .u64 6),(.i .u64 32),(.i .u64 7),(.i .u64 0)]),(.s (.i .i64 1)),(.s z0)]
noncomputable def ga4_0H : Hp := hset fb3R [] a46 1 8
noncomputable def ga4_0V : V := (.s z0)
noncomputable def ga4_0R : Hp := hset ga4_0H [(a24,wB ga4_0H a24 [(1058,6),(1059,32),(1060,7),(1062,1),(1158,85460104),(1286,4298900760),(1304,234903556),(1306,4379116676)])] a46 1 8
noncomputable def ga4_0S : S := (.fn a21 [])
theorem ga4_0 : runB (calM prog (nat) 60 ga4_0S ga4_0A ga4_0H) ga4_0V ga4_0R = true := by decide +kernel
noncomputable def natB4_0 : Cal := orC (oraC (Pth.of 17) [.s (.i .i64 ((symN + 0 : Nat) : Int)), .s (.i .i64 (.ofNat 30))] (.s (.i .i64 (.ofNat 4)))) (orC (oraC (Pth.of 17) [.s (.i .i64 ((symN + 1 : Nat) : Int)), .s (.i .i64 (.ofNat 268435456))] (.s (.i .i64 (.ofNat 0)))) (orC (memS fa0S fa0A fa0H fa0V fa0R) (orC (memS fb3S fb3A fb3H fb3V fb3R) (orC (memS ga4_0S ga4_0A ga4_0H ga4_0V ga4_0R) (nat)))))
theorem bdg4_0 : valB (calM prog natB4_0 60 (.fn a6 []) (symA [.i64, .i64] 0) (heap0 tabL)) (.s (.b true)) = true := by decide +kernel
noncomputable def ga4_1A : List V := [(.s (.p a45 0)),(.s (.i .i64 3)),(.s (.i .i64 3)),(.agg [(.i .u64 6),(.i .u64 32),(.i .u64 7),(.i .u64 18907912675552290406400)]),(.s (.i .i64 1)),(.s z0)]
noncomputable def ga4_1H : Hp := hset fb3R [] a46 1 8
noncomputable def ga4_1V : V := (.s z0)
noncomputable def ga4_1R : Hp := hset ga4_1H [(a24,wB ga4_1H a24 [(1058,6),(1059,32),(1060,7),(1061,18907912675552290406400),(1062,1),(1158,85460104),(1286,4298900760),(1304,234903556),(1305,18907912675552290406400),(1306,4379116676)])] a46 1 8
noncomputable def ga4_1S : S := (.fn a21 [])
theorem ga4_1 : runB (calM prog (nat) 60 ga4_1S ga4_1A ga4_1H) ga4_1V ga4_1R = true := by decide +kernel
noncomputable def natB4_1 : Cal := orC (oraC (Pth.of 17) [.s (.i .i64 ((symN + 0 : Nat) : Int)), .s (.i .i64 (.ofNat 30))] (.s (.i .i64 (.ofNat 4)))) (orC (oraC (Pth.of 17) [.s (.i .i64 ((symN + 1 : Nat) : Int)), .s (.i .i64 (.ofNat 268435456))] (.s (.i .i64 (.ofNat 18907912675552290406400)))) (orC (memS fa0S fa0A fa0H fa0V fa0R) (orC (memS fb3S fb3A fb3H fb3V fb3R) (orC (memS ga4_1S ga4_1A ga4_1H ga4_1V ga4_1R) (nat)))))
theorem bdg4_1 : valB (calM prog natB4_1 60 (.fn a6 []) (symA [.i64, .i64] 0) (heap0 tabL)) (.s (.b true)) = true := by decide +kernel
noncomputable def ga5_0A : List V := [(.s (.p a45 0)),(.s (.i .i64 3)),(.s (.i .i64 3)),(.agg [(.i .u64 7),(.i .u64 32),(.i .u64 7),(.i .u64 0)]),(.s (.i .i64 1)),(.s z0)]
noncomputable def ga5_0H : Hp := hset fb3R [] a46 1 8
noncomputable def ga5_0V : V := (.s z0)
noncomputable def ga5_0R : Hp := hset ga5_0H [(a24,wB ga5_0H a24 [(1058,7),(1059,32),(1060,7),(1062,1),(1158,85722248),(1286,4298900764),(1308,234903556),(1310,4379116676)])] a46 1 8
noncomputable def ga5_0S : S := (.fn a21 [])
theorem ga5_0 : runB (calM prog (nat) 60 ga5_0S ga5_0A ga5_0H) ga5_0V ga5_0R = true := by decide +kernel
noncomputable def natB5_0 : Cal := orC (oraC (Pth.of 17) [.s (.i .i64 ((symN + 0 : Nat) : Int)), .s (.i .i64 (.ofNat 30))] (.s (.i .i64 (.ofNat 5)))) (orC (oraC (Pth.of 17) [.s (.i .i64 ((symN + 1 : Nat) : Int)), .s (.i .i64 (.ofNat 268435456))] (.s (.i .i64 (.ofNat 0)))) (orC (memS fa0S fa0A fa0H fa0V fa0R) (orC (memS fb3S fb3A fb3H fb3V fb3R) (orC (memS ga5_0S ga5_0A ga5_0H ga5_0V ga5_0R) (nat)))))
theorem bdg5_0 : valB (calM prog natB5_0 60 (.fn a6 []) (symA [.i64, .i64] 0) (heap0 tabL)) (.s (.b true)) = true := by decide +kernel
noncomputable def ga5_1A : List V := [(.s (.p a45 0)),(.s (.i .i64 3)),(.s (.i .i64 3)),(.agg [(.i .u64 7),(.i .u64 32),(.i .u64 7),(.i .u64 18907912675552290406400)]),(.s (.i .i64 1)),(.s z0)]
noncomputable def ga5_1H : Hp := hset fb3R [] a46 1 8
noncomputable def ga5_1V : V := (.s z0)
noncomputable def ga5_1R : Hp := hset ga5_1H [(a24,wB ga5_1H a24 [(1058,7),(1059,32),(1060,7),(1061,18907912675552290406400),(1062,1),(1158,85722248),(1286,4298900764),(1308,234903556),(1309,18907912675552290406400),(1310,4379116676)])] a46 1 8
noncomputable def ga5_1S : S := (.fn a21 [])
theorem ga5_1 : runB (calM prog (nat) 60 ga5_1S ga5_1A ga5_1H) ga5_1V ga5_1R = true := by decide +kernel
noncomputable def natB5_1 : Cal := orC (oraC (Pth.of 17) [.s (.i .i64 ((symN + 0 : Nat) : Int)), .s (.i .i64 (.ofNat 30))] (.s (.i .i64 (.ofNat 5)))) (orC (oraC (Pth.of 17) [.s (.i .i64 ((symN + 1 : Nat) : Int)), .s (.i .i64 (.ofNat 268435456))] (.s (.i .i64 (.ofNat 18907912675552290406400)))) (orC (memS fa0S fa0A fa0H fa0V fa0R) (orC (memS fb3S fb3A fb3H fb3V fb3R) (orC (memS ga5_1S ga5_1A ga5_1H ga5_1V ga5_1R) (nat)))))
theorem bdg5_1 : valB (calM prog natB5_1 60 (.fn a6 []) (symA [.i64, .i64] 0) (heap0 tabL)) (.s (.b true)) = true := by decide +kernel
end Go.E
