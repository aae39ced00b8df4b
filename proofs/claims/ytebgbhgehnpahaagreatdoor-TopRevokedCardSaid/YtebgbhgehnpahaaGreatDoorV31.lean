/- A part of the proof of the claim that the last text of this folder states. -/
import Derived.Test.YtebgbhgehnpahaaGreatDoorV30
namespace Go.E
set_option linter.all false
set_option maxRecDepth 100000
noncomputable def ga0A : List V := [(.s (.p a45 0)),(.s (.i .i64 3)),(.s (.i .i64 2)),(.agg [(.i .u64 2),(.i .u64 32),(.i .u64 7),(.i .u64 0)]),(.s (.i .i64 1)),(.s z0)]
noncomputable def ga0H : Hp := hset fb3R [] a46 1 8
noncomputable def ga0V : V := (.s z0)
noncomputable def ga0R : Hp := hset ga0H [(a24,wB ga0H a24 [(1058,2),(1059,32),(1060,7),(1062,1),(1158,84411528),(1286,4298900744),(1288,234903556),(1290,4379116676)])] a46 1 8
noncomputable def ga0S : S := (.fn a21 [])
theorem ga0 : runB (calM prog (nat) 60 ga0S ga0A ga0H) ga0V ga0R = true := by decide +kernel
noncomputable def gb0A : List V := [(.s (.p a45 0)),(.s (.i .i64 3)),(.s (.i .i64 7)),(.agg [(.i .u64 2),(.i .u64 32),(.i .u64 0),(.i .u64 0)]),(.s z0),(.s z0)]
noncomputable def gb0H : Hp := hset fb3R [(a24,wB fb3R a24 [(1058,2),(1059,32),(1060,7),(1062,1),(1158,84411528),(1286,4298900744),(1288,234903556),(1290,4379116676)])] a46 1 8
noncomputable def gb0V : V := (.s z0)
noncomputable def gb0R : Hp := hset gb0H [(a24,wB gb0H a24 [(1060,0),(1062,0),(1158,84149384),(1286,4298900612),(1288,0),(1290,0)]),(a44,(.c [(.p a25 0),(.p a41 0),(.p a42 0),(.i .i64 1)]))] a46 1 8
noncomputable def gb0S : S := (.fn a21 [])
theorem gb0 : runB (calM prog (nat) 60 gb0S gb0A gb0H) gb0V gb0R = true := by decide +kernel
noncomputable def natV0 : Cal := orC (oraC (Pth.of 17) [.s (.i .i64 ((symN + 0 : Nat) : Int)), .s (.i .i64 (.ofNat 30))] (.s (.i .i64 (.ofNat 0)))) (orC (memS fa0S fa0A fa0H fa0V fa0R) (orC (memS fb3S fb3A fb3H fb3V fb3R) (orC (memS ga0S ga0A ga0H ga0V ga0R) (orC (memS gb0S gb0A gb0H gb0V gb0R) (nat)))))
theorem rev0 : valB (calM prog natV0 60 (.fn a7 []) (symA [.i64] 0) (heap0 tabL)) (.s (.b true)) = true := by decide +kernel
noncomputable def ga1A : List V := [(.s (.p a45 0)),(.s (.i .i64 3)),(.s (.i .i64 2)),(.agg [(.i .u64 3),(.i .u64 32),(.i .u64 7),(.i .u64 0)]),(.s (.i .i64 1)),(.s z0)]
noncomputable def ga1H : Hp := hset fb3R [] a46 1 8
noncomputable def ga1V : V := (.s z0)
noncomputable def ga1R : Hp := hset ga1H [(a24,wB ga1H a24 [(1058,3),(1059,32),(1060,7),(1062,1),(1158,84673672),(1286,4298900748),(1292,234903556),(1294,4379116676)])] a46 1 8
noncomputable def ga1S : S := (.fn a21 [])
theorem ga1 : runB (calM prog (nat) 60 ga1S ga1A ga1H) ga1V ga1R = true := by decide +kernel
noncomputable def gb1A : List V := [(.s (.p a45 0)),(.s (.i .i64 3)),(.s (.i .i64 7)),(.agg [(.i .u64 3),(.i .u64 32),(.i .u64 0),(.i .u64 0)]),(.s z0),(.s z0)]
noncomputable def gb1H : Hp := hset fb3R [(a24,wB fb3R a24 [(1058,3),(1059,32),(1060,7),(1062,1),(1158,84673672),(1286,4298900748),(1292,234903556),(1294,4379116676)])] a46 1 8
noncomputable def gb1V : V := (.s z0)
noncomputable def gb1R : Hp := hset gb1H [(a24,wB gb1H a24 [(1060,0),(1062,0),(1158,84149384),(1286,4298900612),(1292,0),(1294,0)]),(a44,(.c [(.p a25 0),(.p a41 0),(.p a42 0),(.i .i64 1)]))] a46 1 8
noncomputable def gb1S : S := (.fn a21 [])
theorem gb1 : runB (calM prog (nat) 60 gb1S gb1A gb1H) gb1V gb1R = true := by decide +kernel
noncomputable def natV1 : Cal := orC (oraC (Pth.of 17) [.s (.i .i64 ((symN + 0 : Nat) : Int)), .s (.i .i64 (.ofNat 30))] (.s (.i .i64 (.ofNat 1)))) (orC (memS fa0S fa0A fa0H fa0V fa0R) (orC (memS fb3S fb3A fb3H fb3V fb3R) (orC (memS ga1S ga1A ga1H ga1V ga1R) (orC (memS gb1S gb1A gb1H gb1V gb1R) (nat)))))
theorem rev1 : valB (calM prog natV1 60 (.fn a7 []) (symA [.i64] 0) (heap0 tabL)) (.s (.b true)) = true := by decide +kernel
end Go.E
