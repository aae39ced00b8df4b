/- A part of the proof of the claim that the last text of this folder states. -/
import Derived.Test.YtebgbhgehnpahaaGreatDoorV30
namespace Go.E
set_option linter.all false
set_option maxRecDepth 100000
noncomputable def ga24A : List V := [(.s (.p a45 0)),(.s (.i .i64 3)),(.s (.i .i64 2)),(.agg [(.i .u64 26),(.i .u64 32),(.i .u64 7),(.i .u64 0)]),(.s (.i .i64 1)),(.s z0)]
noncomputable def ga24H : Hp := hset fb3R [] a46 1 8
noncomputable def ga24V : V := (.s z0)
noncomputable def ga24R : Hp := hset ga24H [(a24,wB ga24H a24 [(1058,26),(1059,32),(1060,7),(1062,1),(1158,90702984),(1286,4298900840),(1384,234903556),(1386,4379116676)])] a46 1 8
noncomputable def ga24S : S := (.fn a21 [])
theorem ga24 : runB (calM prog (nat) 60 ga24S ga24A ga24H) ga24V ga24R = true := by decide +kernel
noncomputable def gb24A : List V := [(.s (.p a45 0)),(.s (.i .i64 3)),(.s (.i .i64 7)),(.agg [(.i .u64 26),(.i .u64 32),(.i .u64 0),(.i .u64 0)]),(.s z0),(.s z0)]
noncomputable def gb24H : Hp := hset fb3R [(a24,wB fb3R a24 [(1058,26),(1059,32),(1060,7),(1062,1),(1158,90702984),(1286,4298900840),(1384,234903556),(1386,4379116676)])] a46 1 8
noncomputable def gb24V : V := (.s z0)
noncomputable def gb24R : Hp := hset gb24H [(a24,wB gb24H a24 [(1060,0),(1062,0),(1158,84149384),(1286,4298900612),(1384,0),(1386,0)]),(a44,(.c [(.p a25 0),(.p a41 0),(.p a42 0),(.i .i64 1)]))] a46 1 8
noncomputable def gb24S : S := (.fn a21 [])
theorem gb24 : runB (calM prog (nat) 60 gb24S gb24A gb24H) gb24V gb24R = true := by decide +kernel
noncomputable def natV24 : Cal := orC (oraC (Pth.of 17) [.s (.i .i64 ((symN + 0 : Nat) : Int)), .s (.i .i64 (.ofNat 30))] (.s (.i .i64 (.ofNat 24)))) (orC (memS fa0S fa0A fa0H fa0V fa0R) (orC (memS fb3S fb3A fb3H fb3V fb3R) (orC (memS ga24S ga24A ga24H ga24V ga24R) (orC (memS gb24S gb24A gb24H gb24V gb24R) (nat)))))
theorem rev24 : valB (calM prog natV24 60 (.fn a7 []) (symA [.i64] 0) (heap0 tabL)) (.s (.b true)) = true := by decide +kernel
noncomputable def ga25A : List V := [(.s (.p a45 0)),(.s (.i .i64 3)),(.s (.i .i64 2)),(.agg [(.i .u64 27),(.i .u64 32),(.i .u64 7),(.i .u64 0)]),(.s (.i .i64 1)),(.s z0)]
noncomputable def ga25H : Hp := hset fb3R [] a46 1 8
noncomputable def ga25V : V := (.s z0)
noncomputable def ga25R : Hp := hset ga25H [(a24,wB ga25H a24 [(1058,27),(1059,32),(1060,7),(1062,1),(1158,90965128),(1286,4298900844),(1388,234903556),(1390,4379116676)])] a46 1 8
noncomputable def ga25S : S := (.fn a21 [])
theorem ga25 : runB (calM prog (nat) 60 ga25S ga25A ga25H) ga25V ga25R = true := by decide +kernel
noncomputable def gb25A : List V := [(.s (.p a45 0)),(.s (.i .i64 3)),(.s (.i .i64 7)),(.agg [(.i .u64 27),(.i .u64 32),(.i .u64 0),(.i .u64 0)]),(.s z0),(.s z0)]
noncomputable def gb25H : Hp := hset fb3R [(a24,wB fb3R a24 [(1058,27),(1059,32),(1060,7),(1062,1),(1158,90965128),(1286,4298900844),(1388,234903556),(1390,4379116676)])] a46 1 8
noncomputable def gb25V : V := (.s z0)
noncomputable def gb25R : Hp := hset gb25H [(a24,wB gb25H a24 [(1060,0),(1062,0),(1158,84149384),(1286,4298900612),(1388,0),(1390,0)]),(a44,(.c [(.p a25 0),(.p a41 0),(.p a42 0),(.i .i64 1)]))] a46 1 8
noncomputable def gb25S : S := (.fn a21 [])
theorem gb25 : runB (calM prog (nat) 60 gb25S gb25A gb25H) gb25V gb25R = true := by decide +kernel
noncomputable def natV25 : Cal := orC (oraC (Pth.of 17) [.s (.i .i64 ((symN + 0 : Nat) : Int)), .s (.i .i64 (.ofNat 30))] (.s (.i .i64 (.ofNat 25)))) (orC (memS fa0S fa0A fa0H fa0V fa0R) (orC (memS fb3S fb3A fb3H fb3V fb3R) (orC (memS ga25S ga25A ga25H ga25V ga25R) (orC (memS gb25S gb25A gb25H gb25V gb25R) (nat)))))
theorem rev25 : valB (calM prog natV25 60 (.fn a7 []) (symA [.i64] 0) (heap0 tabL)) (.s (.b true)) = true := by decide +kernel
end Go.E
