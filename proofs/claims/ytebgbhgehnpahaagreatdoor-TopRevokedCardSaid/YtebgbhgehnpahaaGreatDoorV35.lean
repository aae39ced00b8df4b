/- A part of the proof of the claim that the last text of this folder states. -/
import Derived.Test.YtebgbhgehnpahaaGreatDoorV30
namespace Go.E
set_option linter.all false
set_option maxRecDepth 100000
noncomputable def ga8A : List V := [(.s (.p a45 0)),(.s (.i .i64 3)),(.s (.i .i64 2)),(.agg [(.i .u64 10),(.i .u64 32),(.i .u64 7),(.i .u64 0)]),(.s (.i .i64 1)),(.s z0)]
noncomputable def ga8H : Hp := hset fb3R [] a46 1 8
noncomputable def ga8V : V := (.s z0)
noncomputable def ga8R : Hp := hset ga8H [(a24,wB ga8H a24 [(1058,10),(1059,32),(1060,7),(1062,1),(1158,86508680),(1286,4298900776),(1320,234903556),(1322,4379116676)])] a46 1 8
noncomputable def ga8S : S := (.fn a21 [])
theorem ga8 : runB (calM prog (nat) 60 ga8S ga8A ga8H) ga8V ga8R = true := by decide +kernel
noncomputable def gb8A : List V := [(.s (.p a45 0)),(.s (.i .i64 3)),(.s (.i .i64 7)),(.agg [(.i .u64 10),(.i .u64 32),(.i .u64 0),(.i .u64 0)]),(.s z0),(.s z0)]
noncomputable def gb8H : Hp := hset fb3R [(a24,wB fb3R a24 [(1058,10),(1059,32),(1060,7),(1062,1),(1158,86508680),(1286,4298900776),(1320,234903556),(1322,4379116676)])] a46 1 8
noncomputable def gb8V : V := (.s z0)
noncomputable def gb8R : Hp := hset gb8H [(a24,wB gb8H a24 [(1060,0),(1062,0),(1158,84149384),(1286,4298900612),(1320,0),(1322,0)]),(a44,(.c [(.p a25 0),(.p a41 0),(.p a42 0),(.i .i64 1)]))] a46 1 8
noncomputable def gb8S : S := (.fn a21 [])
theorem gb8 : runB (calM prog (nat) 60 gb8S gb8A gb8H) gb8V gb8R = true := by decide +kernel
noncomputable def natV8 : Cal := orC (oraC (Pth.of 17) [.s (.i .i64 ((symN + 0 : Nat) : Int)), .s (.i .i64 (.ofNat 30))] (.s (.i .i64 (.ofNat 8)))) (orC (memS fa0S fa0A fa0H fa0V fa0R) (orC (memS fb3S fb3A fb3H fb3V fb3R) (orC (memS ga8S ga8A ga8H ga8V ga8R) (orC (memS gb8S gb8A gb8H gb8V gb8R) (nat)))))
theorem rev8 : valB (calM prog natV8 60 (.fn a7 []) (symA [.i64] 0) (heap0 tabL)) (.s (.b true)) = true := by decide +kernel
noncomputable def ga9A : List V := [(.s (.p a45 0)),(.s (.i .i64 3)),(.s (.i .i64 2)),(.agg [(.i .u64 11),(.i .u64 32),(.i .u64 7),(.i .u64 0)]),(.s (.i .i64 1)),(.s z0)]
noncomputable def ga9H : Hp := hset fb3R [] a46 1 8
noncomputable def ga9V : V := (.s z0)
noncomputable def ga9R : Hp := hset ga9H [(a24,wB ga9H a24 [(1058,11),(1059,32),(1060,7),(1062,1),(1158,86770824),(1286,4298900780),(1324,234903556),(1326,4379116676)])] a46 1 8
noncomputable def ga9S : S := (.fn a21 [])
theorem ga9 : runB (calM prog (nat) 60 ga9S ga9A ga9H) ga9V ga9R = true := by decide +kernel
noncomputable def gb9A : List V := [(.s (.p a45 0)),(.s (.i .i64 3)),(.s (.i .i64 7)),(.agg [(.i .u64 11),(.i .u64 32),(.i .u64 0),(.i .u64 0)]),(.s z0),(.s z0)]
noncomputable def gb9H : Hp := hset fb3R [(a24,wB fb3R a24 [(1058,11),(1059,32),(1060,7),(1062,1),(1158,86770824),(1286,4298900780),(1324,234903556),(1326,4379116676)])] a46 1 8
noncomputable def gb9V : V := (.s z0)
noncomputable def gb9R : Hp := hset gb9H [(a24,wB gb9H a24 [(1060,0),(1062,0),(1158,84149384),(1286,4298900612),(1324,0),(1326,0)]),(a44,(.c [(.p a25 0),(.p a41 0),(.p a42 0),(.i .i64 1)]))] a46 1 8
noncomputable def gb9S : S := (.fn a21 [])
theorem gb9 : runB (calM prog (nat) 60 gb9S gb9A gb9H) gb9V gb9R = true := by decide +kernel
noncomputable def natV9 : Cal := orC (oraC (Pth.of 17) [.s (.i .i64 ((symN + 0 : Nat) : Int)), .s (.i .i64 (.ofNat 30))] (.s (.i .i64 (.ofNat 9)))) (orC (memS fa0S fa0A fa0H fa0V fa0R) (orC (memS fb3S fb3A fb3H fb3V fb3R) (orC (memS ga9S ga9A ga9H ga9V ga9R) (orC (memS gb9S gb9A gb9H gb9V gb9R) (nat)))))
theorem rev9 : valB (calM prog natV9 60 (.fn a7 []) (symA [.i64] 0) (heap0 tabL)) (.s (.b true)) = true := by decide +kernel
end Go.E
