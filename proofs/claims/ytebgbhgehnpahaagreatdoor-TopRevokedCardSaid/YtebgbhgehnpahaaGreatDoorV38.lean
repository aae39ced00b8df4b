/- A part of the proof of the claim that the last text of this folder states. -/
import Derived.Test.YtebgbhgehnpahaaGreatDoorV30
namespace Go.E
set_option linter.all false
set_option maxRecDepth 100000
noncomputable def ga14A : List V := [(.s (.p a45 0)),(.s (.i .i64 3)),(.s (.i .i64 2)),(.agg [(.i .u64 16),(.i .u64 32),(.i .u64 7),(.i .u64 0)]),(.s (.i .i64 1)),(.s z0)]
noncomputable def ga14H : Hp := hset fb3R [] a46 1 8
noncomputable def ga14V : V := (.s z0)
noncomputable def ga14R : Hp := hset ga14H [(a24,wB ga14H a24 [(1058,16),(1059,32),(1060,7),(1062,1),(1158,88081544),(1286,4298900800),(1344,234903556),(1346,4379116676)])] a46 1 8
noncomputable def ga14S : S := (.fn a21 [])
theorem ga14 : runB (calM prog (nat) 60 ga14S ga14A ga14H) ga14V ga14R = true := by decide +kernel
noncomputable def gb14A : List V := [(.s (.p a45 0)),(.s (.i .i64 3)),(.s (.i .i64 7)),(.agg [(.i .u64 16),(.i .u64 32),(.i .u64 0),(.i .u64 0)]),(.s z0),(.s z0)]
noncomputable def gb14H : Hp := hset fb3R [(a24,wB fb3R a24 [(1058,16),(1059,32),(1060,7),(1062,1),(1158,88081544),(1286,4298900800),(1344,234903556),(1346,4379116676)])] a46 1 8
noncomputable def gb14V : V := (.s z0)
noncomputable def gb14R : Hp := hset gb14H [(a24,wB gb14H a24 [(1060,0),(1062,0),(1158,84149384),(1286,4298900612),(1344,0),(1346,0)]),(a44,(.c [(.p a25 0),(.p a41 0),(.p a42 0),(.i .i64 1)]))] a46 1 8
noncomputable def gb14S : S := (.fn a21 [])
theorem gb14 : runB (calM prog (nat) 60 gb14S gb14A gb14H) gb14V gb14R = true := by decide +kernel
noncomputable def natV14 : Cal := orC (oraC (Pth.of 17) [.s (.i .i64 ((symN + 0 : Nat) : Int)), .s (.i .i64 (.ofNat 30))] (.s (.i .i64 (.ofNat 14)))) (orC (memS fa0S fa0A fa0H fa0V fa0R) (orC (memS fb3S fb3A fb3H fb3V fb3R) (orC (memS ga14S ga14A ga14H ga14V ga14R) (orC (memS gb14S gb14A gb14H gb14V gb14R) (nat)))))
theorem rev14 : valB (calM prog natV14 60 (.fn a7 []) (symA [.i64] 0) (heap0 tabL)) (.s (.b true)) = true := by decide +kernel
noncomputable def ga15A : List V := [(.s (.p a45 0)),(.s (.i .i64 3)),(.s (.i .i64 2)),(.agg [(.i .u64 17),(.i .u64 32),(.i .u64 7),(.i .u64 0)]),(.s (.i .i64 1)),(.s z0)]
noncomputable def ga15H : Hp := hset fb3R [] a46 1 8
noncomputable def ga15V : V := (.s z0)
noncomputable def ga15R : Hp := hset ga15H [(a24,wB ga15H a24 [(1058,17),(1059,32),(1060,7),(1062,1),(1158,88343688),(1286,4298900804),(1348,234903556),(1350,4379116676)])] a46 1 8
noncomputable def ga15S : S := (.fn a21 [])
theorem ga15 : runB (calM prog (nat) 60 ga15S ga15A ga15H) ga15V ga15R = true := by decide +kernel
noncomputable def gb15A : List V := [(.s (.p a45 0)),(.s (.i .i64 3)),(.s (.i .i64 7)),(.agg [(.i .u64 17),(.i .u64 32),(.i .u64 0),(.i .u64 0)]),(.s z0),(.s z0)]
noncomputable def gb15H : Hp := hset fb3R [(a24,wB fb3R a24 [(1058,17),(1059,32),(1060,7),(1062,1),(1158,88343688),(1286,4298900804),(1348,234903556),(1350,4379116676)])] a46 1 8
noncomputable def gb15V : V := (.s z0)
noncomputable def gb15R : Hp := hset gb15H [(a24,wB gb15H a24 [(1060,0),(1062,0),(1158,84149384),(1286,4298900612),(1348,0),(1350,0)]),(a44,(.c [(.p a25 0),(.p a41 0),(.p a42 0),(.i .i64 1)]))] a46 1 8
noncomputable def gb15S : S := (.fn a21 [])
theorem gb15 : runB (calM prog (nat) 60 gb15S gb15A gb15H) gb15V gb15R = true := by decide +kernel
noncomputable def natV15 : Cal := orC (oraC (Pth.of 17) [.s (.i .i64 ((symN + 0 : Nat) : Int)), .s (.i .i64 (.ofNat 30))] (.s (.i .i64 (.ofNat 15)))) (orC (memS fa0S fa0A fa0H fa0V fa0R) (orC (memS fb3S fb3A fb3H fb3V fb3R) (orC (memS ga15S ga15A ga15H ga15V ga15R) (orC (memS gb15S gb15A gb15H gb15V gb15R) (nat)))))
theorem rev15 : valB (calM prog natV15 60 (.fn a7 []) (symA [.i64] 0) (heap0 tabL)) (.s (.b true)) = true := by decide +kernel
end Go.E
