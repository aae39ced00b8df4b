/- A part of the proof of the claim that the last text of this folder states. -/
import Derived.Test.YtebgbhgehnpahaaGreatDoorV30
namespace Go.E
set_option linter.all false
set_option maxRecDepth 100000
noncomputable def ga18A : List V := [(.s (.p a45 0)),(.s (.i .i64 3)),(.s (.i .i64 2)),(.agg [(.i .u64 20),(.i .u64 32),(.i .u64 7),(.i .u64 0)]),(.s (.i .i64 1)),(.s z0)]
noncomputable def ga18H : Hp := hset fb3R [] a46 1 8
noncomputable def ga18V : V := (.s z0)
noncomputable def ga18R : Hp := hset ga18H [(a24,wB ga18H a24 [(1058,20),(1059,32),(1060,7),(1062,1),(1158,89130120),(1286,4298900816),(1360,234903556),(1362,4379116676)])] a46 1 8
noncomputable def ga18S : S := (.fn a21 [])
theorem ga18 : runB (calM prog (nat) 60 ga18S ga18A ga18H) ga18V ga18R = true := by decide +kernel
noncomputable def gb18A : List V := [(.s (.p a45 0)),(.s (.i .i64 3)),(.s (.i .i64 7)),(.agg [(.i .u64 20),(.i .u64 32),(.i .u64 0),(.i .u64 0)]),(.s z0),(.s z0)]
noncomputable def gb18H : Hp := hset fb3R [(a24,wB fb3R a24 [(1058,20),(1059,32),(1060,7),(1062,1),(1158,89130120),(1286,4298900816),(1360,234903556),(1362,4379116676)])] a46 1 8
noncomputable def gb18V : V := (.s z0)
noncomputable def gb18R : Hp := hset gb18H [(a24,wB gb18H a24 [(1060,0),(1062,0),(1158,84149384),(1286,4298900612),(1360,0),(1362,0)]),(a44,(.c [(.p a25 0),(.p a41 0),(.p a42 0),(.i .i64 1)]))] a46 1 8
noncomputable def gb18S : S := (.fn a21 [])
theorem gb18 : runB (calM prog (nat) 60 gb18S gb18A gb18H) gb18V gb18R = true := by decide +kernel
noncomputable def natV18 : Cal := orC (oraC (Pth.of 17) [.s (.i .i64 ((symN + 0 : Nat) : Int)), .s (.i .i64 (.ofNat 30))] (.s (.i .i64 (.ofNat 18)))) (orC (memS fa0S fa0A fa0H fa0V fa0R) (orC (memS fb3S fb3A fb3H fb3V fb3R) (orC (memS ga18S ga18A ga18H ga18V ga18R) (orC (memS gb18S gb18A gb18H gb18V gb18R) (nat)))))
theorem rev18 : valB (calM prog natV18 60 (.fn a7 []) (symA [.i64] 0) (heap0 tabL)) (.s (.b true)) = true := by decide +kernel
noncomputable def ga19A : List V := [(.s (.p a45 0)),(.s (.i .i64 3)),(.s (.i .i64 2)),(.agg [(.i .u64 21),(.i .u64 32),(.i .u64 7),(.i .u64 0)]),(.s (.i .i64 1)),(.s z0)]
noncomputable def ga19H : Hp := hset fb3R [] a46 1 8
noncomputable def ga19V : V := (.s z0)
noncomputable def ga19R : Hp := hset ga19H [(a24,wB ga19H a24 [(1058,21),(1059,32),(1060,7),(1062,1),(1158,89392264),(1286,4298900820),(1364,234903556),(1366,4379116676)])] a46 1 8
noncomputable def ga19S : S := (.fn a21 [])
theorem ga19 : runB (calM prog (nat) 60 ga19S ga19A ga19H) ga19V ga19R = true := by decide +kernel
noncomputable def gb19A : List V := [(.s (.p a45 0)),(.s (.i .i64 3)),(.s (.i .i64 7)),(.agg [(.i .u64 21),(.i .u64 32),(.i .u64 0),(.i .u64 0)]),(.s z0),(.s z0)]
noncomputable def gb19H : Hp := hset fb3R [(a24,wB fb3R a24 [(1058,21),(1059,32),(1060,7),(1062,1),(1158,89392264),(1286,4298900820),(1364,234903556),(1366,4379116676)])] a46 1 8
noncomputable def gb19V : V := (.s z0)
noncomputable def gb19R : Hp := hset gb19H [(a24,wB gb19H a24 [(1060,0),(1062,0),(1158,84149384),(1286,4298900612),(1364,0),(1366,0)]),(a44,(.c [(.p a25 0),(.p a41 0),(.p a42 0),(.i .i64 1)]))] a46 1 8
noncomputable def gb19S : S := (.fn a21 [])
theorem gb19 : runB (calM prog (nat) 60 gb19S gb19A gb19H) gb19V gb19R = true := by decide +kernel
noncomputable def natV19 : Cal := orC (oraC (Pth.of 17) [.s (.i .i64 ((symN + 0 : Nat) : Int)), .s (.i .i64 (.ofNat 30))] (.s (.i .i64 (.ofNat 19)))) (orC (memS fa0S fa0A fa0H fa0V fa0R) (orC (memS fb3S fb3A fb3H fb3V fb3R) (orC (memS ga19S ga19A ga19H ga19V ga19R) (orC (memS gb19S gb19A gb19H gb19V gb19R) (nat)))))
theorem rev19 : valB (calM prog natV19 60 (.fn a7 []) (symA [.i64] 0) (heap0 tabL)) (.s (.b true)) = true := by decide +kernel
end Go.E
