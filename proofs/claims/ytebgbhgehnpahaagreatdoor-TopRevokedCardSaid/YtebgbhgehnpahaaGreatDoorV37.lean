/- A part of the proof of the claim that the last text of this folder states. -/
import Derived.Test.YtebgbhgehnpahaaGreatDoorV30
namespace Go.E
set_option linter.all false
set_option maxRecDepth 100000
noncomputable def ga12A : List V := [(.s (.p a45 0)),(.s (.i .i64 3)),(.s (.i .i64 2)),(.agg [(.i .u64 14),(.i .u64 32),(.i .u64 7),(.i .u64 0)]),(.s (.i .i64 1)),(.s z0)]
noncomputable def ga12H : Hp := hset fb3R [] a46 1 8
noncomputable def ga12V : V := (.s z0)
noncomputable def ga12R : Hp := hset ga12H [(a24,wB ga12H a24 [(1058,14),(1059,32),(1060,7),(1062,1),(1158,87557256),(1286,4298900792),(1336,234903556),(1338,4379116676)])] a46 1 8
noncomputable def ga12S : S := (.fn a21 [])
theorem ga12 : runB (calM prog (nat) 60 ga12S ga12A ga12H) ga12V ga12R = true := by decide +kernel
noncomputable def gb12A : List V := [(.s (.p a45 0)),(.s (.i .i64 3)),(.s (.i .i64 7)),(.agg [(.i .u64 14),(.i .u64 32),(.i .u64 0),(.i .u64 0)]),(.s z0),(.s z0)]
noncomputable def gb12H : Hp := hset fb3R [(a24,wB fb3R a24 [(1058,14),(1059,32),(1060,7),(1062,1),(1158,87557256),(1286,4298900792),(1336,234903556),(1338,4379116676)])] a46 1 8
noncomputable def gb12V : V := (.s z0)
noncomputable def gb12R : Hp := hset gb12H [(a24,wB gb12H a24 [(1060,0),(1062,0),(1158,84149384),(1286,4298900612),(1336,0),(1338,0)]),(a44,(.c [(.p a25 0),(.p a41 0),(.p a42 0),(.i .i64 1)]))] a46 1 8
noncomputable def gb12S : S := (.fn a21 [])
theorem gb12 : runB (calM prog (nat) 60 gb12S gb12A gb12H) gb12V gb12R = true := by decide +kernel
noncomputable def natV12 : Cal := orC (oraC (Pth.of 17) [.s (.i .i64 ((symN + 0 : Nat) : Int)), .s (.i .i64 (.ofNat 30))] (.s (.i .i64 (.ofNat 12)))) (orC (memS fa0S fa0A fa0H fa0V fa0R) (orC (memS fb3S fb3A fb3H fb3V fb3R) (orC (memS ga12S ga12A ga12H ga12V ga12R) (orC (memS gb12S gb12A gb12H gb12V gb12R) (nat)))))
theorem rev12 : valB (calM prog natV12 60 (.fn a7 []) (symA [.i64] 0) (heap0 tabL)) (.s (.b true)) = true := by decide +kernel
noncomputable def ga13A : List V := [(.s (.p a45 0)),(.s (.i .i64 3)),(.s (.i .i64 2)),(.agg [(.i .u64 15),(.i .u64 32),(.i .u64 7),(.i .u64 0)]),(.s (.i .i64 1)),(.s z0)]
noncomputable def ga13H : Hp := hset fb3R [] a46 1 8
noncomputable def ga13V : V := (.s z0)
noncomputable def ga13R : Hp := hset ga13H [(a24,wB ga13H a24 [(1058,15),(1059,32),(1060,7),(1062,1),(1158,87819400),(1286,4298900796),(1340,234903556),(1342,4379116676)])] a46 1 8
noncomputable def ga13S : S := (.fn a21 [])
theorem ga13 : runB (calM prog (nat) 60 ga13S ga13A ga13H) ga13V ga13R = true := by decide +kernel
noncomputable def gb13A : List V := [(.s (.p a45 0)),(.s (.i .i64 3)),(.s (.i .i64 7)),(.agg [(.i .u64 15),(.i .u64 32),(.i .u64 0),(.i .u64 0)]),(.s z0),(.s z0)]
noncomputable def gb13H : Hp := hset fb3R [(a24,wB fb3R a24 [(1058,15),(1059,32),(1060,7),(1062,1),(1158,87819400),(1286,4298900796),(1340,234903556),(1342,4379116676)])] a46 1 8
noncomputable def gb13V : V := (.s z0)
noncomputable def gb13R : Hp := hset gb13H [(a24,wB gb13H a24 [(1060,0),(1062,0),(1158,84149384),(1286,4298900612),(1340,0),(1342,0)]),(a44,(.c [(.p a25 0),(.p a41 0),(.p a42 0),(.i .i64 1)]))] a46 1 8
noncomputable def gb13S : S := (.fn a21 [])
theorem gb13 : runB (calM prog (nat) 60 gb13S gb13A gb13H) gb13V gb13R = true := by decide +kernel
noncomputable def natV13 : Cal := orC (oraC (Pth.of 17) [.s (.i .i64 ((symN + 0 : Nat) : Int)), .s (.i .i64 (.ofNat 30))] (.s (.i .i64 (.ofNat 13)))) (orC (memS fa0S fa0A fa0H fa0V fa0R) (orC (memS fb3S fb3A fb3H fb3V fb3R) (orC (memS ga13S ga13A ga13H ga13V ga13R) (orC (memS gb13S gb13A gb13H gb13V gb13R) (nat)))))
theorem rev13 : valB (calM prog natV13 60 (.fn a7 []) (symA [.i64] 0) (heap0 tabL)) (.s (.b true)) = true := by decide +kernel
end Go.E
