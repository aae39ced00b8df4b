/- A part of the proof of the claim that the last text of this folder states. -/
import Derived.Test.YtebgbhgehnpahaaGreatDoorV30
namespace Go.E
set_option linter.all false
set_option maxRecDepth 100000
noncomputable def ga10A : List V := [(.s (.p a45 0)),(.s (.i .i64 3)),(.s (.i .i64 2)),(.agg [(.i .u64 12),(.i .u64 32),(.i .u64 7),(.i .u64 0)]),(.s (.i .i64 1)),(.s z0)]
noncomputable def ga10H : Hp := hset fb3R [] a46 1 8
noncomputable def ga10V : V := (.s z0)
noncomputable def ga10R : Hp := hset ga10H [(a24,wB ga10H a24 [(1058,12),(1059,32),(1060,7),(1062,1),(1158,87032968),(1286,4298900784),(1328,234903556),(1330,4379116676)])] a46 1 8
noncomputable def ga10S : S := (.fn a21 [])
theorem ga10 : runB (calM prog (nat) 60 ga10S ga10A ga10H) ga10V ga10R = true := by decide +kernel
noncomputable def gb10A : List V := [(.s (.p a45 0)),(.s (.i .i64 3)),(.s (.i .i64 7)),(.agg [(.i .u64 12),(.i .u64 32),(.i .u64 0),(.i .u64 0)]),(.s z0),(.s z0)]
noncomputable def gb10H : Hp := hset fb3R [(a24,wB fb3R a24 [(1058,12),(1059,32),(1060,7),(1062,1),(1158,87032968),(1286,4298900784),(1328,234903556),(1330,4379116676)])] a46 1 8
noncomputable def gb10V : V := (.s z0)
noncomputable def gb10R : Hp := hset gb10H [(a24,wB gb10H a24 [(1060,0),(1062,0),(1158,84149384),(1286,4298900612),(1328,0),(1330,0)]),(a44,(.c [(.p a25 0),(.p a41 0),(.p a42 0),(.i .i64 1)]))] a46 1 8
noncomputable def gb10S : S := (.fn a21 [])
theorem gb10 : runB (calM prog (nat) 60 gb10S gb10A gb10H) gb10V gb10R = true := by decide +kernel
noncomputable def natV10 : Cal := orC (oraC (Pth.of 17) [.s (.i .i64 ((symN + 0 : Nat) : Int)), .s (.i .i64 (.ofNat 30))] (.s (.i .i64 (.ofNat 10)))) (orC (memS fa0S fa0A fa0H fa0V fa0R) (orC (memS fb3S fb3A fb3H fb3V fb3R) (orC (memS ga10S ga10A ga10H ga10V ga10R) (orC (memS gb10S gb10A gb10H gb10V gb10R) (nat)))))
theorem rev10 : valB (calM prog natV10 60 (.fn a7 []) (symA [.i64] 0) (heap0 tabL)) (.s (.b true)) = true := by decide +kernel
noncomputable def ga11A : List V := [(.s (.p a45 0)),(.s (.i .i64 3)),(.s (.i .i64 2)),(.agg [(.i .u64 13),(.i .u64 32),(.i .u64 7),(.i .u64 0)]),(.s (.i .i64 1)),(.s z0)]
noncomputable def ga11H : Hp := hset fb3R [] a46 1 8
noncomputable def ga11V : V := (.s z0)
noncomputable def ga11R : Hp := hset ga11H [(a24,wB ga11H a24 [(1058,13),(1059,32),(1060,7),(1062,1),(1158,87295112),(1286,4298900788),(1332,234903556),(1334,4379116676)])] a46 1 8
noncomputable def ga11S : S := (.fn a21 [])
theorem ga11 : runB (calM prog (nat) 60 ga11S ga11A ga11H) ga11V ga11R = true := by decide +kernel
noncomputable def gb11A : List V := [(.s (.p a45 0)),(.s (.i .i64 3)),(.s (.i .i64 7)),(.agg [(.i .u64 13),(.i .u64 32),(.i .u64 0),(.i .u64 0)]),(.s z0),(.s z0)]
noncomputable def gb11H : Hp := hset fb3R [(a24,wB fb3R a24 [(1058,13),(1059,32),(1060,7),(1062,1),(1158,87295112),(1286,4298900788),(1332,234903556),(1334,4379116676)])] a46 1 8
noncomputable def gb11V : V := (.s z0)
noncomputable def gb11R : Hp := hset gb11H [(a24,wB gb11H a24 [(1060,0),(1062,0),(1158,84149384),(1286,4298900612),(1332,0),(1334,0)]),(a44,(.c [(.p a25 0),(.p a41 0),(.p a42 0),(.i .i64 1)]))] a46 1 8
noncomputable def gb11S : S := (.fn a21 [])
theorem gb11 : runB (calM prog (nat) 60 gb11S gb11A gb11H) gb11V gb11R = true := by decide +kernel
noncomputable def natV11 : Cal := orC (oraC (Pth.of 17) [.s (.i .i64 ((symN + 0 : Nat) : Int)), .s (.i .i64 (.ofNat 30))] (.s (.i .i64 (.ofNat 11)))) (orC (memS fa0S fa0A fa0H fa0V fa0R) (orC (memS fb3S fb3A fb3H fb3V fb3R) (orC (memS ga11S ga11A ga11H ga11V ga11R) (orC (memS gb11S gb11A gb11H gb11V gb11R) (nat)))))
theorem rev11 : valB (calM prog natV11 60 (.fn a7 []) (symA [.i64] 0) (heap0 tabL)) (.s (.b true)) = true := by decide +kernel
end Go.E
