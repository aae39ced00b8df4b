/- A part of the proof of the claim that the last text of this folder states. -/
import Derived.Test.YtebgbhgehnpahaaGreatDoorV30
namespace Go.E
set_option linter.all false
set_option maxRecDepth 100000
noncomputable def ga20A : List V := [(.s (.p a45 0)),(.s (.i .i64 3)),(.s (.i .i64 2)),(.agg [(.i .u64 22),(.i .u64 32),(.i .u64 7),(.i .u64 0)]),(.s (.i .i64 1)),(.s z0)]
noncomputable def ga20H : Hp := hset fb3R [] a46 1 8
noncomputable def ga20V : V := (.s z0)
noncomputable def ga20R : Hp := hset ga20H [(a24,wB ga20H a24 [(1058,22),(1059,32),(1060,7),(1062,1),(1158,89654408),(1286,4298900824),(1368,234903556),(1370,4379116676)])] a46 1 8
noncomputable def ga20S : S := (.fn a21 [])
theorem ga20 : runB (calM prog (nat) 60 ga20S ga20A ga20H) ga20V ga20R = true := by decide +kernel
noncomputable def gb20A : List V := [(.s (.p a45 0)),(.s (.i .i64 3)),(.s (.i .i64 7)),(.agg [(.i .u64 22),(.i .u64 32),(.i .u64 0),(.i .u64 0)]),(.s z0),(.s z0)]
noncomputable def gb20H : Hp := hset fb3R [(a24,wB fb3R a24 [(1058,22),(1059,32),(1060,7),(1062,1),(1158,89654408),(1286,4298900824),(1368,234903556),(1370,4379116676)])] a46 1 8
noncomputable def gb20V : V := (.s z0)
noncomputable def gb20R : Hp := hset gb20H [(a24,wB gb20H a24 [(1060,0),(1062,0),(1158,84149384),(1286,4298900612),(1368,0),(1370,0)]),(a44,(.c [(.p a25 0),(.p a41 0),(.p a42 0),(.i .i64 1)]))] a46 1 8
noncomputable def gb20S : S := (.fn a21 [])
theorem gb20 : runB (calM prog (nat) 60 gb20S gb20A gb20H) gb20V gb20R = true := by decide +kernel
noncomputable def natV20 : Cal := orC (oraC (Pth.of 17) [.s (.i .i64 ((symN + 0 : Nat) : Int)), .s (.i .i64 (.ofNat 30))] (.s (.i .i64 (.ofNat 20)))) (orC (memS fa0S fa0A fa0H fa0V fa0R) (orC (memS fb3S fb3A fb3H fb3V fb3R) (orC (memS ga20S ga20A ga20H ga20V ga20R) (orC (memS gb20S gb20A gb20H gb20V gb20R) (nat)))))
theorem rev20 : valB (calM prog natV20 60 (.fn a7 []) (symA [.i64] 0) (heap0 tabL)) (.s (.b true)) = true := by decide +kernel
noncomputable def ga21A : List V := [(.s (.p a45 0)),(.s (.i .i64 3)),(.s (.i .i64 2)),(.agg [(.i .u64 23),(.i .u64 32),(.i .u64 7),(.i .u64 0)]),(.s (.i .i64 1)),(.s z0)]
noncomputable def ga21H : Hp := hset fb3R [] a46 1 8
noncomputable def ga21V : V := (.s z0)
noncomputable def ga21R : Hp := hset ga21H [(a24,wB ga21H a24 [(1058,23),(1059,32),(1060,7),(1062,1),(1158,89916552),(1286,4298900828),(1372,234903556),(1374,4379116676)])] a46 1 8
noncomputable def ga21S : S := (.fn a21 [])
theorem ga21 : runB (calM prog (nat) 60 ga21S ga21A ga21H) ga21V ga21R = true := by decide +kernel
noncomputable def gb21A : List V := [(.s (.p a45 0)),(.s (.i .i64 3)),(.s (.i .i64 7)),(.agg [(.i .u64 23),(.i .u64 32),(.i .u64 0),(.i .u64 0)]),(.s z0),(.s z0)]
noncomputable def gb21H : Hp := hset fb3R [(a24,wB fb3R a24 [(1058,23),(1059,32),(1060,7),(1062,1),(1158,89916552),(1286,4298900828),(1372,234903556),(1374,4379116676)])] a46 1 8
noncomputable def gb21V : V := (.s z0)
noncomputable def gb21R : Hp := hset gb21H [(a24,wB gb21H a24 [(1060,0),(1062,0),(1158,84149384),(1286,4298900612),(1372,0),(1374,0)]),(a44,(.c [(.p a25 0),(.p a41 0),(.p a42 0),(.i .i64 1)]))] a46 1 8
noncomputable def gb21S : S := (.fn a21 [])
theorem gb21 : runB (calM prog (nat) 60 gb21S gb21A gb21H) gb21V gb21R = true := by decide +kernel
noncomputable def natV21 : Cal := orC (oraC (Pth.of 17) [.s (.i .i64 ((symN + 0 : Nat) : Int)), .s (.i .i64 (.ofNat 30))] (.s (.i .i64 (.ofNat 21)))) (orC (memS fa0S fa0A fa0H fa0V fa0R) (orC (memS fb3S fb3A fb3H fb3V fb3R) (orC (memS ga21S ga21A ga21H ga21V ga21R) (orC (memS gb21S gb21A gb21H gb21V gb21R) (nat)))))
theorem rev21 : valB (calM prog natV21 60 (.fn a7 []) (symA [.i64] 0) (heap0 tabL)) (.s (.b true)) = true := by decide +kernel
end Go.E
