/- A part of the proof of the claim that the last text of this folder states. -/
import Derived.Test.YtebgbhgehnpahaaGreatDoorV30
namespace Go.E
set_option linter.all false
set_option maxRecDepth 100000
noncomputable def ga4A : List V := [(.s (.p a45 0)),(.s (.i .i64 3)),(.s (.i .i64 2)),(.agg [(.i .u64 6),(.i .u64 32),(.i .u64 7),(.i .u64 0)]),(.s (.i .i64 1)),(.s z0)]
noncomputable def ga4H : Hp := hset fb3R [] a46 1 8
noncomputable def ga4V : V := (.s z0)
noncomputable def ga4R : Hp := hset ga4H [(a24,wB ga4H a24 [(1058,6),(1059,32),(1060,7),(1062,1),(1158,85460104),(1286,4298900760),(1304,234903556),(1306,4379116676)])] a46 1 8
noncomputable def ga4S : S := (.fn a21 [])
theorem ga4 : runB (calM prog (nat) 60 ga4S ga4A ga4H) ga4V ga4R = true := by decide +kernel
noncomputable def gb4A : List V := [(.s (.p a45 0)),(.s (.i .i64 3)),(.s (.i .i64 7)),(.agg [(.i .u64 6),(.i .u64 32),(.i .u64 0),(.i .u64 0)]),(.s z0),(.s z0)]
noncomputable def gb4H : Hp := hset fb3R [(a24,wB fb3R a24 [(1058,6),(1059,32),(1060,7),(1062,1),(1158,85460104),(1286,4298900760),(1304,234903556),(1306,4379116676)])] a46 1 8
noncomputable def gb4V : V := (.s z0)
noncomputable def gb4R : Hp := hset gb4H [(a24,wB gb4H a24 [(1060,0),(1062,0),(1158,84149384),(1286,4298900612),(1304,0),(1306,0)]),(a44,(.c [(.p a25 0),(.p a41 0),(.p a42 0),(.i .i64 1)]))] a46 1 8
noncomputable def gb4S : S := (.fn a21 [])
theorem gb4 : runB (calM prog (nat) 60 gb4S gb4A gb4H) gb4V gb4R = true := by decide +kernel
noncomputable def natV4 : Cal := orC (oraC (Pth.of 17) [.s (.i .i64 ((symN + 0 : Nat) : Int)), .s (.i .i64 (.ofNat 30))] (.s (.i .i64 (.ofNat 4)))) (orC (memS fa0S fa0A fa0H fa0V fa0R) (orC (memS fb3S fb3A fb3H fb3V fb3R) (orC (memS ga4S ga4A ga4H ga4V ga4R) (orC (memS gb4S gb4A gb4H gb4V gb4R) (nat)))))
theorem rev4 : valB (calM prog natV4 60 (.fn a7 []) (symA [.i64] 0) (heap0 tabL)) (.s (.b true)) = true := by decide +kernel
noncomputable def ga5A : List V := [(.s (.p a45 0)),(.s (.i .i64 3)),(.s (.i .i64 2)),(.agg [(.i .u64 7),(.i .u64 32),(.i .u64 7),(.i .u64 0)]),(.s (.i .i64 1)),(.s z0)]
noncomputable def ga5H : Hp := hset fb3R [] a46 1 8
noncomputable def ga5V : V := (.s z0)
noncomputable def ga5R : Hp := hset ga5H [(a24,wB ga5H a24 [(1058,7),(1059,32),(1060,7),(1062,1),(1158,85722248),(1286,4298900764),(1308,234903556),(1310,4379116676)])] a46 1 8
noncomputable def ga5S : S := (.fn a21 [])
theorem ga5 : runB (calM prog (nat) 60 ga5S ga5A ga5H) ga5V ga5R = true := by decide +kernel
noncomputable def gb5A : List V := [(.s (.p a45 0)),(.s (.i .i64 3)),(.s (.i .i64 7)),(.agg [(.i .u64 7),(.i .u64 32),(.i .u64 0),(.i .u64 0)]),(.s z0),(.s z0)]
noncomputable def gb5H : Hp := hset fb3R [(a24,wB fb3R a24 [(1058,7),(1059,32),(1060,7),(1062,1),(1158,85722248),(1286,4298900764),(1308,234903556),(1310,4379116676)])] a46 1 8
noncomputable def gb5V : V := (.s z0)
noncomputable def gb5R : Hp := hset gb5H [(a24,wB gb5H a24 [(1060,0),(1062,0),(1158,84149384),(1286,4298900612),(1308,0),(1310,0)]),(a44,(.c [(.p a25 0),(.p a41 0),(.p a42 0),(.i .i64 1)]))] a46 1 8
noncomputable def gb5S : S := (.fn a21 [])
theorem gb5 : runB (calM prog (nat) 60 gb5S gb5A gb5H) gb5V gb5R = true := by decide +kernel
noncomputable def natV5 : Cal := orC (oraC (Pth.of 17) [.s (.i .i64 ((symN + 0 : Nat) : Int)), .s (.i .i64 (.ofNat 30))] (.s (.i .i64 (.ofNat 5)))) (orC (memS fa0S fa0A fa0H fa0V fa0R) (orC (memS fb3S fb3A fb3H fb3V fb3R) (orC (memS ga5S ga5A ga5H ga5V ga5R) (orC (memS gb5S gb5A gb5H gb5V gb5R) (nat)))))
theorem rev5 : valB (calM prog natV5 60 (.fn a7 []) (symA [.i64] 0) (heap0 tabL)) (.s (.b true)) = true := by decide +kernel
end Go.E
