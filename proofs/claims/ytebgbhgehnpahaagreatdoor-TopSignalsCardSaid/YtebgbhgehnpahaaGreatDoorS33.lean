/- A part of the proof of the claim that the last text of this folder states. -/
import Derived.Test.YtebgbhgehnpahaaGreatDoorS32
namespace Go.E
set_option linter.all false
set_option maxRecDepth 100000
noncomputable def sp5A : List V := [(.s (.p a45 0)),(.s (.i .i64 3)),(.s (.sl a46 0 1 1))]
noncomputable def sp5H : Hp := hset hq0 [(a46,(.c [(.i .u64 2)]))] a47 0 45
noncomputable def sp5V : V := (.s z0)
noncomputable def sp5R : Hp := hset sp5H [(a24,wB sp5H a24 [(1056,2),(1288,2),(1289,1)])] a47 0 45
noncomputable def sp5S : S := (.fn a14 [])
theorem sp5 : runB (calM prog (nat) 60 sp5S sp5A sp5H) sp5V sp5R = true := by decide +kernel
noncomputable def sp6A : List V := [(.s (.p a45 0)),(.s (.i .i64 8)),(.s .ns)]
noncomputable def sp6H : Hp := hset hq0 [(a24,wB hq0 a24 [(1056,2),(1288,2),(1289,1)]),(a46,(.c [(.i .u64 2)]))] a47 0 45
noncomputable def sp6V : V := (.s z0)
noncomputable def sp6R : Hp := hset sp6H [(a24,wB sp6H a24 [(1,1088),(265,67109888),(1040,26697),(1104,10313)])] a47 0 45
noncomputable def sp6S : S := (.fn a14 [])
theorem sp6 : runB (calM prog (nat) 60 sp6S sp6A sp6H) sp6V sp6R = true := by decide +kernel
noncomputable def sp7A : List V := [(.s (.p a45 0)),(.s (.i .i64 3)),(.s (.sl a46 0 1 1))]
noncomputable def sp7H : Hp := hset hq0 [(a24,wB hq0 a24 [(1,1088),(265,67109888),(1040,26697),(1056,2),(1104,10313),(1288,2),(1289,1)]),(a46,(.c [(.i .u64 2)]))] a47 0 45
noncomputable def sp7V : V := (.s z0)
noncomputable def sp7R : Hp := hset sp7H [(a24,wB sp7H a24 [(1120,2),(1289,3)])] a47 0 45
noncomputable def sp7S : S := (.fn a14 [])
theorem sp7 : runB (calM prog (nat) 60 sp7S sp7A sp7H) sp7V sp7R = true := by decide +kernel
noncomputable def sp8A : List V := [(.s (.p a45 0)),(.s (.i .i64 8)),(.s .ns)]
noncomputable def sp8H : Hp := hset hq0 [(a24,wB hq0 a24 [(1,1088),(265,67109888),(1040,26697),(1056,2),(1104,10313),(1120,2),(1288,2),(1289,3)]),(a46,(.c [(.i .u64 2)]))] a47 0 45
noncomputable def sp8V : V := (.s z0)
noncomputable def sp8R : Hp := hset sp8H [(a24,wB sp8H a24 [(1,1024),(265,71304256),(1040,10313),(1104,26697)])] a47 0 45
noncomputable def sp8S : S := (.fn a14 [])
theorem sp8 : runB (calM prog (nat) 60 sp8S sp8A sp8H) sp8V sp8R = true := by decide +kernel
noncomputable def sp9A : List V := [(.s (.p a45 0)),(.s (.i .i64 3)),(.s (.sl a46 0 1 1))]
noncomputable def sp9H : Hp := hset hq0 [(a24,wB hq0 a24 [(1056,2),(1288,2),(1289,1)]),(a46,(.c [(.i .u64 2)]))] a47 0 45
noncomputable def sp9V : V := (.s z0)
noncomputable def sp9R : Hp := hset sp9H [] a47 0 45
noncomputable def sp9S : S := (.fn a14 [])
theorem sp9 : runB (calM prog (nat) 60 sp9S sp9A sp9H) sp9V sp9R = true := by decide +kernel
noncomputable def sp10A : List V := [(.s (.p a45 0)),(.s (.i .i64 3)),(.s (.sl a46 0 1 1))]
noncomputable def sp10H : Hp := hset hq0 [(a24,wB hq0 a24 [(1056,2),(1120,2),(1288,2),(1289,3)]),(a46,(.c [(.i .u64 2)]))] a47 0 45
noncomputable def sp10V : V := (.s z0)
noncomputable def sp10R : Hp := hset sp10H [] a47 0 45
noncomputable def sp10S : S := (.fn a14 [])
theorem sp10 : runB (calM prog (nat) 60 sp10S sp10A sp10H) sp10V sp10R = true := by decide +kernel
noncomputable def sp11A : List V := [(.s (.p a45 0)),(.s (.i .i64 8)),(.s .ns)]
noncomputable def sp11H : Hp := hset hq0 [(a24,wB hq0 a24 [(1056,2),(1120,2),(1288,2),(1289,3)]),(a46,(.c [(.i .u64 2)]))] a47 0 45
noncomputable def sp11V : V := (.s z0)
noncomputable def sp11R : Hp := hset sp11H [(a24,wB sp11H a24 [(1,1088),(265,67109888),(1040,26697),(1104,10313)])] a47 0 45
noncomputable def sp11S : S := (.fn a14 [])
theorem sp11 : runB (calM prog (nat) 60 sp11S sp11A sp11H) sp11V sp11R = true := by decide +kernel
noncomputable def sp12A : List V := [(.s (.p a45 0)),(.s (.i .i64 3)),(.s (.sl a46 0 1 1))]
noncomputable def sp12H : Hp := hset hq0 [(a24,wB hq0 a24 [(1,1088),(265,67109888),(1040,26697),(1056,2),(1104,10313),(1120,2),(1288,2),(1289,3)]),(a46,(.c [(.i .u64 2)]))] a47 0 45
noncomputable def sp12V : V := (.s z0)
noncomputable def sp12R : Hp := hset sp12H [] a47 0 45
noncomputable def sp12S : S := (.fn a14 [])
theorem sp12 : runB (calM prog (nat) 60 sp12S sp12A sp12H) sp12V sp12R = true := by decide +kernel
end Go.E
