/- A part of the proof of the claim that the last text of this folder states. -/
import Derived.Test.YtebgbhgehnpahaaGreatDoorS32
namespace Go.E
set_option linter.all false
set_option maxRecDepth 100000
noncomputable def sp13A : List V := [(.s (.p a45 0)),(.s (.i .i64 5)),(.s (.sl a46 0 1 1))]
noncomputable def sp13H : Hp := hset hq0 [(a24,wB hq0 a24 [(1056,2),(1120,2),(1288,2),(1289,3)]),(a46,(.c [(.i .u64 2)]))] a47 0 45
noncomputable def sp13V : V := (.s z0)
noncomputable def sp13R : Hp := hset sp13H [(a24,wB sp13H a24 [(1056,3),(1288,0),(1289,0)])] a47 0 45
noncomputable def sp13S : S := (.fn a14 [])
theorem sp13 : runB (calM prog (nat) 60 sp13S sp13A sp13H) sp13V sp13R = true := by decide +kernel
noncomputable def sp14A : List V := [(.s (.p a45 0)),(.s (.i .i64 5)),(.s (.sl a47 0 1 1))]
noncomputable def sp14H : Hp := hset hq0 [(a24,wB hq0 a24 [(1056,3),(1120,2)]),(a46,(.c [(.i .u64 2)])),(a47,(.c [(.i .u64 2)]))] a48 0 45
noncomputable def sp14V : V := (.s z0)
noncomputable def sp14R : Hp := hset sp14H [(a24,wB sp14H a24 [(1056,0)])] a48 0 45
noncomputable def sp14S : S := (.fn a14 [])
theorem sp14 : runB (calM prog (nat) 60 sp14S sp14A sp14H) sp14V sp14R = true := by decide +kernel
noncomputable def sp15A : List V := [(.s (.p a45 0)),(.s (.i .i64 5)),(.s (.sl a46 0 1 1))]
noncomputable def sp15H : Hp := hset hq0 [(a24,wB hq0 a24 [(1,1088),(265,67109888),(1040,26697),(1056,2),(1104,10313),(1120,2),(1288,2),(1289,3)]),(a46,(.c [(.i .u64 2)]))] a47 0 45
noncomputable def sp15V : V := (.s z0)
noncomputable def sp15R : Hp := hset sp15H [(a24,wB sp15H a24 [(1120,3),(1288,0),(1289,0)])] a47 0 45
noncomputable def sp15S : S := (.fn a14 [])
theorem sp15 : runB (calM prog (nat) 60 sp15S sp15A sp15H) sp15V sp15R = true := by decide +kernel
noncomputable def sp16A : List V := [(.s (.p a45 0)),(.s (.i .i64 5)),(.s (.sl a47 0 1 1))]
noncomputable def sp16H : Hp := hset hq0 [(a24,wB hq0 a24 [(1,1088),(265,67109888),(1040,26697),(1056,2),(1104,10313),(1120,3)]),(a46,(.c [(.i .u64 2)])),(a47,(.c [(.i .u64 2)]))] a48 0 45
noncomputable def sp16V : V := (.s z0)
noncomputable def sp16R : Hp := hset sp16H [(a24,wB sp16H a24 [(1120,0)])] a48 0 45
noncomputable def sp16S : S := (.fn a14 [])
theorem sp16 : runB (calM prog (nat) 60 sp16S sp16A sp16H) sp16V sp16R = true := by decide +kernel
noncomputable def sp17A : List V := [(.s (.p a45 0)),(.s (.i .i64 5)),(.s (.sl a46 0 1 1))]
noncomputable def sp17H : Hp := hset hq0 [(a24,wB hq0 a24 [(1,1088),(265,67109888),(1040,26697),(1056,2),(1104,10313),(1288,2),(1289,1)]),(a46,(.c [(.i .u64 2)]))] a47 0 45
noncomputable def sp17V : V := (.s z0)
noncomputable def sp17R : Hp := hset sp17H [(a24,wB sp17H a24 [(1120,1),(1288,0),(1289,0)])] a47 0 45
noncomputable def sp17S : S := (.fn a14 [])
theorem sp17 : runB (calM prog (nat) 60 sp17S sp17A sp17H) sp17V sp17R = true := by decide +kernel
noncomputable def sp18A : List V := [(.s (.p a45 0)),(.s (.i .i64 5)),(.s (.sl a47 0 1 1))]
noncomputable def sp18H : Hp := hset hq0 [(a24,wB hq0 a24 [(1,1088),(265,67109888),(1040,26697),(1056,2),(1104,10313),(1120,1)]),(a46,(.c [(.i .u64 2)])),(a47,(.c [(.i .u64 2)]))] a48 0 45
noncomputable def sp18V : V := (.s z0)
noncomputable def sp18R : Hp := hset sp18H [(a24,wB sp18H a24 [(1120,0)])] a48 0 45
noncomputable def sp18S : S := (.fn a14 [])
theorem sp18 : runB (calM prog (nat) 60 sp18S sp18A sp18H) sp18V sp18R = true := by decide +kernel
noncomputable def sp19A : List V := [(.s (.p a45 0)),(.s (.i .i64 5)),(.s (.sl a46 0 1 1))]
noncomputable def sp19H : Hp := hset hq0 [(a24,wB hq0 a24 [(1056,2),(1288,2),(1289,1)]),(a46,(.c [(.i .u64 2)]))] a47 0 45
noncomputable def sp19V : V := (.s z0)
noncomputable def sp19R : Hp := hset sp19H [(a24,wB sp19H a24 [(1056,1),(1288,0),(1289,0)])] a47 0 45
noncomputable def sp19S : S := (.fn a14 [])
theorem sp19 : runB (calM prog (nat) 60 sp19S sp19A sp19H) sp19V sp19R = true := by decide +kernel
noncomputable def sp20A : List V := [(.s (.p a45 0)),(.s (.i .i64 5)),(.s (.sl a47 0 1 1))]
noncomputable def sp20H : Hp := hset hq0 [(a24,wB hq0 a24 [(1056,1)]),(a46,(.c [(.i .u64 2)])),(a47,(.c [(.i .u64 2)]))] a48 0 45
noncomputable def sp20V : V := (.s z0)
noncomputable def sp20R : Hp := hset sp20H [(a24,wB sp20H a24 [(1056,0)])] a48 0 45
noncomputable def sp20S : S := (.fn a14 [])
theorem sp20 : runB (calM prog (nat) 60 sp20S sp20A sp20H) sp20V sp20R = true := by decide +kernel
end Go.E
