/- A part of the proof of the claim that the last text of this folder states. -/
import Derived.Test.YtebgbhgehnpahaaGreatDoorS30
namespace Go.E
set_option linter.all false
set_option maxRecDepth 100000
noncomputable def hq0 : Hp := hset fa0R [] a46 0 45
noncomputable def hq1 : Hp := hset hq0 [(a24,wB hq0 a24 [(1,1088),(265,67109888),(1040,26697),(1056,2),(1104,10313),(1288,2),(1289,1)])] a46 0 45
noncomputable def hq2 : Hp := hset hq0 [(a24,wB hq0 a24 [(1056,2),(1288,2),(1289,1)])] a46 0 45
noncomputable def hq3 : Hp := hset hq0 [(a24,wB hq0 a24 [(1056,2),(1120,2),(1288,2),(1289,3)])] a46 0 45
noncomputable def hq4 : Hp := hset hq0 [(a24,wB hq0 a24 [(1,1088),(265,67109888),(1040,26697),(1056,2),(1104,10313),(1120,2),(1288,2),(1289,3)])] a46 0 45
end Go.E
