/- The small code of the functions of this seat,printed by a program,and that the model's code compiles to it. -/
import Derived.Test.YtcdfofeolgbnbaaProg
import Derived.Test.YtcdfofeolgbnbaaZ3
import Derived.KernelRfl
/- The small code of the functions of this seat,printed by a program,and that the model's code compiles to it. -/
namespace Go.Proofs.Ytcdfofeolgbnbaa
open Go.D
set_option linter.all false
set_option maxRecDepth 100000


noncomputable instance tabs : Tabs:=⟨[],Try.prog⟩

def df5 : DF:= ⟨252, .seq (.reg [Gg 3 (.box (.t 1)),Gg 4 (.mv (.k (.s (.b false))))]) (.seq (.seq (.reg [Gm 23 0,Gg 24 (.len (.t 23)),
 Gg 25 (.bin .gtr (.t 24) (Ki 2147483647))]) (.cond (.t 25) (.seq (.reg [Gg 4 (.mv (.k (.s (.b true))))]) (.ret)) (.skip))) (.seq (.reg [Gg 26 (.call 8 []),
 Gm 5 26]) (.seq (.reg [Gm 27 0,Gg 28 (.call 21 [(.t 27)]),Gm 6 28]) (.seq (.seq (.reg [Gm 29 6,
 Gg 30 (.eqn false false (.t 29))]) (.cond (.t 30) (.seq (.reg [Gg 4 (.mv (.k (.s (.b false))))]) (.ret)) (.skip))) (.seq (.seq (.reg [Gg 31 (.fa (.t 3) 0),
 Gg 32 (.ld (.t 31) none),Gg 33 (.bin .eql (.t 32) (Ki 1))]) (.cond (.t 33) (.reg [Gm 34 6,Gg 35 (.fa (.t 3) 1),Gg 36 (.ld (.t 35) none),Gg 37 (.fa (.t 3) 3),
 Gg 38 (.ld (.t 37) none),Gg 39 (.call 23 [(.t 34),(.t 36),(.t 38)])]) (.skip))) (.seq (.reg [Gm 40 6,Gg 41 (.ld (.t 3) (some 4)),
 Gg 42 (.call 24 [(.t 40),(.t 41)]),Gm 7 42]) (.seq (.reg [Gm 44 6,Gg 45 (.nil (.t 44)),Gg 46 (.fa (.t 45) 0),Gg 47 (.ld (.t 46) none),
 Gg 48 (.call 12 [(.t 47)]),Gm 43 48,Gg 49 (.ext (.t 43) 0),Gg 50 (.ext (.t 43) 1),Gm 8 49,Gm 9 50]) (.seq (.seq (.reg [Gm 51 7,Gg 52 (.un .not (.t 51)),
 Gm 53 52,⟨(some 54), .fa (.t 3) 0,(some (53,false))⟩,⟨(some 55), .ld (.t 54) none,(some (53,false))⟩,
 ⟨(some 56), .bin .lss (.t 55) (Ki 1),(some (53,false))⟩,Gg 57 (.pick (.t 53) (.k (.s (.b true))) (.t 56)),Gm 58 57,
 ⟨(some 59), .fa (.t 3) 0,(some (58,false))⟩,⟨(some 60), .ld (.t 59) none,(some (58,false))⟩,⟨(some 61), .bin .gtr (.t 60) (Ki 4),(some (58,false))⟩,
 Gg 62 (.pick (.t 58) (.k (.s (.b true))) (.t 61)),Gm 63 62,⟨(some 64), .mv (.t 8),(some (63,false))⟩,⟨(some 65), .len (.t 64),(some (63,false))⟩,
 ⟨(some 66), .bin .gtr (.t 65) (Ki 40),(some (63,false))⟩,Gg 67 (.pick (.t 63) (.k (.s (.b true))) (.t 66))]) (.cond (.t 67) (.seq (.reg [Gm 68 5,
 Gm 4 68]) (.ret)) (.skip))) (.seq (.reg [Gg 10 (.mv (.k (.s (.ns))))]) (.seq (.seq (.reg [Gg 11 (.mv (Ki 0))]) (.block 0 (.loop (.seq (.seq (.reg [Gm 69 11,
 Gm 70 8,Gg 71 (.len (.t 70)),
 Gg 72 (.bin .lss (.t 69) (.t 71))]) (.cond (.t 72) (.skip) (.exit 0))) (.seq (.block 1 (.seq (.reg [Gg 12 (.mv (Ki 0))]) (.block 2 (.loop (.seq (.seq (.reg [Gm 75 12,
 Gm 76 8,Gg 77 (.len (.t 76)),Gg 78 (.bin .lss (.t 75) (.t 77))]) (.cond (.t 78) (.skip) (.exit 2))) (.seq (.block 3 (.seq (.drt 12 [Gm 81 6,
 Gg 82 (.nil (.t 81)),Gg 83 (.fa (.t 82) 0),Gg 84 (.ld (.t 83) none),Gm 85 8,Gm 86 11,Gg 87 (.ia none 1 (.t 85) (.t 86)),Gg 88 (.ld (.t 87) none),Gm 89 8,
 Gm 90 12,Gg 91 (.ia none 1 (.t 89) (.t 90)),Gg 92 (.ld (.t 91) none),Gg 93 (.call 16 [(.t 84),(.t 88),(.t 92)]),Gm 13 93]) (.reg [Gm 94 10,Gm 95 13,
 Gg 96 (.bsl 1 [.b false] [(0,1,(.t 95))]),Gg 97 (.app 1 1 (.t 94) (.t 96)),Gm 10 97]))) (.reg [Gm 79 12,Gg 80 (.bin .add (.t 79) (Ki 1)),
 Gm 12 80]))))))) (.reg [Gm 73 11,Gg 74 (.bin .add (.t 73) (Ki 1)),Gm 11 74])))))) (.seq (.reg [Gg 14 (.mv (Ki 0))]) (.seq (.seq (.reg [Gg 98 (.fa (.t 3) 0),
 Gg 99 (.ld (.t 98) none)]) (.block 4 (.seq (.reg [Gg 108 (.bin .eql (.t 99) (Ki 1)),Gm 107 108]) (.cond (.t 107) (.drt 8 [Gm 109 6,Gg 110 (.nil (.t 109)),
 Gg 111 (.fa (.t 110) 0),Gg 112 (.ld (.t 111) none),Gg 113 (.fa (.t 3) 2),Gg 114 (.ld (.t 113) none),Gg 115 (.fa (.t 3) 1),Gg 116 (.ld (.t 115) none),
 Gg 117 (.call 17 [(.t 112),(.t 114),(.t 116)]),Gm 14 117]) (.seq (.reg [Gg 119 (.bin .eql (.t 99) (Ki 2)),Gm 118 119]) (.cond (.t 118) (.drt 8 [Gm 120 6,
 Gg 121 (.nil (.t 120)),Gg 122 (.fa (.t 121) 0),Gg 123 (.ld (.t 122) none),Gg 124 (.fa (.t 3) 1),Gg 125 (.ld (.t 124) none),Gg 126 (.fa (.t 3) 2),
 Gg 127 (.ld (.t 126) none),Gg 128 (.call 18 [(.t 123),(.t 125),(.t 127)]),Gm 14 128]) (.seq (.reg [Gg 130 (.bin .eql (.t 99) (Ki 3)),
 Gm 129 130]) (.cond (.t 129) (.drt 8 [Gm 131 6,Gg 132 (.nil (.t 131)),Gg 133 (.fa (.t 132) 0),Gg 134 (.ld (.t 133) none),Gg 135 (.fa (.t 3) 1),
 Gg 136 (.ld (.t 135) none),Gg 137 (.fa (.t 3) 2),Gg 138 (.ld (.t 137) none),Gg 139 (.call 19 [(.t 134),(.t 136),(.t 138)]),Gm 14 139]) (.drt 6 [Gm 100 6,
 Gg 101 (.nil (.t 100)),Gg 102 (.fa (.t 101) 0),Gg 103 (.ld (.t 102) none),Gg 104 (.fa (.t 3) 1),Gg 105 (.ld (.t 104) none),
 Gg 106 (.call 20 [(.t 103),(.t 105)]),Gm 14 106]))))))))) (.seq (.seq (.reg [Gg 15 (.mv (Ki 0))]) (.block 5 (.loop (.seq (.seq (.reg [Gm 140 15,Gm 141 8,
 Gg 142 (.len (.t 141)),
 Gg 143 (.bin .lss (.t 140) (.t 142))]) (.cond (.t 143) (.skip) (.exit 5))) (.seq (.block 6 (.seq (.seq (.reg [Gg 16 (.mv (Ki 0))]) (.block 7 (.loop (.seq (.seq (.reg [Gm 146 16,
 Gm 147 8,Gg 148 (.len (.t 147)),
 Gg 149 (.bin .lss (.t 146) (.t 148))]) (.cond (.t 149) (.skip) (.exit 7))) (.seq (.block 8 (.seq (.drt 6 [Gg 152 (.ld (.t 3) (some 4)),Gm 153 14,Gm 154 8,
 Gm 155 15,Gg 156 (.ia none 1 (.t 154) (.t 155)),Gg 157 (.ld (.t 156) none),Gg 158 (.call 25 [(.t 152),(.t 153),(.t 157)]),
 Gm 17 158]) (.seq (.drt 6 [Gg 159 (.ld (.t 3) (some 4)),Gm 160 14,Gm 161 8,Gm 162 16,Gg 163 (.ia none 1 (.t 161) (.t 162)),Gg 164 (.ld (.t 163) none),
 Gg 165 (.call 25 [(.t 159),(.t 160),(.t 164)]),Gm 18 165]) (.seq (.reg [Gm 166 6,Gg 167 (.nil (.t 166)),Gg 168 (.fa (.t 167) 0),Gg 169 (.ld (.t 168) none),
 Gm 170 17,Gm 171 18,Gg 172 (.call 16 [(.t 169),(.t 170),(.t 171)]),Gm 19 172]) (.seq (.reg [Gm 173 17,Gg 174 (.bin .neq (.t 173) (Ki 0)),Gm 175 174,
 ⟨(some 176), .mv (.t 18),(some (175,true))⟩,⟨(some 177), .bin .neq (.t 176) (Ki 0),(some (175,true))⟩,Gg 178 (.pick (.t 175) (.t 177) (.k (.s (.b false)))),
 Gm 179 178,⟨(some 180), .mv (.t 19),(some (179,true))⟩,⟨(some 181), .mv (.t 10),(some (179,true))⟩,⟨(some 182), .mv (.t 15),(some (179,true))⟩,
 ⟨(some 183), .mv (.t 8),(some (179,true))⟩,⟨(some 184), .len (.t 183),(some (179,true))⟩,⟨(some 185), .bin .mul (.t 182) (.t 184),(some (179,true))⟩,
 ⟨(some 186), .mv (.t 16),(some (179,true))⟩,⟨(some 187), .bin .add (.t 185) (.t 186),(some (179,true))⟩,
 ⟨(some 188), .ia none 1 (.t 181) (.t 187),(some (179,true))⟩,⟨(some 189), .ld (.t 188) none,(some (179,true))⟩,
 ⟨(some 190), .eqb true (.t 180) (.t 189),(some (179,true))⟩,
 Gg 191 (.pick (.t 179) (.t 190) (.k (.s (.b false))))]) (.cond (.t 191) (.seq (.reg [Gg 4 (.mv (.k (.s (.b false))))]) (.ret)) (.skip))))))) (.reg [Gm 150 16,
 Gg 151 (.bin .add (.t 150) (Ki 1)),Gm 16 151])))))) (.seq (.reg [Gg 192 (.fa (.t 3) 0),Gg 193 (.ld (.t 192) none),Gg 194 (.bin .eql (.t 193) (Ki 1)),Gm 195 194,
 ⟨(some 196), .mv (.t 14),(some (195,true))⟩,⟨(some 197), .bin .eql (.t 196) (Ki 0),(some (195,true))⟩,
 Gg 198 (.pick (.t 195) (.t 197) (.k (.s (.b false))))]) (.cond (.t 198) (.seq (.drt 10 [Gm 199 6,Gg 200 (.nil (.t 199)),Gg 201 (.fa (.t 200) 0),
 Gg 202 (.ld (.t 201) none),Gm 203 8,Gm 204 15,Gg 205 (.ia none 1 (.t 203) (.t 204)),Gg 206 (.ld (.t 205) none),Gg 207 (.fa (.t 3) 1),Gg 208 (.ld (.t 207) none),
 Gg 209 (.call 16 [(.t 202),(.t 206),(.t 208)]),Gm 20 209]) (.seq (.drt 10 [Gm 210 6,Gg 211 (.nil (.t 210)),Gg 212 (.fa (.t 211) 0),Gg 213 (.ld (.t 212) none),
 Gm 214 8,Gm 215 15,Gg 216 (.ia none 1 (.t 214) (.t 215)),Gg 217 (.ld (.t 216) none),Gg 218 (.fa (.t 3) 2),Gg 219 (.ld (.t 218) none),
 Gg 220 (.call 16 [(.t 213),(.t 217),(.t 219)]),Gm 21 220]) (.seq (.drt 10 [Gm 221 6,Gg 222 (.nil (.t 221)),Gg 223 (.fa (.t 222) 0),Gg 224 (.ld (.t 223) none),
 Gg 225 (.fa (.t 3) 1),Gg 226 (.ld (.t 225) none),Gm 227 8,Gm 228 15,Gg 229 (.ia none 1 (.t 227) (.t 228)),Gg 230 (.ld (.t 229) none),
 Gg 231 (.call 16 [(.t 224),(.t 226),(.t 230)]),Gm 22 231]) (.seq (.drq [Gm 232 20,Gm 233 8,Gm 234 15,Gg 235 (.ia none 1 (.t 233) (.t 234)),
 Gg 236 (.ld (.t 235) none),Gg 237 (.fa (.t 3) 2),Gg 238 (.ld (.t 237) none),Gg 239 (.bin .eql (.t 236) (.t 238)),Gm 240 239,
 ⟨(some 241), .mv (.t 21),(some (240,false))⟩,Gg 242 (.pick (.t 240) (.k (.s (.b true))) (.t 241)),Gg 243 (.eqb true (.t 232) (.t 242)),Gm 244 243,
 ⟨(some 245), .mv (.t 22),(some (244,false))⟩,
 Gg 246 (.pick (.t 244) (.k (.s (.b true))) (.t 245))]) (.cond (.t 246) (.seq (.reg [Gg 4 (.mv (.k (.s (.b false))))]) (.ret)) (.skip)))))) (.skip))))) (.reg [Gm 144 15,
 Gg 145 (.bin .add (.t 144) (Ki 1)),Gm 15 145])))))) (.seq (.reg [Gm 247 5,Gm 248 247,⟨(some 249), .mv (.t 9),(some (248,true))⟩,
 ⟨(some 250), .bin .eql (.t 249) (Ki 0),(some (248,true))⟩,Gg 251 (.pick (.t 248) (.t 250) (.k (.s (.b false)))),Gm 4 251]) (.ret))))))))))))))),[.t 4]⟩

theorem dc5 : compF Try.prog Try.f5 = some df5:=by kernel_rfl
def df8 : DF:= ⟨152, .seq (.reg [Gg 0 (.mv (.k (.s (.b false))))]) (.seq (.reg [Gg 18 (.call 31 []),Gm 1 18]) (.seq (.seq (.reg [Gm 19 1,
 Gg 20 (.eqn false false (.t 19))]) (.cond (.t 20) (.seq (.reg [Gg 0 (.mv (.k (.s (.b false))))]) (.ret)) (.skip))) (.seq (.seq (.reg [Gg 2 (.mv (Ki 0))]) (.block 0 (.loop (.seq (.seq (.reg [Gm 21 2,
 Gg 22 (.bin .lss (.t 21) (Ki 4))]) (.cond (.t 22) (.skip) (.exit 0))) (.seq (.block 1 (.seq (.reg [Gm 25 1,Gm 26 2,Gg 27 (.bin .mul (Ki 4) (.t 26)),
 Gg 28 (.bin .add (Ki 1024) (.t 27)),Gm 29 2,Gg 30 (.call 23 [(.t 25),(.t 28),(.t 29)]),Gm 3 30]) (.seq (.reg [Gm 31 3,
 Gg 32 (.un .not (.t 31))]) (.cond (.t 32) (.seq (.reg [Gg 0 (.mv (.k (.s (.b false))))]) (.ret)) (.skip))))) (.reg [Gm 23 2,Gg 24 (.bin .add (.t 23) (Ki 1)),
 Gm 2 24])))))) (.seq (.reg [Gm 33 1,Gg 34 (.nil (.t 33)),Gg 35 (.fa (.t 34) 0),Gg 36 (.ld (.t 35) none),Gg 37 (.call 17 [(.t 36),(Ki 0),(Ki 1024)]),
 Gm 4 37]) (.seq (.reg [Gm 38 1,Gg 39 (.nil (.t 38)),Gg 40 (.fa (.t 39) 0),Gg 41 (.ld (.t 40) none),Gg 42 (.call 17 [(.t 41),(Ki 1024),(Ki 1028)]),
 Gm 5 42]) (.seq (.reg [Gm 43 1,Gg 44 (.nil (.t 43)),Gg 45 (.fa (.t 44) 0),Gg 46 (.ld (.t 45) none),Gg 47 (.call 17 [(.t 46),(Ki 1028),(Ki 1032)]),
 Gm 6 47]) (.seq (.reg [Gm 48 1,Gg 49 (.nil (.t 48)),Gg 50 (.fa (.t 49) 0),Gg 51 (.ld (.t 50) none),Gg 52 (.call 17 [(.t 51),(Ki 1024),(Ki 1036)]),
 Gm 7 52]) (.seq (.reg [Gm 54 1,Gg 55 (.nil (.t 54)),Gg 56 (.fa (.t 55) 0),Gg 57 (.ld (.t 56) none),Gg 58 (.call 12 [(.t 57)]),Gm 53 58,Gg 59 (.ext (.t 53) 0),
 Gg 60 (.ext (.t 53) 1),Gm 8 59,Gm 9 60]) (.seq (.reg [Gm 61 1,Gg 62 (.nil (.t 61)),Gg 63 (.fa (.t 62) 0),Gg 64 (.ld (.t 63) none),
 Gg 65 (.call 14 [(.t 64),(Ki 1024)]),Gm 10 65]) (.seq (.reg [Gm 66 1,Gg 67 (.nil (.t 66)),Gg 68 (.fa (.t 67) 0),Gg 69 (.ld (.t 68) none),
 Gg 70 (.call 15 [(.t 69),(Ki 1024)]),Gm 11 70]) (.seq (.reg [Gm 71 1,Gg 72 (.nil (.t 71)),Gg 73 (.fa (.t 72) 0),Gg 74 (.ld (.t 73) none),
 Gg 75 (.call 16 [(.t 74),(Ki 1024),(Ki 1032)]),Gm 12 75]) (.seq (.reg [Gm 76 1,Gg 77 (.nil (.t 76)),Gg 78 (.fa (.t 77) 0),Gg 79 (.ld (.t 78) none),
 Gg 80 (.call 16 [(.t 79),(Ki 1036),(Ki 1028)]),Gm 13 80]) (.seq (.reg [Gm 81 1,Gg 82 (.nil (.t 81)),Gg 83 (.fa (.t 82) 0),Gg 84 (.ld (.t 83) none),
 Gg 85 (.call 20 [(.t 84),(Ki 1028)]),Gm 14 85]) (.seq (.reg [Gm 87 1,Gg 88 (.nil (.t 87)),Gg 89 (.fa (.t 88) 0),Gg 90 (.ld (.t 89) none),
 Gg 91 (.call 13 [(.t 90),(Ki 1024)]),Gm 86 91,Gg 92 (.ext (.t 86) 0),Gg 93 (.ext (.t 86) 1),Gm 15 92,Gm 16 93]) (.seq (.reg [Gm 94 1,Gg 95 (.nil (.t 94)),
 Gg 96 (.fa (.t 95) 0),Gg 97 (.ld (.t 96) none),Gg 98 (.call 17 [(.t 97),(Ki 0),(Ki 1024)]),Gm 17 98]) (.seq (.seq (.reg [Gm 99 4,
 Gg 100 (.bin .neq (.t 99) (Ki 0)),Gm 101 100,⟨(some 102), .mv (.t 5),(some (101,false))⟩,⟨(some 103), .bin .neq (.t 102) (Ki 0),(some (101,false))⟩,
 Gg 104 (.pick (.t 101) (.k (.s (.b true))) (.t 103)),Gm 105 104,⟨(some 106), .mv (.t 6),(some (105,false))⟩,
 ⟨(some 107), .bin .neq (.t 106) (Ki 0),(some (105,false))⟩,Gg 108 (.pick (.t 105) (.k (.s (.b true))) (.t 107)),Gm 109 108,
 ⟨(some 110), .mv (.t 7),(some (109,false))⟩,⟨(some 111), .bin .neq (.t 110) (Ki 0),(some (109,false))⟩,Gg 112 (.pick (.t 109) (.k (.s (.b true))) (.t 111)),
 Gm 113 112,⟨(some 114), .mv (.t 9),(some (113,false))⟩,⟨(some 115), .bin .neq (.t 114) (Ki 0),(some (113,false))⟩,
 Gg 116 (.pick (.t 113) (.k (.s (.b true))) (.t 115)),Gm 117 116,⟨(some 118), .mv (.t 14),(some (117,false))⟩,
 ⟨(some 119), .bin .neq (.t 118) (Ki 0),(some (117,false))⟩,Gg 120 (.pick (.t 117) (.k (.s (.b true))) (.t 119)),Gm 121 120,
 ⟨(some 122), .mv (.t 16),(some (121,false))⟩,⟨(some 123), .bin .neq (.t 122) (Ki 0),(some (121,false))⟩,
 Gg 124 (.pick (.t 121) (.k (.s (.b true))) (.t 123)),Gm 125 124,⟨(some 126), .mv (.t 17),(some (125,false))⟩,
 ⟨(some 127), .bin .neq (.t 126) (Ki 120),(some (125,false))⟩,
 Gg 128 (.pick (.t 125) (.k (.s (.b true))) (.t 127))]) (.cond (.t 128) (.seq (.reg [Gg 0 (.mv (.k (.s (.b false))))]) (.ret)) (.skip))) (.seq (.reg [Gm 129 8,
 Gg 130 (.bsl 4 (Zi 4) [(0,1,(Ki 1024)),(1,1,(Ki 1036)),(2,1,(Ki 1028)),(3,1,(Ki 1032))]),Gg 131 (.call 30 [(.t 129),(.t 130)]),Gm 132 131,
 ⟨(some 133), .mv (.t 10),(some (132,true))⟩,⟨(some 134), .bin .eql (.t 133) (Ki 1036),(some (132,true))⟩,
 Gg 135 (.pick (.t 132) (.t 134) (.k (.s (.b false)))),Gm 136 135,⟨(some 137), .mv (.t 11),(some (136,true))⟩,
 ⟨(some 138), .bin .eql (.t 137) (Ki 1032),(some (136,true))⟩,Gg 139 (.pick (.t 136) (.t 138) (.k (.s (.b false)))),Gm 140 139,
 ⟨(some 141), .mv (.t 12),(some (140,true))⟩,Gg 142 (.pick (.t 140) (.t 141) (.k (.s (.b false)))),Gm 143 142,⟨(some 144), .mv (.t 13),(some (143,true))⟩,
 ⟨(some 145), .un .not (.t 144),(some (143,true))⟩,Gg 146 (.pick (.t 143) (.t 145) (.k (.s (.b false)))),Gm 147 146,
 ⟨(some 148), .mv (.t 15),(some (147,true))⟩,⟨(some 149), .bsl 2 [.i .i64 0, .i .i64 0] [(0,1,(Ki 1036)),(1,1,(Ki 1032))],(some (147,true))⟩,
 ⟨(some 150), .call 30 [(.t 148),(.t 149)],(some (147,true))⟩,Gg 151 (.pick (.t 147) (.t 150) (.k (.s (.b false)))),
 Gm 0 151]) (.ret)))))))))))))))))),[.t 0]⟩

theorem dc8 : compF Try.prog Try.f8 = some df8:=by kernel_rfl
theorem ok8 : FnOk Try.prog 8:=⟨Try.f8,Try.func8,by kernel_rfl,by kernel_rfl⟩

def df9 : DF:= ⟨15, .seq (.reg [Gg 2 (.mv (.k (.s (.np)))),Gg 3 (.mv (Ki 0))]) (.seq (.seq (.reg [Gm 4 0,Gg 5 (.bin .lss (.t 4) (Ki 11)),Gm 6 5,
 ⟨(some 7), .mv (.t 0),(some (6,false))⟩,⟨(some 8), .bin .gtr (.t 7) (Ki 16),(some (6,false))⟩,
 Gg 9 (.pick (.t 6) (.k (.s (.b true))) (.t 8))]) (.cond (.t 9) (.seq (.reg [Gg 2 (.mv (.k (.s (.np)))),
 Gg 3 (.mv (Ki 1))]) (.ret)) (.skip))) (.seq (.reg [Gm 10 0,Gg 11 (.bin .shl (Ki 1) (.t 10)),Gg 12 (.mks 1 8 [.i .u64 0] (.t 11) (.t 11)),
 Gg 13 (.build [.ns, .i .i64 0] [(0,1,(.t 12))]),Gg 14 (.box (.t 13)),Gm 2 14,Gg 3 (.mv (Ki 0))]) (.ret))),[.t 2, .t 3]⟩

theorem dc9 : compF Try.prog Try.f9 = some df9:=by kernel_rfl
theorem ok9 : FnOk Try.prog 9:=⟨Try.f9,Try.func9,by kernel_rfl,by kernel_rfl⟩

def df12 : DF:= ⟨19, .seq (.reg [Gg 2 (.new [.ns]),Gg 3 (.new [.i .i64 0])]) (.seq (.reg [Gg 4 (.new [.ns])]) (.seq (.seq (.reg [Gm 6 0,Gm 7 0,Gg 8 (.call 34 [(.t 7)]),
 Gg 9 (.call 33 [(.t 6),(.t 8)])]) (.block 0 (.rf (.t 9) [10,11] (.reg [Gm 5 10]) (.block 1 (.seq (.seq (.reg [Gm 12 5,
 Gg 13 (.bin .eql (.t 12) (Ki 0))]) (.cond (.t 13) (.seq (.reg [⟨none, .st (.t 2) (.k (.s (.ns))) 1,none⟩,
 ⟨none, .st (.t 3) (Ki 110) 1,none⟩]) (.ret)) (.skip))) (.reg [Gg 14 (.ld (.t 4) none),Gm 15 5,Gg 16 (.bsl 1 [.i .i64 0] [(0,1,(.t 15))]),
 Gg 17 (.app 1 8 (.t 14) (.t 16)),⟨none, .st (.t 4) (.t 17) 1,none⟩])))))) (.seq (.reg [Gg 18 (.ld (.t 4) none),⟨none, .st (.t 2) (.t 18) 1,none⟩,
 ⟨none, .st (.t 3) (Ki 0) 1,none⟩]) (.ret)))),[.c 2 none, .c 3 none]⟩

theorem dc12 : compF Try.prog Try.f12 = some df12:=by kernel_rfl
theorem ok12 : FnOk Try.prog 12:=⟨Try.f12,Try.func12,by kernel_rfl,by kernel_rfl⟩

def df13 : DF:= ⟨38, .seq (.reg [Gg 4 (.new [.ns]),Gg 5 (.new [.i .i64 0])]) (.seq (.reg [Gm 12 0,Gm 13 1,Gg 14 (.call 35 [(.t 12),(.t 13)]),Gm 11 14,Gg 15 (.ext (.t 11) 0),
 Gg 16 (.ext (.t 11) 1),Gg 6 (.new (Zi 14)),⟨none, .st (.t 6) (.t 15) 14,none⟩,Gm 7 16]) (.seq (.seq (.reg [Gm 17 7,
 Gg 18 (.bin .neq (.t 17) (Ki 0))]) (.cond (.t 18) (.seq (.reg [Gm 19 7,⟨none, .st (.t 4) (.k (.s (.ns))) 1,none⟩,
 ⟨none, .st (.t 5) (.t 19) 1,none⟩]) (.ret)) (.skip))) (.seq (.reg [Gg 8 (.new [.ns])]) (.seq (.seq (.reg [Gm 20 0,Gg 21 (.fa (.t 6) 12),
 Gg 22 (.ld (.t 21) none),Gg 23 (.call 33 [(.t 20),(.t 22)])]) (.block 0 (.rf (.t 23) [24,25] (.seq (.reg [Gm 9 24]) (.reg [Gg 10 (.new (Zi 14)),
 ⟨none, .st (.t 10) (.t 25) 14,none⟩])) (.block 1 (.seq (.seq (.reg [Gm 26 9,
 Gg 27 (.bin .eql (.t 26) (Ki 0))]) (.cond (.t 27) (.seq (.reg [⟨none, .st (.t 4) (.k (.s (.ns))) 1,none⟩,
 ⟨none, .st (.t 5) (Ki 110) 1,none⟩]) (.ret)) (.skip))) (.seq (.seq (.reg [Gg 28 (.fa (.t 10) 13),Gg 29 (.ld (.t 28) none),Gg 30 (.fa (.t 6) 13),
 Gg 31 (.ld (.t 30) none),Gg 32 (.bin .leq (.t 29) (.t 31))]) (.cond (.t 32) (.exit 0) (.skip))) (.reg [Gg 33 (.ld (.t 8) none),Gm 34 9,
 Gg 35 (.bsl 1 [.i .i64 0] [(0,1,(.t 34))]),Gg 36 (.app 1 8 (.t 33) (.t 35)),⟨none, .st (.t 8) (.t 36) 1,none⟩]))))))) (.seq (.reg [Gg 37 (.ld (.t 8) none),
 ⟨none, .st (.t 4) (.t 37) 1,none⟩,⟨none, .st (.t 5) (Ki 0) 1,none⟩]) (.ret)))))),[.c 4 none, .c 5 none]⟩

theorem dc13 : compF Try.prog Try.f13 = some df13:=by kernel_rfl
theorem ok13 : FnOk Try.prog 13:=⟨Try.f13,Try.func13,by kernel_rfl,by kernel_rfl⟩

def df14 : DF:= ⟨40, .seq (.reg [Gg 4 (.mv (Ki 0))]) (.seq (.reg [Gm 10 0,Gm 11 1,Gg 12 (.call 35 [(.t 10),(.t 11)]),Gm 9 12,Gg 13 (.ext (.t 9) 0),Gg 14 (.ext (.t 9) 1),
 Gg 5 (.new (Zi 14)),⟨none, .st (.t 5) (.t 13) 14,none⟩,Gm 6 14]) (.seq (.seq (.reg [Gm 15 6,Gg 16 (.bin .neq (.t 15) (Ki 0)),Gm 17 16,
 ⟨(some 18), .fa (.t 5) 12,(some (17,false))⟩,⟨(some 19), .ld (.t 18) none,(some (17,false))⟩,⟨(some 20), .bin .eql (.t 19) (Ki 0),(some (17,false))⟩,
 Gg 21 (.pick (.t 17) (.k (.s (.b true))) (.t 20))]) (.cond (.t 21) (.seq (.reg [Gg 4 (.mv (Ki 0))]) (.ret)) (.skip))) (.seq (.seq (.reg [Gm 23 0,
 Gg 24 (.fa (.t 5) 12),Gg 25 (.ld (.t 24) none),Gg 26 (.call 35 [(.t 23),(.t 25)]),Gm 22 26,Gg 27 (.ext (.t 22) 0),Gg 28 (.ext (.t 22) 1),Gg 7 (.new (Zi 14)),
 ⟨none, .st (.t 7) (.t 27) 14,none⟩,Gm 8 28]) (.seq (.reg [Gm 29 8,Gg 30 (.bin .neq (.t 29) (Ki 0)),Gm 31 30,⟨(some 32), .fa (.t 7) 13,(some (31,false))⟩,
 ⟨(some 33), .ld (.t 32) none,(some (31,false))⟩,⟨(some 34), .fa (.t 5) 13,(some (31,false))⟩,⟨(some 35), .ld (.t 34) none,(some (31,false))⟩,
 ⟨(some 36), .bin .leq (.t 33) (.t 35),(some (31,false))⟩,
 Gg 37 (.pick (.t 31) (.k (.s (.b true))) (.t 36))]) (.cond (.t 37) (.seq (.reg [Gg 4 (.mv (Ki 0))]) (.ret)) (.skip)))) (.seq (.reg [Gg 38 (.fa (.t 5) 12),
 Gg 39 (.ld (.t 38) none),Gm 4 39]) (.ret))))),[.t 4]⟩

theorem dc14 : compF Try.prog Try.f14 = some df14:=by kernel_rfl
theorem ok14 : FnOk Try.prog 14:=⟨Try.f14,Try.func14,by kernel_rfl,by kernel_rfl⟩

def df15 : DF:= ⟨22, .seq (.reg [Gg 4 (.mv (Ki 0))]) (.seq (.reg [Gm 8 0,Gm 9 1,Gg 10 (.call 13 [(.t 8),(.t 9)]),Gm 7 10,Gg 11 (.ext (.t 7) 0),Gg 12 (.ext (.t 7) 1),Gm 5 11,
 Gm 6 12]) (.seq (.seq (.reg [Gm 13 5,Gg 14 (.len (.t 13)),
 Gg 15 (.bin .eql (.t 14) (Ki 0))]) (.cond (.t 15) (.seq (.reg [Gg 4 (.mv (Ki 0))]) (.ret)) (.skip))) (.seq (.reg [Gm 16 5,Gm 17 5,Gg 18 (.len (.t 17)),
 Gg 19 (.bin .sub (.t 18) (Ki 1)),Gg 20 (.ia none 1 (.t 16) (.t 19)),Gg 21 (.ld (.t 20) none),Gm 4 21]) (.ret)))),[.t 4]⟩

theorem dc15 : compF Try.prog Try.f15 = some df15:=by kernel_rfl
theorem ok15 : FnOk Try.prog 15:=⟨Try.f15,Try.func15,by kernel_rfl,by kernel_rfl⟩

def df16 : DF:= ⟨18, .seq (.reg [Gg 6 (.mv (.k (.s (.b false))))]) (.seq (.reg [Gm 10 0,Gm 11 1,Gg 12 (.call 13 [(.t 10),(.t 11)]),Gm 9 12,Gg 13 (.ext (.t 9) 0),
 Gg 14 (.ext (.t 9) 1),Gm 7 13,Gm 8 14]) (.seq (.reg [Gm 15 7,Gm 16 2,Gg 17 (.call 36 [(.t 15),(.t 16)]),Gm 6 17]) (.ret))),[.t 6]⟩

theorem dc16 : compF Try.prog Try.f16 = some df16:=by kernel_rfl
theorem ok16 : FnOk Try.prog 16:=⟨Try.f16,Try.func16,by kernel_rfl,by kernel_rfl⟩

def df17 : DF:= ⟨66, .seq (.reg [Gg 6 (.mv (Ki 0))]) (.seq (.reg [Gm 12 0,Gm 13 2,Gg 14 (.call 35 [(.t 12),(.t 13)]),Gm 11 14,Gg 15 (.ext (.t 11) 0),Gg 16 (.ext (.t 11) 1),
 Gg 7 (.new (Zi 14)),⟨none, .st (.t 7) (.t 15) 14,none⟩,Gm 8 16]) (.seq (.seq (.reg [Gm 17 8,
 Gg 18 (.bin .neq (.t 17) (Ki 0))]) (.cond (.t 18) (.seq (.reg [Gm 19 8,Gm 6 19]) (.ret)) (.skip))) (.seq (.seq (.reg [Gm 20 0,Gm 21 2,
 Gg 22 (.ld (.t 7) (some 14)),
 Gg 23 (.call 37 [(.t 20),(.t 21),(.t 22)])]) (.cond (.t 23) (.seq (.reg [Gg 6 (.mv (Ki 120))]) (.ret)) (.skip))) (.seq (.reg [Gm 24 0,
 Gg 25 (.call 34 [(.t 24)]),Gg 26 (.fa (.t 7) 12),⟨none, .st (.t 26) (.t 25) 1,none⟩]) (.seq (.seq (.reg [Gm 27 1,
 Gg 28 (.bin .neq (.t 27) (Ki 0))]) (.cond (.t 28) (.seq (.reg [Gm 30 0,Gm 31 1,Gg 32 (.call 35 [(.t 30),(.t 31)]),Gm 29 32,Gg 33 (.ext (.t 29) 0),
 Gg 34 (.ext (.t 29) 1),Gg 9 (.new (Zi 14)),⟨none, .st (.t 9) (.t 33) 14,none⟩,Gm 10 34]) (.seq (.seq (.reg [Gm 35 10,
 Gg 36 (.bin .neq (.t 35) (Ki 0))]) (.cond (.t 36) (.seq (.reg [Gm 37 10,Gm 6 37]) (.ret)) (.skip))) (.seq (.seq (.reg [Gm 38 1,Gm 39 2,
 Gg 40 (.bin .eql (.t 38) (.t 39)),Gm 41 40,⟨(some 42), .fa (.t 9) 13,(some (41,false))⟩,⟨(some 43), .ld (.t 42) none,(some (41,false))⟩,
 ⟨(some 44), .bin .eql (.t 43) (Ki 65535),(some (41,false))⟩,
 Gg 45 (.pick (.t 41) (.k (.s (.b true))) (.t 44))]) (.cond (.t 45) (.seq (.reg [Gg 6 (.mv (Ki 120))]) (.ret)) (.skip))) (.drx (.tk true (Gm 46 1) (.tk true (Gg 47 (.fa (.t 9) 12)) (.tk true (Gg 49 (.fa (.t 9) 13)) (.tk true (Gg 52 (.fa (.t 7) 11)) (.both (.tk true (Gg 48 (.ld (.t 47) none)) (.both (.tk true (Gg 50 (.ld (.t 49) none)) (.tk true (Gg 51 (.bin .add (.t 50) (Ki 1))) (.tk false ⟨none, .st (.t 52) (.t 46) 1,none⟩ (.tk true (Gg 53 (.fa (.t 7) 12)) (.tk false ⟨none, .st (.t 53) (.t 48) 1,none⟩ (.tk true (Gg 54 (.fa (.t 7) 13)) (.tk false ⟨none, .st (.t 54) (.t 51) 1,none⟩ .done))))))) (.tk false ⟨none, .st (.t 52) (.t 46) 1,none⟩ (.tk true (Gg 53 (.fa (.t 7) 12)) (.both (.tk true (Gg 50 (.ld (.t 49) none)) (.tk true (Gg 51 (.bin .add (.t 50) (Ki 1))) (.tk false ⟨none, .st (.t 53) (.t 48) 1,none⟩ (.tk true (Gg 54 (.fa (.t 7) 13)) (.tk false ⟨none, .st (.t 54) (.t 51) 1,none⟩ .done))))) (.tk false ⟨none, .st (.t 53) (.t 48) 1,none⟩ (.tk true (Gg 50 (.ld (.t 49) none)) (.tk true (Gg 51 (.bin .add (.t 50) (Ki 1))) (.tk true (Gg 54 (.fa (.t 7) 13)) (.tk false ⟨none, .st (.t 54) (.t 51) 1,none⟩ .done)))))))))) (.both (.tk true (Gg 50 (.ld (.t 49) none)) (.tk true (Gg 51 (.bin .add (.t 50) (Ki 1))) (.both (.tk true (Gg 48 (.ld (.t 47) none)) (.tk false ⟨none, .st (.t 52) (.t 46) 1,none⟩ (.tk true (Gg 53 (.fa (.t 7) 12)) (.tk false ⟨none, .st (.t 53) (.t 48) 1,none⟩ (.tk true (Gg 54 (.fa (.t 7) 13)) (.tk false ⟨none, .st (.t 54) (.t 51) 1,none⟩ .done)))))) (.tk false ⟨none, .st (.t 52) (.t 46) 1,none⟩ (.tk true (Gg 48 (.ld (.t 47) none)) (.tk true (Gg 53 (.fa (.t 7) 12)) (.tk false ⟨none, .st (.t 53) (.t 48) 1,none⟩ (.tk true (Gg 54 (.fa (.t 7) 13)) (.tk false ⟨none, .st (.t 54) (.t 51) 1,none⟩ .done))))))))) (.tk false ⟨none, .st (.t 52) (.t 46) 1,none⟩ (.tk true (Gg 48 (.ld (.t 47) none)) (.tk true (Gg 53 (.fa (.t 7) 12)) (.both (.tk true (Gg 50 (.ld (.t 49) none)) (.tk true (Gg 51 (.bin .add (.t 50) (Ki 1))) (.tk false ⟨none, .st (.t 53) (.t 48) 1,none⟩ (.tk true (Gg 54 (.fa (.t 7) 13)) (.tk false ⟨none, .st (.t 54) (.t 51) 1,none⟩ .done))))) (.tk false ⟨none, .st (.t 53) (.t 48) 1,none⟩ (.tk true (Gg 50 (.ld (.t 49) none)) (.tk true (Gg 51 (.bin .add (.t 50) (Ki 1))) (.tk true (Gg 54 (.fa (.t 7) 13)) (.tk false ⟨none, .st (.t 54) (.t 51) 1,none⟩ .done))))))))))))))))))) (.skip))) (.seq (.reg [Gm 55 0,
 Gm 56 2,Gg 57 (.ld (.t 7) (some 14)),Gg 58 (.call 38 [(.t 55),(.t 56),(.t 57)])]) (.seq (.reg [Gm 59 0,Gg 60 (.fa (.t 7) 11),Gg 61 (.ld (.t 60) none),Gm 62 2,
 Gg 63 (.fa (.t 7) 12),Gg 64 (.ld (.t 63) none),Gg 65 (.call 39 [(.t 59),(.t 61),(.t 62),(.t 64)])]) (.seq (.reg [Gg 6 (.mv (Ki 0))]) (.ret))))))))),[.t 6]⟩

theorem dc17 : compF Try.prog Try.f17 = some df17:=by kernel_rfl
theorem ok17 : FnOk Try.prog 17:=⟨Try.f17,Try.func17,by kernel_rfl,by kernel_rfl⟩

def df18 : DF:= ⟨51, .seq (.reg [Gg 6 (.mv (Ki 0))]) (.seq (.reg [Gm 12 0,Gm 13 1,Gg 14 (.call 35 [(.t 12),(.t 13)]),Gm 11 14,Gg 15 (.ext (.t 11) 0),Gg 16 (.ext (.t 11) 1),
 Gg 7 (.new (Zi 14)),⟨none, .st (.t 7) (.t 15) 14,none⟩,Gm 8 16]) (.seq (.seq (.reg [Gm 17 8,
 Gg 18 (.bin .neq (.t 17) (Ki 0))]) (.cond (.t 18) (.seq (.reg [Gm 19 8,Gm 6 19]) (.ret)) (.skip))) (.seq (.reg [Gm 21 0,Gm 22 2,
 Gg 23 (.call 40 [(.t 21),(.t 22)]),Gm 20 23,Gg 24 (.ext (.t 20) 0),Gg 25 (.ext (.t 20) 1),Gm 9 24,Gm 8 25]) (.seq (.seq (.reg [Gm 26 8,
 Gg 27 (.bin .neq (.t 26) (Ki 0))]) (.cond (.t 27) (.seq (.reg [Gm 28 8,Gm 6 28]) (.ret)) (.skip))) (.seq (.seq (.reg [Gm 29 9,
 Gg 30 (.un .not (.t 29))]) (.cond (.t 30) (.seq (.reg [Gg 6 (.mv (Ki 120))]) (.ret)) (.skip))) (.seq (.reg [Gm 31 0,Gm 32 1,Gg 33 (.ld (.t 7) (some 14)),
 Gg 34 (.call 37 [(.t 31),(.t 32),(.t 33)]),Gm 10 34]) (.seq (.reg [Gm 35 0,Gm 36 2,Gg 37 (.ld (.t 7) (some 14)),
 Gg 38 (.call 38 [(.t 35),(.t 36),(.t 37)])]) (.seq (.reg [Gm 39 0,Gm 40 1,Gg 41 (.build (Zi 14) []),
 Gg 42 (.call 38 [(.t 39),(.t 40),(.t 41)])]) (.seq (.seq (.reg [Gm 43 10]) (.cond (.t 43) (.reg [Gm 44 0,Gg 45 (.fa (.t 7) 11),Gg 46 (.ld (.t 45) none),
 Gm 47 2,Gg 48 (.fa (.t 7) 12),Gg 49 (.ld (.t 48) none),
 Gg 50 (.call 39 [(.t 44),(.t 46),(.t 47),(.t 49)])]) (.skip))) (.seq (.reg [Gg 6 (.mv (Ki 0))]) (.ret))))))))))),[.t 6]⟩

theorem dc18 : compF Try.prog Try.f18 = some df18:=by kernel_rfl
theorem ok18 : FnOk Try.prog 18:=⟨Try.f18,Try.func18,by kernel_rfl,by kernel_rfl⟩

def df19 : DF:= ⟨94, .seq (.reg [Gg 4 (.box (.t 1)),Gg 5 (.box (.t 2)),Gg 6 (.mv (Ki 0))]) (.seq (.reg [Gm 16 0,Gg 17 (.ld (.t 4) none),Gg 18 (.call 35 [(.t 16),(.t 17)]),
 Gm 15 18,Gg 19 (.ext (.t 15) 0),Gg 20 (.ext (.t 15) 1),Gg 7 (.new (Zi 14)),⟨none, .st (.t 7) (.t 19) 14,none⟩,Gm 8 20]) (.seq (.seq (.reg [Gm 21 8,
 Gg 22 (.bin .neq (.t 21) (Ki 0))]) (.cond (.t 22) (.seq (.reg [Gm 23 8,Gm 6 23]) (.ret)) (.skip))) (.seq (.reg [Gm 25 0,Gg 26 (.ld (.t 5) none),
 Gg 27 (.call 35 [(.t 25),(.t 26)]),Gm 24 27,Gg 28 (.ext (.t 24) 0),Gg 29 (.ext (.t 24) 1),Gg 9 (.new (Zi 14)),⟨none, .st (.t 9) (.t 28) 14,none⟩,
 Gm 8 29]) (.seq (.seq (.reg [Gm 30 8,Gg 31 (.bin .neq (.t 30) (Ki 0))]) (.cond (.t 31) (.seq (.reg [Gm 32 8,
 Gm 6 32]) (.ret)) (.skip))) (.seq (.seq (.reg [Gg 33 (.ld (.t 4) none),Gg 34 (.ld (.t 5) none),
 Gg 35 (.bin .eql (.t 33) (.t 34))]) (.cond (.t 35) (.seq (.reg [Gg 6 (.mv (Ki 0))]) (.ret)) (.skip))) (.seq (.drx (.tk true (Gm 36 0) (.tk true (Gm 40 0) (.tk true (Gg 37 (.ld (.t 4) none)) (.tk true (Gg 38 (.ld (.t 7) (some 14))) (.both (.tk false (Gg 39 (.call 37 [(.t 36),(.t 37),(.t 38)])) (.tk true (Gg 41 (.ld (.t 5) none)) (.tk true (Gg 42 (.ld (.t 9) (some 14))) (.tk false (Gg 43 (.call 37 [(.t 40),(.t 41),(.t 42)])) (.tk true (Gm 10 39) (.tk true (Gm 11 43) .done)))))) (.both (.tk true (Gg 41 (.ld (.t 5) none)) (.both (.tk false (Gg 39 (.call 37 [(.t 36),(.t 37),(.t 38)])) (.tk true (Gg 42 (.ld (.t 9) (some 14))) (.tk false (Gg 43 (.call 37 [(.t 40),(.t 41),(.t 42)])) (.tk true (Gm 10 39) (.tk true (Gm 11 43) .done))))) (.tk true (Gg 42 (.ld (.t 9) (some 14))) (.tk false (Gg 39 (.call 37 [(.t 36),(.t 37),(.t 38)])) (.tk false (Gg 43 (.call 37 [(.t 40),(.t 41),(.t 42)])) (.tk true (Gm 10 39) (.tk true (Gm 11 43) .done))))))) (.tk true (Gg 42 (.ld (.t 9) (some 14))) (.both (.tk false (Gg 39 (.call 37 [(.t 36),(.t 37),(.t 38)])) (.tk true (Gg 41 (.ld (.t 5) none)) (.tk false (Gg 43 (.call 37 [(.t 40),(.t 41),(.t 42)])) (.tk true (Gm 10 39) (.tk true (Gm 11 43) .done))))) (.tk true (Gg 41 (.ld (.t 5) none)) (.tk false (Gg 39 (.call 37 [(.t 36),(.t 37),(.t 38)])) (.tk false (Gg 43 (.call 37 [(.t 40),(.t 41),(.t 42)])) (.tk true (Gm 10 39) (.tk true (Gm 11 43) .done)))))))))))))) (.seq (.reg [Gg 44 (.mkf 41 [(.t 4),(.t 5)]),
 Gm 12 44]) (.seq (.seq (.reg [Gg 45 (.bsl 2 [.np, .np] [(0,1,(.t 7)),(1,1,(.t 9))]),Gg 46 (.len (.t 45)),
 Gg 47 (.mv (Ki 0))]) (.block 0 (.loop (.seq (.reg [Gg 48 (.bin .lss (.t 47) (.t 46))]) (.seq (.cond (.t 48) (.skip) (.exit 0)) (.seq (.block 1 (.seq (.reg [Gg 49 (.ia none 1 (.t 45) (.t 47)),
 Gg 50 (.ld (.t 49) none),
 Gm 14 50]) (.drx (.tk true (Gm 51 14) (.tk true (Gm 52 14) (.tk true (Gm 53 12) (.tk true (Gm 54 14) (.tk true (Gg 55 (.nil (.t 54))) (.tk true (Gg 56 (.fa (.t 55) 11)) (.tk true (Gm 59 12) (.tk true (Gm 60 14) (.tk true (Gg 61 (.nil (.t 60))) (.tk true (Gg 62 (.fa (.t 61) 12)) (.tk true (Gg 57 (.ld (.t 56) none)) (.both (.tk false (Gg 58 (.callv (.t 53) [(.t 57)])) (.tk true (Gg 63 (.ld (.t 62) none)) (.tk false (Gg 64 (.callv (.t 59) [(.t 63)])) (.tk true (Gg 65 (.nil (.t 51))) (.tk true (Gg 66 (.fa (.t 65) 11)) (.tk false ⟨none, .st (.t 66) (.t 58) 1,none⟩ (.tk true (Gg 67 (.nil (.t 52))) (.tk true (Gg 68 (.fa (.t 67) 12)) (.tk false ⟨none, .st (.t 68) (.t 64) 1,none⟩ .done))))))))) (.tk true (Gg 63 (.ld (.t 62) none)) (.tk false (Gg 58 (.callv (.t 53) [(.t 57)])) (.tk false (Gg 64 (.callv (.t 59) [(.t 63)])) (.tk true (Gg 65 (.nil (.t 51))) (.tk true (Gg 66 (.fa (.t 65) 11)) (.tk false ⟨none, .st (.t 66) (.t 58) 1,none⟩ (.tk true (Gg 67 (.nil (.t 52))) (.tk true (Gg 68 (.fa (.t 67) 12)) (.tk false ⟨none, .st (.t 68) (.t 64) 1,none⟩ .done)))))))))))))))))))))))) (.reg [Gg 69 (.bin .add (.t 47) (Ki 1)),
 Gm 47 69]))))))) (.seq (.reg [Gm 70 0,Gg 71 (.ld (.t 4) none),Gg 72 (.ld (.t 9) (some 14)),Gg 73 (.call 38 [(.t 70),(.t 71),(.t 72)])]) (.seq (.reg [Gm 74 0,
 Gg 75 (.ld (.t 5) none),Gg 76 (.ld (.t 7) (some 14)),Gg 77 (.call 38 [(.t 74),(.t 75),(.t 76)])]) (.seq (.seq (.reg [Gm 78 10]) (.cond (.t 78) (.reg [Gm 79 0,
 Gg 80 (.fa (.t 7) 11),Gg 81 (.ld (.t 80) none),Gg 82 (.ld (.t 5) none),Gg 83 (.fa (.t 7) 12),Gg 84 (.ld (.t 83) none),
 Gg 85 (.call 39 [(.t 79),(.t 81),(.t 82),(.t 84)])]) (.skip))) (.seq (.seq (.reg [Gm 86 11]) (.cond (.t 86) (.reg [Gm 87 0,Gg 88 (.fa (.t 9) 11),
 Gg 89 (.ld (.t 88) none),Gg 90 (.ld (.t 4) none),Gg 91 (.fa (.t 9) 12),Gg 92 (.ld (.t 91) none),
 Gg 93 (.call 39 [(.t 87),(.t 89),(.t 90),(.t 92)])]) (.skip))) (.seq (.reg [Gg 6 (.mv (Ki 0))]) (.ret)))))))))))))),[.t 6]⟩

theorem dc19 : compF Try.prog Try.f19 = some df19:=by kernel_rfl
theorem ok19 : FnOk Try.prog 19:=⟨Try.f19,Try.func19,by kernel_rfl,by kernel_rfl⟩

def df20 : DF:= ⟨74, .seq (.reg [Gg 4 (.mv (Ki 0))]) (.seq (.reg [Gm 12 0,Gm 13 1,Gg 14 (.call 35 [(.t 12),(.t 13)]),Gm 11 14,Gg 15 (.ext (.t 11) 0),Gg 16 (.ext (.t 11) 1),
 Gg 5 (.new (Zi 14)),⟨none, .st (.t 5) (.t 15) 14,none⟩,Gm 6 16]) (.seq (.seq (.reg [Gm 17 6,
 Gg 18 (.bin .neq (.t 17) (Ki 0))]) (.cond (.t 18) (.seq (.reg [Gm 19 6,Gm 4 19]) (.ret)) (.skip))) (.seq (.reg [Gm 21 0,Gm 22 1,
 Gg 23 (.call 13 [(.t 21),(.t 22)]),Gm 20 23,Gg 24 (.ext (.t 20) 0),Gg 25 (.ext (.t 20) 1),Gm 7 24,Gm 6 25]) (.seq (.seq (.reg [Gm 26 6,
 Gg 27 (.bin .neq (.t 26) (Ki 0))]) (.cond (.t 27) (.seq (.reg [Gm 28 6,Gm 4 28]) (.ret)) (.skip))) (.seq (.reg [Gm 29 0,Gm 30 1,Gg 31 (.ld (.t 5) (some 14)),
 Gg 32 (.call 37 [(.t 29),(.t 30),(.t 31)]),Gm 8 32]) (.seq (.seq (.reg [Gm 33 7,Gg 34 (.len (.t 33)),
 Gg 35 (.bin .gtr (.t 34) (Ki 0))]) (.cond (.t 35) (.seq (.reg [Gm 36 0,Gm 37 7,Gg 38 (.ia none 1 (.t 37) (Ki 0)),Gg 39 (.ld (.t 38) none),
 Gg 40 (.call 42 [(.t 36),(.t 39),(.k (.s (.fn 43 [])))])]) (.seq (.reg [Gm 41 7,Gg 42 (.slc none 1 (.t 41) (some (Ki 1)) none),Gg 43 (.len (.t 42)),
 Gg 44 (.mv (Ki 0))]) (.block 0 (.loop (.seq (.reg [Gg 45 (.bin .lss (.t 44) (.t 43))]) (.seq (.cond (.t 45) (.skip) (.exit 0)) (.seq (.block 1 (.seq (.reg [Gg 46 (.ia none 1 (.t 42) (.t 44)),
 Gg 47 (.ld (.t 46) none),Gm 10 47]) (.reg [Gm 48 0,Gm 49 10,
 Gg 50 (.call 42 [(.t 48),(.t 49),(.k (.s (.fn 44 [])))])]))) (.reg [Gg 51 (.bin .add (.t 44) (Ki 1)),Gm 44 51])))))))) (.skip))) (.seq (.reg [Gm 52 0,Gm 53 1,
 Gg 54 (.build (Zi 14) []),Gg 55 (.call 38 [(.t 52),(.t 53),(.t 54)])]) (.seq (.seq (.reg [Gm 56 8]) (.cond (.t 56) (.seq (.seq (.reg [Gg 57 (.fa (.t 5) 11),
 Gg 58 (.ld (.t 57) none),Gg 59 (.bin .eql (.t 58) (Ki 0))]) (.cond (.t 59) (.reg [Gm 60 0,Gg 61 (.fa (.t 5) 12),Gg 62 (.ld (.t 61) none),
 Gg 63 (.call 45 [(.t 60),(.t 62)])]) (.skip))) (.seq (.reg [Gm 64 0,Gg 65 (.fa (.t 5) 11),Gg 66 (.ld (.t 65) none),Gg 67 (.mkf 46 [(.t 5)]),
 Gg 68 (.call 42 [(.t 64),(.t 66),(.t 67)])]) (.reg [Gm 69 0,Gg 70 (.fa (.t 5) 12),Gg 71 (.ld (.t 70) none),Gg 72 (.mkf 47 [(.t 5)]),
 Gg 73 (.call 42 [(.t 69),(.t 71),(.t 72)])]))) (.skip))) (.seq (.reg [Gg 4 (.mv (Ki 0))]) (.ret)))))))))),[.t 4]⟩

theorem dc20 : compF Try.prog Try.f20 = some df20:=by kernel_rfl
theorem ok20 : FnOk Try.prog 20:=⟨Try.f20,Try.func20,by kernel_rfl,by kernel_rfl⟩

def df21 : DF:= ⟨98, .seq (.reg [Gg 2 (.mv (.k (.s (.np))))]) (.seq (.reg [Gg 9 (.call 31 []),
 Gm 3 9]) (.seq (.seq (.reg [Gg 4 (.mv (Ki 0))]) (.block 0 (.loop (.seq (.seq (.reg [Gm 10 4,Gm 11 0,Gg 12 (.len (.t 11)),Gg 13 (.bin .lss (.t 10) (.t 12)),
 Gm 14 13,⟨(some 15), .mv (.t 3),(some (14,true))⟩,⟨(some 16), .eqn false true (.t 15),(some (14,true))⟩,
 Gg 17 (.pick (.t 14) (.t 16) (.k (.s (.b false))))]) (.cond (.t 17) (.skip) (.exit 0))) (.seq (.block 1 (.seq (.reg [Gm 20 0,Gm 21 4,
 Gg 22 (.ia none 4 (.t 20) (.t 21)),Gg 23 (.ld (.t 22) (some 4)),Gg 5 (.new (Zi 4)),⟨none, .st (.t 5) (.t 23) 4,none⟩]) (.seq (.seq (.reg [Gg 24 (.fa (.t 5) 0),
 Gg 25 (.ld (.t 24) none),Gg 26 (.bin .eql (.t 25) (Ki 1))]) (.cond (.t 26) (.reg [Gm 27 3,Gg 28 (.fa (.t 5) 1),Gg 29 (.ld (.t 28) none),Gg 30 (.fa (.t 5) 3),
 Gg 31 (.ld (.t 30) none),Gg 32 (.call 23 [(.t 27),(.t 29),(.t 31)])]) (.skip))) (.seq (.reg [Gm 33 3,Gg 34 (.ld (.t 5) (some 4)),
 Gg 35 (.call 24 [(.t 33),(.t 34)]),Gm 6 35]) (.seq (.seq (.reg [Gm 36 6,
 Gg 37 (.un .not (.t 36))]) (.cond (.t 37) (.exit 1) (.skip))) (.seq (.seq (.reg [Gg 38 (.fa (.t 5) 0),
 Gg 39 (.ld (.t 38) none)]) (.block 2 (.seq (.reg [Gg 41 (.bin .eql (.t 39) (Ki 1)),Gm 40 41]) (.cond (.t 40) (.drt 8 [Gm 42 3,Gg 43 (.nil (.t 42)),
 Gg 44 (.fa (.t 43) 0),Gg 45 (.ld (.t 44) none),Gg 46 (.fa (.t 5) 2),Gg 47 (.ld (.t 46) none),Gg 48 (.fa (.t 5) 1),Gg 49 (.ld (.t 48) none),
 Gg 50 (.call 17 [(.t 45),(.t 47),(.t 49)])]) (.seq (.reg [Gg 52 (.bin .eql (.t 39) (Ki 2)),Gm 51 52]) (.cond (.t 51) (.drt 8 [Gm 53 3,Gg 54 (.nil (.t 53)),
 Gg 55 (.fa (.t 54) 0),Gg 56 (.ld (.t 55) none),Gg 57 (.fa (.t 5) 1),Gg 58 (.ld (.t 57) none),Gg 59 (.fa (.t 5) 2),Gg 60 (.ld (.t 59) none),
 Gg 61 (.call 18 [(.t 56),(.t 58),(.t 60)])]) (.seq (.reg [Gg 63 (.bin .eql (.t 39) (Ki 3)),Gm 62 63]) (.cond (.t 62) (.drt 8 [Gm 64 3,Gg 65 (.nil (.t 64)),
 Gg 66 (.fa (.t 65) 0),Gg 67 (.ld (.t 66) none),Gg 68 (.fa (.t 5) 1),Gg 69 (.ld (.t 68) none),Gg 70 (.fa (.t 5) 2),Gg 71 (.ld (.t 70) none),
 Gg 72 (.call 19 [(.t 67),(.t 69),(.t 71)])]) (.seq (.reg [Gg 74 (.bin .eql (.t 39) (Ki 4)),Gm 73 74]) (.cond (.t 73) (.drt 6 [Gm 75 3,Gg 76 (.nil (.t 75)),
 Gg 77 (.fa (.t 76) 0),Gg 78 (.ld (.t 77) none),Gg 79 (.fa (.t 5) 1),Gg 80 (.ld (.t 79) none),
 Gg 81 (.call 20 [(.t 78),(.t 80)])]) (.skip))))))))))) (.seq (.reg [Gm 83 3,Gg 84 (.nil (.t 83)),Gg 85 (.fa (.t 84) 0),Gg 86 (.ld (.t 85) none),
 Gg 87 (.call 26 [(.t 86),(Ki 0),(Ki 2048)]),Gm 82 87,Gg 88 (.ext (.t 82) 0),Gg 89 (.ext (.t 82) 1),Gm 7 88,Gm 8 89]) (.seq (.seq (.reg [Gm 90 8,
 Gg 91 (.bin .neq (.t 90) (Ki 0))]) (.cond (.t 91) (.seq (.reg [Gg 2 (.mv (.k (.s (.np))))]) (.ret)) (.skip))) (.reg [Gm 92 3,Gm 93 7,Gg 94 (.call 48 [(.t 93)]),
 Gg 95 (.nil (.t 92)),Gg 96 (.fa (.t 95) 1),⟨none, .st (.t 96) (.t 94) 1,none⟩]))))))))) (.reg [Gm 18 4,Gg 19 (.bin .add (.t 18) (Ki 1)),
 Gm 4 19])))))) (.seq (.reg [Gm 97 3,Gm 2 97]) (.ret)))),[.t 2]⟩

theorem dc21 : compF Try.prog Try.f21 = some df21:=by kernel_rfl
theorem ok21 : FnOk Try.prog 21:=⟨Try.f21,Try.func21,by kernel_rfl,by kernel_rfl⟩

def df23 : DF:= ⟨47, .seq (.reg [Gg 6 (.mv (.k (.s (.b false))))]) (.seq (.reg [Gm 13 0,Gg 14 (.nil (.t 13)),Gg 15 (.fa (.t 14) 1),Gg 16 (.ld (.t 15) none),Gm 17 1,
 Gg 18 (.call 27 [(.t 16),(.t 17)]),Gm 12 18,Gg 19 (.ext (.t 12) 0),Gg 20 (.ext (.t 12) 1),Gm 7 19,Gm 8 20]) (.seq (.seq (.reg [Gm 21 8,
 Gg 22 (.bin .neq (.t 21) (Ki 0)),Gm 23 22,⟨(some 24), .mv (.t 7),(some (23,false))⟩,⟨(some 25), .un .not (.t 24),(some (23,false))⟩,
 Gg 26 (.pick (.t 23) (.k (.s (.b true))) (.t 25))]) (.cond (.t 26) (.seq (.reg [Gg 6 (.mv (.k (.s (.b true))))]) (.ret)) (.skip))) (.seq (.reg [Gm 27 2,
 Gg 28 (.call 52 [(.t 27)]),Gg 29 (.build (Zi 14) [(0,11,(.t 28))]),Gg 9 (.new (Zi 14)),⟨none, .st (.t 9) (.t 29) 14,none⟩]) (.seq (.drt 6 [Gm 30 0,
 Gg 31 (.nil (.t 30)),Gg 32 (.fa (.t 31) 0),Gg 33 (.ld (.t 32) none),Gm 34 1,Gg 35 (.ld (.t 9) (some 14)),Gg 36 (.call 38 [(.t 33),(.t 34),(.t 35)]),
 Gm 10 36]) (.seq (.drt 6 [Gm 37 0,Gg 38 (.nil (.t 37)),Gg 39 (.fa (.t 38) 1),Gg 40 (.ld (.t 39) none),Gm 41 1,Gg 42 (.ld (.t 9) (some 14)),
 Gg 43 (.call 53 [(.t 40),(.t 41),(.t 42)]),Gm 11 43]) (.seq (.reg [Gm 44 10,Gm 45 11,Gg 46 (.bin .eql (.t 44) (.t 45)),Gm 6 46]) (.ret))))))),[.t 6]⟩

theorem dc23 : compF Try.prog Try.f23 = some df23:=by kernel_rfl
theorem ok23 : FnOk Try.prog 23:=⟨Try.f23,Try.func23,by kernel_rfl,by kernel_rfl⟩

def df24 : DF:= ⟨82, .seq (.reg [Gg 3 (.box (.t 1)),Gg 4 (.mv (.k (.s (.b false))))]) (.seq (.reg [Gm 14 0,Gg 15 (.nil (.t 14)),Gg 16 (.fa (.t 15) 1),
 Gg 17 (.ld (.t 16) none),Gg 18 (.call 49 [(.t 17)]),Gm 13 18,Gg 19 (.ext (.t 13) 0),Gg 20 (.ext (.t 13) 1),Gm 5 19,Gm 6 20]) (.seq (.seq (.reg [Gm 21 6,
 Gg 22 (.bin .neq (.t 21) (Ki 0))]) (.cond (.t 22) (.seq (.reg [Gg 4 (.mv (.k (.s (.b false))))]) (.ret)) (.skip))) (.seq (.drm [(true,Gm 24 0),(true,Gg 25 (.nil (.t 24))),(true,Gg 26 (.fa (.t 25) 1)),(true,Gg 27 (.ld (.t 26) none)),(true,Gg 28 (.fa (.t 3) 1)),(true,Gg 29 (.ld (.t 28) none)),(false,Gg 30 (.call 27 [(.t 27),(.t 29)])),(true,Gm 23 30),(true,Gg 31 (.ext (.t 23) 0)),(true,Gg 32 (.ext (.t 23) 1)),(true,Gm 7 31),(true,Gm 8 32)]) (.seq (.drm [(true,Gm 34 0),(true,Gg 35 (.nil (.t 34))),(true,Gg 36 (.fa (.t 35) 1)),(true,Gg 37 (.ld (.t 36) none)),(true,Gg 38 (.fa (.t 3) 2)),(true,Gg 39 (.ld (.t 38) none)),(false,Gg 40 (.call 27 [(.t 37),(.t 39)])),(true,Gm 33 40),(true,Gg 41 (.ext (.t 33) 0)),(true,Gg 42 (.ext (.t 33) 1)),(true,Gm 9 41),(true,Gm 10 42)]) (.seq (.reg [Gm 43 8,
 Gg 44 (.bin .neq (.t 43) (Ki 0)),Gm 45 44,⟨(some 46), .mv (.t 7),(some (45,false))⟩,Gg 47 (.pick (.t 45) (.k (.s (.b true))) (.t 46)),Gm 48 47,
 ⟨(some 49), .mv (.t 5),(some (48,false))⟩,⟨(some 50), .fa (.t 3) 1,(some (48,false))⟩,⟨(some 51), .ld (.t 50) none,(some (48,false))⟩,
 ⟨(some 52), .call 51 [(.t 49),(.t 51)],(some (48,false))⟩,Gg 53 (.pick (.t 48) (.k (.s (.b true))) (.t 52)),Gm 11 53]) (.seq (.reg [Gm 54 10,
 Gg 55 (.bin .neq (.t 54) (Ki 0)),Gm 56 55,⟨(some 57), .mv (.t 9),(some (56,false))⟩,Gg 58 (.pick (.t 56) (.k (.s (.b true))) (.t 57)),Gm 59 58,
 ⟨(some 60), .mv (.t 5),(some (59,false))⟩,⟨(some 61), .fa (.t 3) 2,(some (59,false))⟩,⟨(some 62), .ld (.t 61) none,(some (59,false))⟩,
 ⟨(some 63), .call 51 [(.t 60),(.t 62)],(some (59,false))⟩,Gg 64 (.pick (.t 59) (.k (.s (.b true))) (.t 63)),Gm 65 64,
 ⟨(some 66), .fa (.t 3) 0,(some (65,false))⟩,⟨(some 67), .ld (.t 66) none,(some (65,false))⟩,⟨(some 68), .bin .eql (.t 67) (Ki 1),(some (65,false))⟩,
 ⟨(some 69), .mv (.t 68),(some (65,false))⟩,⟨(some 70), .fa (.t 3) 2,(some (69,true))⟩,⟨(some 71), .ld (.t 70) none,(some (69,true))⟩,
 ⟨(some 72), .bin .eql (.t 71) (Ki 0),(some (69,true))⟩,⟨(some 73), .pick (.t 69) (.t 72) (.k (.s (.b false))),(some (65,false))⟩,
 Gg 74 (.pick (.t 65) (.k (.s (.b true))) (.t 73)),Gm 12 74]) (.seq (.seq (.reg [Gg 75 (.fa (.t 3) 0),Gg 76 (.ld (.t 75) none),
 Gg 77 (.bin .eql (.t 76) (Ki 1))]) (.cond (.t 77) (.reg [Gg 11 (.mv (.k (.s (.b true))))]) (.skip))) (.seq (.reg [Gm 78 11,Gm 79 78,
 ⟨(some 80), .mv (.t 12),(some (79,true))⟩,Gg 81 (.pick (.t 79) (.t 80) (.k (.s (.b false)))),Gm 4 81]) (.ret))))))))),[.t 4]⟩

theorem dc24 : compF Try.prog Try.f24 = some df24:=by kernel_rfl
theorem ok24 : FnOk Try.prog 24:=⟨Try.f24,Try.func24,by kernel_rfl,by kernel_rfl⟩

def df25 : DF:= ⟨57, .seq (.reg [Gg 3 (.box (.t 0)),Gg 6 (.mv (Ki 0))]) (.seq (.seq (.reg [Gm 7 1,Gg 8 (.bin .neq (.t 7) (Ki 0))]) (.cond (.t 8) (.seq (.reg [Gm 9 2,
 Gm 6 9]) (.ret)) (.skip))) (.seq (.block 0 (.seq (.reg [Gg 11 (.fa (.t 3) 0),Gg 12 (.ld (.t 11) none),Gg 13 (.bin .eql (.t 12) (Ki 2)),Gm 14 13,
 ⟨(some 15), .mv (.t 2),(some (14,true))⟩,⟨(some 16), .fa (.t 3) 1,(some (14,true))⟩,⟨(some 17), .ld (.t 16) none,(some (14,true))⟩,
 ⟨(some 18), .bin .eql (.t 15) (.t 17),(some (14,true))⟩,Gg 19 (.pick (.t 14) (.t 18) (.k (.s (.b false)))),
 Gm 10 19]) (.cond (.t 10) (.seq (.reg [Gg 20 (.fa (.t 3) 2),Gg 21 (.ld (.t 20) none),Gm 6 21]) (.ret)) (.seq (.reg [Gg 23 (.fa (.t 3) 0),
 Gg 24 (.ld (.t 23) none),Gg 25 (.bin .eql (.t 24) (Ki 3)),Gm 26 25,⟨(some 27), .mv (.t 2),(some (26,true))⟩,⟨(some 28), .fa (.t 3) 1,(some (26,true))⟩,
 ⟨(some 29), .ld (.t 28) none,(some (26,true))⟩,⟨(some 30), .bin .eql (.t 27) (.t 29),(some (26,true))⟩,Gg 31 (.pick (.t 26) (.t 30) (.k (.s (.b false)))),
 Gm 22 31]) (.cond (.t 22) (.seq (.reg [Gg 32 (.fa (.t 3) 2),Gg 33 (.ld (.t 32) none),Gm 6 33]) (.ret)) (.seq (.reg [Gg 35 (.fa (.t 3) 0),
 Gg 36 (.ld (.t 35) none),Gg 37 (.bin .eql (.t 36) (Ki 3)),Gm 38 37,⟨(some 39), .mv (.t 2),(some (38,true))⟩,⟨(some 40), .fa (.t 3) 2,(some (38,true))⟩,
 ⟨(some 41), .ld (.t 40) none,(some (38,true))⟩,⟨(some 42), .bin .eql (.t 39) (.t 41),(some (38,true))⟩,Gg 43 (.pick (.t 38) (.t 42) (.k (.s (.b false)))),
 Gm 34 43]) (.cond (.t 34) (.seq (.reg [Gg 44 (.fa (.t 3) 1),Gg 45 (.ld (.t 44) none),Gm 6 45]) (.ret)) (.seq (.reg [Gg 47 (.fa (.t 3) 0),
 Gg 48 (.ld (.t 47) none),Gg 49 (.bin .eql (.t 48) (Ki 4)),Gm 50 49,⟨(some 51), .mv (.t 2),(some (50,true))⟩,⟨(some 52), .fa (.t 3) 1,(some (50,true))⟩,
 ⟨(some 53), .ld (.t 52) none,(some (50,true))⟩,⟨(some 54), .bin .eql (.t 51) (.t 53),(some (50,true))⟩,Gg 55 (.pick (.t 50) (.t 54) (.k (.s (.b false)))),
 Gm 46 55]) (.cond (.t 46) (.seq (.reg [Gg 6 (.mv (Ki 0))]) (.ret)) (.skip)))))))))) (.seq (.reg [Gm 56 2,Gm 6 56]) (.ret)))),[.t 6]⟩

theorem dc25 : compF Try.prog Try.f25 = some df25:=by kernel_rfl
theorem ok25 : FnOk Try.prog 25:=⟨Try.f25,Try.func25,by kernel_rfl,by kernel_rfl⟩

def df26 : DF:= ⟨21, .seq (.reg [Gg 6 (.mv (.k (.s (.ns)))),Gg 7 (.mv (Ki 0))]) (.seq (.reg [Gm 11 0,Gm 12 1,Gm 13 2,Gg 14 (.call 32 [(.t 11),(.t 12),(.t 13)]),Gm 10 14,
 Gg 15 (.ext (.t 10) 0),Gg 16 (.ext (.t 10) 1),Gm 8 15,Gm 9 16]) (.seq (.seq (.reg [Gm 17 9,
 Gg 18 (.un .not (.t 17))]) (.cond (.t 18) (.seq (.reg [Gg 6 (.mv (.k (.s (.ns)))),Gg 7 (.mv (Ki 20))]) (.ret)) (.skip))) (.seq (.reg [Gm 19 8,
 Gg 20 (.call 54 [(.t 19)]),Gm 6 20,Gg 7 (.mv (Ki 0))]) (.ret)))),[.t 6, .t 7]⟩

theorem dc26 : compF Try.prog Try.f26 = some df26:=by kernel_rfl
theorem ok26 : FnOk Try.prog 26:=⟨Try.f26,Try.func26,by kernel_rfl,by kernel_rfl⟩

def df27 : DF:= ⟨23, .seq (.reg [Gg 4 (.mv (.k (.s (.b false)))),Gg 5 (.mv (Ki 0))]) (.seq (.reg [Gm 9 0,Gm 10 1,Gg 11 (.call 50 [(.t 9),(.t 10)]),Gm 8 11,
 Gg 12 (.ext (.t 8) 0),Gg 13 (.ext (.t 8) 1),Gg 6 (.new (Zi 14)),⟨none, .st (.t 6) (.t 12) 14,none⟩,Gm 7 13]) (.seq (.reg [Gm 14 7,
 Gg 15 (.bin .eql (.t 14) (Ki 0)),Gm 16 15,⟨(some 17), .fa (.t 6) 0,(some (16,true))⟩,⟨(some 18), .fa (.t 17) 0,(some (16,true))⟩,
 ⟨(some 19), .ld (.t 18) none,(some (16,true))⟩,⟨(some 20), .bin .eql (.t 19) (Ki 0),(some (16,true))⟩,Gg 21 (.pick (.t 16) (.t 20) (.k (.s (.b false)))),
 Gm 22 7,Gm 4 21,Gm 5 22]) (.ret))),[.t 4, .t 5]⟩

theorem dc27 : compF Try.prog Try.f27 = some df27:=by kernel_rfl
theorem ok27 : FnOk Try.prog 27:=⟨Try.f27,Try.func27,by kernel_rfl,by kernel_rfl⟩

def df29 : DF:= ⟨78, .seq (.reg [Gg 4 (.new (Zi 14)),Gg 5 (.mv (Ki 0))]) (.seq (.seq (.reg [Gm 13 0,Gm 14 1,Gg 15 (.call 55 [(.t 13),(.t 14)]),
 Gg 16 (.un .not (.t 15))]) (.cond (.t 16) (.seq (.reg [Gg 17 (.build (Zi 14) []),⟨none, .st (.t 4) (.t 17) 14,none⟩,
 Gg 5 (.mv (Ki 20))]) (.ret)) (.skip))) (.seq (.reg [Gg 6 (.new [.i .u64 0, .i .u64 0, .i .u64 0, .i .u64 0])]) (.seq (.seq (.reg [Gg 18 (.mv (Ki 0))]) (.block 0 (.loop (.seq (.reg [Gg 19 (.bin .lss (.t 18) (Ki 4))]) (.seq (.cond (.t 19) (.skip) (.exit 0)) (.seq (.block 1 (.seq (.reg [Gm 20 18,
 Gm 7 20]) (.reg [Gm 22 7,Gm 23 0,Gm 24 1,Gm 25 7,Gg 26 (.bin .add (.t 24) (.t 25)),Gg 27 (.call 56 [(.t 23),(.t 26)]),Gm 21 27,Gg 28 (.ext (.t 21) 0),
 Gg 29 (.ext (.t 21) 1),Gg 30 (.ia (some 4) 1 (.t 6) (.t 22)),⟨none, .st (.t 30) (.t 28) 1,none⟩]))) (.reg [Gg 31 (.bin .add (.t 18) (Ki 1)),
 Gm 18 31]))))))) (.seq (.reg [Gg 33 (.ia (some 4) 1 (.t 6) (Ki 0)),Gg 34 (.ld (.t 33) none),Gg 35 (.ia (some 4) 1 (.t 6) (Ki 1)),Gg 36 (.ld (.t 35) none),
 Gg 37 (.call 57 [(.t 34),(.t 36)]),Gm 32 37,Gg 38 (.ext (.t 32) 0),Gg 39 (.ext (.t 32) 1),Gg 8 (.new (Zi 11)),⟨none, .st (.t 8) (.t 38) 11,none⟩,
 Gm 9 39]) (.seq (.reg [Gg 41 (.ia (some 4) 1 (.t 6) (Ki 2)),Gg 42 (.ld (.t 41) none),
 Gg 43 (.bsl 3 [.i .i64 0, .i .i64 0, .i .i64 0] [(0,1,(Ki 16)),(1,1,(Ki 16)),(2,1,(Ki 16))]),Gg 44 (.call 58 [(.t 42),(.t 43)]),Gm 40 44,
 Gg 45 (.ext (.t 40) 0),Gg 46 (.ext (.t 40) 1),Gm 10 45,Gm 11 46]) (.seq (.seq (.reg [Gm 47 9,Gg 48 (.bin .neq (.t 47) (Ki 0)),Gm 49 48,
 ⟨(some 50), .mv (.t 11),(some (49,false))⟩,⟨(some 51), .bin .neq (.t 50) (Ki 0),(some (49,false))⟩,Gg 52 (.pick (.t 49) (.k (.s (.b true))) (.t 51)),
 Gm 53 52,⟨(some 54), .ia (some 4) 1 (.t 6) (Ki 3),(some (53,false))⟩,⟨(some 55), .ld (.t 54) none,(some (53,false))⟩,
 ⟨(some 56), .bin .neq (.t 55) (.k (.s (.i .u64 0))),(some (53,false))⟩,
 Gg 57 (.pick (.t 53) (.k (.s (.b true))) (.t 56))]) (.cond (.t 57) (.seq (.reg [Gg 58 (.build (Zi 14) []),⟨none, .st (.t 4) (.t 58) 14,none⟩,
 Gg 5 (.mv (Ki 110))]) (.ret)) (.skip))) (.seq (.drm [(true,Gg 59 (.ld (.t 8) (some 11))),(true,Gm 60 10),(true,Gg 61 (.ia none 1 (.t 60) (Ki 0))),(true,Gg 62 (.ld (.t 61) none)),(true,Gg 63 (.conv .i64 (.t 62))),(true,Gm 64 10),(true,Gg 65 (.ia none 1 (.t 64) (Ki 1))),(true,Gg 66 (.ld (.t 65) none)),(true,Gg 67 (.conv .i64 (.t 66))),(true,Gm 68 10),(true,Gg 69 (.ia none 1 (.t 68) (Ki 2))),(true,Gg 70 (.ld (.t 69) none)),(true,Gg 71 (.conv .i64 (.t 70))),(true,Gg 72 (.build (Zi 14) [(0,11,(.t 59)),(11,1,(.t 63)),(12,1,(.t 67)),(13,1,(.t 71))])),(false,Gg 12 (.new (Zi 14))),(false,⟨none, .st (.t 12) (.t 72) 14,none⟩)]) (.seq (.seq (.reg [Gg 73 (.ld (.t 12) (some 14)),
 Gg 74 (.call 59 [(.t 73)]),Gg 75 (.un .not (.t 74))]) (.cond (.t 75) (.seq (.reg [Gg 76 (.build (Zi 14) []),⟨none, .st (.t 4) (.t 76) 14,none⟩,
 Gg 5 (.mv (Ki 110))]) (.ret)) (.skip))) (.seq (.reg [Gg 77 (.ld (.t 12) (some 14)),⟨none, .st (.t 4) (.t 77) 14,none⟩,
 Gg 5 (.mv (Ki 0))]) (.ret)))))))))),[.c 4 (some 14), .t 5]⟩

theorem dc29 : compF Try.prog Try.f29 = some df29:=by kernel_rfl
theorem ok29 : FnOk Try.prog 29:=⟨Try.f29,Try.func29,by kernel_rfl,by kernel_rfl⟩

def df30 : DF:= ⟨26, .seq (.reg [Gg 4 (.mv (.k (.s (.b false))))]) (.seq (.seq (.reg [Gm 6 0,Gg 7 (.len (.t 6)),Gm 8 1,Gg 9 (.len (.t 8)),
 Gg 10 (.bin .neq (.t 7) (.t 9))]) (.cond (.t 10) (.seq (.reg [Gg 4 (.mv (.k (.s (.b false))))]) (.ret)) (.skip))) (.seq (.seq (.reg [Gg 5 (.mv (Ki 0))]) (.block 0 (.loop (.seq (.seq (.reg [Gm 11 5,
 Gm 12 0,Gg 13 (.len (.t 12)),Gg 14 (.bin .lss (.t 11) (.t 13))]) (.cond (.t 14) (.skip) (.exit 0))) (.seq (.block 1 (.seq (.drq [Gm 17 0,Gm 18 5,
 Gg 19 (.ia none 1 (.t 17) (.t 18)),Gg 20 (.ld (.t 19) none),Gm 21 1,Gm 22 5,Gg 23 (.ia none 1 (.t 21) (.t 22)),Gg 24 (.ld (.t 23) none),
 Gg 25 (.bin .neq (.t 20) (.t 24))]) (.cond (.t 25) (.seq (.reg [Gg 4 (.mv (.k (.s (.b false))))]) (.ret)) (.skip)))) (.reg [Gm 15 5,
 Gg 16 (.bin .add (.t 15) (Ki 1)),Gm 5 16])))))) (.seq (.reg [Gg 4 (.mv (.k (.s (.b true))))]) (.ret)))),[.t 4]⟩

theorem dc30 : compF Try.prog Try.f30 = some df30:=by kernel_rfl
theorem ok30 : FnOk Try.prog 30:=⟨Try.f30,Try.func30,by kernel_rfl,by kernel_rfl⟩

def df31 : DF:= ⟨31, .seq (.reg [Gg 0 (.mv (.k (.s (.np))))]) (.seq (.reg [Gg 6 (.call 9 [(Ki 11)]),Gm 5 6,Gg 7 (.ext (.t 5) 0),Gg 8 (.ext (.t 5) 1),Gm 1 7,
 Gm 2 8]) (.seq (.reg [Gg 10 (.call 60 [(Ki 11)]),Gm 9 10,Gg 11 (.ext (.t 9) 0),Gg 12 (.ext (.t 9) 1),Gm 3 11,Gm 4 12]) (.seq (.seq (.reg [Gm 13 1,
 Gg 14 (.eqn false false (.t 13)),Gm 15 14,⟨(some 16), .mv (.t 3),(some (15,false))⟩,⟨(some 17), .eqn false false (.t 16),(some (15,false))⟩,
 Gg 18 (.pick (.t 15) (.k (.s (.b true))) (.t 17)),Gm 19 18,⟨(some 20), .mv (.t 2),(some (19,false))⟩,
 ⟨(some 21), .bin .neq (.t 20) (Ki 0),(some (19,false))⟩,Gg 22 (.pick (.t 19) (.k (.s (.b true))) (.t 21)),Gm 23 22,
 ⟨(some 24), .mv (.t 4),(some (23,false))⟩,⟨(some 25), .bin .neq (.t 24) (Ki 0),(some (23,false))⟩,
 Gg 26 (.pick (.t 23) (.k (.s (.b true))) (.t 25))]) (.cond (.t 26) (.seq (.reg [Gg 0 (.mv (.k (.s (.np))))]) (.ret)) (.skip))) (.seq (.reg [Gm 27 1,Gm 28 3,
 Gg 29 (.build [.np, .np] [(0,1,(.t 27)),(1,1,(.t 28))]),Gg 30 (.box (.t 29)),Gm 0 30]) (.ret))))),[.t 0]⟩

theorem dc31 : compF Try.prog Try.f31 = some df31:=by kernel_rfl
theorem ok31 : FnOk Try.prog 31:=⟨Try.f31,Try.func31,by kernel_rfl,by kernel_rfl⟩

def df32 : DF:= ⟨43, .seq (.reg [Gg 6 (.mv (.k (.s (.ns)))),Gg 7 (.mv (.k (.s (.b false))))]) (.seq (.seq (.reg [Gm 8 1,Gg 9 (.bin .lss (.t 8) (Ki 0)),Gm 10 9,
 ⟨(some 11), .mv (.t 2),(some (10,false))⟩,⟨(some 12), .bin .lss (.t 11) (Ki 0),(some (10,false))⟩,Gg 13 (.pick (.t 10) (.k (.s (.b true))) (.t 12)),
 Gm 14 13,⟨(some 15), .mv (.t 1),(some (14,false))⟩,⟨(some 16), .mv (.t 0),(some (14,false))⟩,⟨(some 17), .nil (.t 16),(some (14,false))⟩,
 ⟨(some 18), .fa (.t 17) 0,(some (14,false))⟩,⟨(some 19), .ld (.t 18) none,(some (14,false))⟩,⟨(some 20), .len (.t 19),(some (14,false))⟩,
 ⟨(some 21), .bin .gtr (.t 15) (.t 20),(some (14,false))⟩,Gg 22 (.pick (.t 14) (.k (.s (.b true))) (.t 21)),Gm 23 22,
 ⟨(some 24), .mv (.t 2),(some (23,false))⟩,⟨(some 25), .mv (.t 0),(some (23,false))⟩,⟨(some 26), .nil (.t 25),(some (23,false))⟩,
 ⟨(some 27), .fa (.t 26) 0,(some (23,false))⟩,⟨(some 28), .ld (.t 27) none,(some (23,false))⟩,⟨(some 29), .len (.t 28),(some (23,false))⟩,
 ⟨(some 30), .mv (.t 1),(some (23,false))⟩,⟨(some 31), .bin .sub (.t 29) (.t 30),(some (23,false))⟩,
 ⟨(some 32), .bin .gtr (.t 24) (.t 31),(some (23,false))⟩,
 Gg 33 (.pick (.t 23) (.k (.s (.b true))) (.t 32))]) (.cond (.t 33) (.seq (.reg [Gg 6 (.mv (.k (.s (.ns)))),
 Gg 7 (.mv (.k (.s (.b false))))]) (.ret)) (.skip))) (.seq (.reg [Gm 34 0,Gg 35 (.nil (.t 34)),Gg 36 (.fa (.t 35) 0),Gg 37 (.ld (.t 36) none),Gm 38 1,Gm 39 1,
 Gm 40 2,Gg 41 (.bin .add (.t 39) (.t 40)),Gg 42 (.slc none 1 (.t 37) (some (.t 38)) (some (.t 41))),Gm 6 42,
 Gg 7 (.mv (.k (.s (.b true))))]) (.ret))),[.t 6, .t 7]⟩

theorem dc32 : compF Try.prog Try.f32 = some df32:=by kernel_rfl
theorem ok32 : FnOk Try.prog 32:=⟨Try.f32,Try.func32,by kernel_rfl,by kernel_rfl⟩

def df33 : DF:= ⟨6, .seq (.reg [Gg 2 (.box (.t 0)),Gg 3 (.box (.t 1)),Gg 4 (.mv (.k (.s (.nf))))]) (.seq (.reg [Gg 5 (.mkf 61 [(.t 2),(.t 3)]),Gm 4 5]) (.ret)),[.t 4]⟩

theorem dc33 : compF Try.prog Try.f33 = some df33:=by kernel_rfl
theorem ok33 : FnOk Try.prog 33:=⟨Try.f33,Try.func33,by kernel_rfl,by kernel_rfl⟩

def df34 : DF:= ⟨6, .seq (.reg [Gg 2 (.mv (Ki 0))]) (.seq (.reg [Gg 3 (.call 63 []),Gm 4 0,Gg 5 (.call 64 [(.t 3),(.t 4)]),Gm 2 5]) (.ret)),[.t 2]⟩

theorem dc34 : compF Try.prog Try.f34 = some df34:=by kernel_rfl
theorem ok34 : FnOk Try.prog 34:=⟨Try.f34,Try.func34,by kernel_rfl,by kernel_rfl⟩

def df35 : DF:= ⟨24, .seq (.reg [Gg 4 (.new (Zi 14)),Gg 5 (.mv (Ki 0))]) (.seq (.reg [Gm 9 0,Gm 10 1,Gg 11 (.call 29 [(.t 9),(.t 10)]),Gm 8 11,Gg 12 (.ext (.t 8) 0),
 Gg 13 (.ext (.t 8) 1),Gg 6 (.new (Zi 14)),⟨none, .st (.t 6) (.t 12) 14,none⟩,Gm 7 13]) (.seq (.seq (.reg [Gm 14 7,Gg 15 (.bin .eql (.t 14) (Ki 0)),Gm 16 15,
 ⟨(some 17), .fa (.t 6) 0,(some (16,true))⟩,⟨(some 18), .fa (.t 17) 0,(some (16,true))⟩,⟨(some 19), .ld (.t 18) none,(some (16,true))⟩,
 ⟨(some 20), .bin .eql (.t 19) (Ki 0),(some (16,true))⟩,
 Gg 21 (.pick (.t 16) (.t 20) (.k (.s (.b false))))]) (.cond (.t 21) (.reg [Gg 7 (.mv (Ki 121))]) (.skip))) (.seq (.reg [Gg 22 (.ld (.t 6) (some 14)),Gm 23 7,
 ⟨none, .st (.t 4) (.t 22) 14,none⟩,Gm 5 23]) (.ret)))),[.c 4 (some 14), .t 5]⟩

theorem dc35 : compF Try.prog Try.f35 = some df35:=by kernel_rfl
theorem ok35 : FnOk Try.prog 35:=⟨Try.f35,Try.func35,by kernel_rfl,by kernel_rfl⟩

def df36 : DF:= ⟨9, .seq (.reg [Gg 4 (.mv (.k (.s (.b false))))]) (.seq (.reg [Gm 5 0,Gm 6 1,Gg 7 (.call 65 [(.t 5),(.t 6)]),Gg 8 (.bin .geq (.t 7) (Ki 0)),
 Gm 4 8]) (.ret)),[.t 4]⟩

theorem dc36 : compF Try.prog Try.f36 = some df36:=by kernel_rfl
theorem ok36 : FnOk Try.prog 36:=⟨Try.f36,Try.func36,by kernel_rfl,by kernel_rfl⟩

def df37 : DF:= ⟨26, .seq (.reg [Gg 5 (.box (.t 2)),Gg 6 (.mv (.k (.s (.b false))))]) (.seq (.reg [Gg 7 (.fa (.t 5) 11),Gg 8 (.ld (.t 7) none),Gg 9 (.bin .neq (.t 8) (Ki 0)),
 Gm 10 9,⟨(some 11), .fa (.t 5) 12,(some (10,false))⟩,⟨(some 12), .ld (.t 11) none,(some (10,false))⟩,
 ⟨(some 13), .bin .neq (.t 12) (Ki 0),(some (10,false))⟩,Gg 14 (.pick (.t 10) (.k (.s (.b true))) (.t 13)),Gm 15 14,
 ⟨(some 16), .fa (.t 5) 13,(some (15,false))⟩,⟨(some 17), .ld (.t 16) none,(some (15,false))⟩,⟨(some 18), .bin .neq (.t 17) (Ki 0),(some (15,false))⟩,
 Gg 19 (.pick (.t 15) (.k (.s (.b true))) (.t 18)),Gm 20 19,⟨(some 21), .mv (.t 0),(some (20,false))⟩,⟨(some 22), .call 34 [(.t 21)],(some (20,false))⟩,
 ⟨(some 23), .mv (.t 1),(some (20,false))⟩,⟨(some 24), .bin .eql (.t 22) (.t 23),(some (20,false))⟩,Gg 25 (.pick (.t 20) (.k (.s (.b true))) (.t 24)),
 Gm 6 25]) (.ret)),[.t 6]⟩

theorem dc37 : compF Try.prog Try.f37 = some df37:=by kernel_rfl
theorem ok37 : FnOk Try.prog 37:=⟨Try.f37,Try.func37,by kernel_rfl,by kernel_rfl⟩

def df38 : DF:= ⟨61, .seq (.reg [Gg 5 (.box (.t 2)),Gg 6 (.mv (Ki 0))]) (.seq (.seq (.reg [Gm 15 0,Gm 16 1,Gg 17 (.call 55 [(.t 15),(.t 16)]),
 Gg 18 (.un .not (.t 17))]) (.cond (.t 18) (.seq (.reg [Gg 6 (.mv (Ki 20))]) (.ret)) (.skip))) (.seq (.seq (.reg [Gg 19 (.ld (.t 5) (some 14)),
 Gg 20 (.call 59 [(.t 19)]),Gg 21 (.un .not (.t 20))]) (.cond (.t 21) (.seq (.reg [Gg 6 (.mv (Ki 110))]) (.ret)) (.skip))) (.seq (.reg [Gg 23 (.fa (.t 5) 0),
 Gg 24 (.ld (.t 23) (some 11)),Gg 25 (.call 66 [(.t 24)]),Gm 22 25,Gg 26 (.ext (.t 22) 0),Gg 27 (.ext (.t 22) 1),Gg 28 (.ext (.t 22) 2),Gm 7 26,Gm 8 27,
 Gm 9 28]) (.seq (.reg [Gg 10 (.mv (.k (.s (.fn 67 []))))]) (.seq (.drm [(true,Gm 30 10),(true,Gg 31 (.fa (.t 5) 11)),(true,Gg 32 (.ld (.t 31) none)),(true,Gm 34 10),(true,Gg 35 (.fa (.t 5) 12)),(true,Gg 36 (.ld (.t 35) none)),(true,Gm 38 10),(true,Gg 39 (.fa (.t 5) 13)),(true,Gg 40 (.ld (.t 39) none)),(true,Gg 33 (.callv (.t 30) [(.t 32)])),(true,Gg 37 (.callv (.t 34) [(.t 36)])),(false,Gg 41 (.callv (.t 38) [(.t 40)])),(false,Gg 42 (.bsl 3 [.i .i64 0, .i .u64 0, .i .i64 0, .i .u64 0, .i .i64 0, .i .u64 0] [(0,2,(.t 33)),(2,2,(.t 37)),(4,2,(.t 41))])),(false,Gg 43 (.call 68 [(.t 42)])),(true,Gm 29 43),(true,Gg 44 (.ext (.t 29) 0)),(true,Gg 45 (.ext (.t 29) 1)),(true,Gm 11 44),(true,Gm 12 45)]) (.seq (.seq (.reg [Gm 46 7,
 Gm 47 8,Gm 48 11,Gg 49 (.build [.i .u64 0, .i .u64 0, .i .u64 0, .i .u64 0] [(0,1,(.t 46)),(1,1,(.t 47)),(2,1,(.t 48)),(3,1,(.k (.s (.i .u64 0))))]),
 Gg 50 (.mv (Ki 0))]) (.block 0 (.loop (.seq (.reg [Gg 51 (.bin .lss (.t 50) (Ki 4))]) (.seq (.cond (.t 51) (.skip) (.exit 0)) (.seq (.block 1 (.seq (.reg [Gm 52 50,
 Gg 53 (.ix 4 1 none (.t 49) (.t 50)),Gm 13 52,Gm 14 53]) (.reg [Gm 54 0,Gm 55 1,Gm 56 13,Gg 57 (.bin .add (.t 55) (.t 56)),Gm 58 14,
 Gg 59 (.call 69 [(.t 54),(.t 57),(.t 58)])]))) (.reg [Gg 60 (.bin .add (.t 50) (Ki 1)),
 Gm 50 60]))))))) (.seq (.reg [Gg 6 (.mv (Ki 0))]) (.ret)))))))),[.t 6]⟩

theorem dc38 : compF Try.prog Try.f38 = some df38:=by kernel_rfl
theorem ok38 : FnOk Try.prog 38:=⟨Try.f38,Try.func38,by kernel_rfl,by kernel_rfl⟩

def df39 : DF:= ⟨21, .seq (.reg [Gg 6 (.box (.t 2))]) (.seq (.seq (.reg [Gm 8 1,Gg 9 (.bin .eql (.t 8) (Ki 0))]) (.cond (.t 9) (.reg [Gm 10 0,Gg 11 (.ld (.t 6) none),
 Gg 12 (.call 45 [(.t 10),(.t 11)])]) (.skip))) (.seq (.reg [Gm 13 0,Gm 14 1,Gg 15 (.mkf 70 [(.t 6)]),
 Gg 16 (.call 42 [(.t 13),(.t 14),(.t 15)])]) (.reg [Gm 17 0,Gm 18 3,Gg 19 (.mkf 71 [(.t 6)]),Gg 20 (.call 42 [(.t 17),(.t 18),(.t 19)])]))),[]⟩

theorem dc39 : compF Try.prog Try.f39 = some df39:=by kernel_rfl
theorem ok39 : FnOk Try.prog 39:=⟨Try.f39,Try.func39,by kernel_rfl,by kernel_rfl⟩

def df40 : DF:= ⟨22, .seq (.reg [Gg 4 (.mv (.k (.s (.b false)))),Gg 5 (.mv (Ki 0))]) (.seq (.reg [Gm 9 0,Gm 10 1,Gg 11 (.call 29 [(.t 9),(.t 10)]),Gm 8 11,
 Gg 12 (.ext (.t 8) 0),Gg 13 (.ext (.t 8) 1),Gg 6 (.new (Zi 14)),⟨none, .st (.t 6) (.t 12) 14,none⟩,Gm 7 13]) (.seq (.reg [Gm 14 7,
 Gg 15 (.bin .eql (.t 14) (Ki 0)),Gm 16 15,⟨(some 17), .ld (.t 6) (some 14),(some (16,true))⟩,⟨(some 18), .build (Zi 14) [],(some (16,true))⟩,
 ⟨(some 19), .eqa false [true,true,true,true,true,true,true,true,true,true,true,true,true,true] (.t 17) (.t 18),(some (16,true))⟩,
 Gg 20 (.pick (.t 16) (.t 19) (.k (.s (.b false)))),Gm 21 7,Gm 4 20,Gm 5 21]) (.ret))),[.t 4, .t 5]⟩

theorem dc40 : compF Try.prog Try.f40 = some df40:=by kernel_rfl
theorem ok40 : FnOk Try.prog 40:=⟨Try.f40,Try.func40,by kernel_rfl,by kernel_rfl⟩

def df41 : DF:= ⟨15, .seq (.reg [Gg 4 (.mv (Ki 0))]) (.seq (.seq (.reg [Gm 5 0]) (.block 0 (.seq (.reg [Gg 7 (.ld (.t 1) none),Gg 8 (.bin .eql (.t 5) (.t 7)),
 Gm 6 8]) (.cond (.t 6) (.seq (.reg [Gg 9 (.ld (.t 2) none),Gm 4 9]) (.ret)) (.seq (.reg [Gg 11 (.ld (.t 2) none),Gg 12 (.bin .eql (.t 5) (.t 11)),
 Gm 10 12]) (.cond (.t 10) (.seq (.reg [Gg 13 (.ld (.t 1) none),Gm 4 13]) (.ret)) (.skip))))))) (.seq (.reg [Gm 14 0,Gm 4 14]) (.ret))),[.t 4]⟩

theorem dc41 : compF Try.prog Try.f41 = some df41:=by kernel_rfl
theorem ok41 : FnOk Try.prog 41:=⟨Try.f41,Try.func41,by kernel_rfl,by kernel_rfl⟩

def df42 : DF:= ⟨24, .seq (.seq (.reg [Gm 8 1,Gg 9 (.bin .eql (.t 8) (Ki 0))]) (.cond (.t 9) (.ret) (.skip))) (.seq (.reg [Gm 11 0,Gm 12 1,
 Gg 13 (.call 35 [(.t 11),(.t 12)]),Gm 10 13,Gg 14 (.ext (.t 10) 0),Gg 15 (.ext (.t 10) 1),Gg 6 (.new (Zi 14)),⟨none, .st (.t 6) (.t 14) 14,none⟩,
 Gm 7 15]) (.seq (.reg [Gm 16 7,Gg 17 (.bin .eql (.t 16) (Ki 0))]) (.cond (.t 17) (.seq (.reg [Gm 18 2,Gg 19 (.callv (.t 18) [(.t 6)])]) (.reg [Gm 20 0,Gm 21 1,
 Gg 22 (.ld (.t 6) (some 14)),Gg 23 (.call 38 [(.t 20),(.t 21),(.t 22)])])) (.skip)))),[]⟩

theorem dc42 : compF Try.prog Try.f42 = some df42:=by kernel_rfl
theorem ok42 : FnOk Try.prog 42:=⟨Try.f42,Try.func42,by kernel_rfl,by kernel_rfl⟩

def df43 : DF:= ⟨9, .reg [Gm 2 0,Gg 3 (.nil (.t 2)),Gg 4 (.fa (.t 3) 13),Gg 5 (.ld (.t 4) none),Gg 6 (.bin .sub (.t 5) (Ki 1)),Gg 7 (.nil (.t 2)),Gg 8 (.fa (.t 7) 13),
 ⟨none, .st (.t 8) (.t 6) 1,none⟩],[]⟩

theorem dc43 : compF Try.prog Try.f43 = some df43:=by kernel_rfl
theorem ok43 : FnOk Try.prog 43:=⟨Try.f43,Try.func43,by kernel_rfl,by kernel_rfl⟩

def df44 : DF:= ⟨9, .reg [Gm 2 0,Gg 3 (.nil (.t 2)),Gg 4 (.fa (.t 3) 13),Gg 5 (.ld (.t 4) none),Gg 6 (.bin .sub (.t 5) (Ki 1)),Gg 7 (.nil (.t 2)),Gg 8 (.fa (.t 7) 13),
 ⟨none, .st (.t 8) (.t 6) 1,none⟩],[]⟩

theorem dc44 : compF Try.prog Try.f44 = some df44:=by kernel_rfl
theorem ok44 : FnOk Try.prog 44:=⟨Try.f44,Try.func44,by kernel_rfl,by kernel_rfl⟩

def df45 : DF:= ⟨9, .seq (.reg [Gg 4 (.mv (Ki 0))]) (.seq (.reg [Gg 5 (.call 63 []),Gm 6 0,Gm 7 1,Gg 8 (.call 72 [(.t 5),(.t 6),(.t 7)]),Gm 4 8]) (.ret)),[.t 4]⟩

theorem dc45 : compF Try.prog Try.f45 = some df45:=by kernel_rfl
theorem ok45 : FnOk Try.prog 45:=⟨Try.f45,Try.func45,by kernel_rfl,by kernel_rfl⟩

def df46 : DF:= ⟨8, .reg [Gm 3 0,Gg 4 (.fa (.t 1) 12),Gg 5 (.ld (.t 4) none),Gg 6 (.nil (.t 3)),Gg 7 (.fa (.t 6) 12),⟨none, .st (.t 7) (.t 5) 1,none⟩],[]⟩

theorem dc46 : compF Try.prog Try.f46 = some df46:=by kernel_rfl
theorem ok46 : FnOk Try.prog 46:=⟨Try.f46,Try.func46,by kernel_rfl,by kernel_rfl⟩

def df47 : DF:= ⟨8, .reg [Gm 3 0,Gg 4 (.fa (.t 1) 11),Gg 5 (.ld (.t 4) none),Gg 6 (.nil (.t 3)),Gg 7 (.fa (.t 6) 11),⟨none, .st (.t 7) (.t 5) 1,none⟩],[]⟩

theorem dc47 : compF Try.prog Try.f47 = some df47:=by kernel_rfl
theorem ok47 : FnOk Try.prog 47:=⟨Try.f47,Try.func47,by kernel_rfl,by kernel_rfl⟩

def df48 : DF:= ⟨16, .seq (.reg [Gg 2 (.mv (.k (.s (.np))))]) (.seq (.reg [Gm 4 0,Gg 5 (.len (.t 4)),Gg 6 (.mks 1 8 [.i .u64 0] (.t 5) (.t 5)),
 Gg 7 (.build [.ns, .i .i64 0] [(0,1,(.t 6))]),Gg 8 (.box (.t 7)),Gm 3 8]) (.seq (.reg [Gm 9 3,Gg 10 (.nil (.t 9)),Gg 11 (.fa (.t 10) 0),
 Gg 12 (.ld (.t 11) none),Gm 13 0,Gg 14 (.cpy 1 (.t 12) (.t 13))]) (.seq (.reg [Gm 15 3,Gm 2 15]) (.ret)))),[.t 2]⟩

theorem dc48 : compF Try.prog Try.f48 = some df48:=by kernel_rfl
theorem ok48 : FnOk Try.prog 48:=⟨Try.f48,Try.func48,by kernel_rfl,by kernel_rfl⟩

def df49 : DF:= ⟨38, .seq (.reg [Gg 2 (.mv (.k (.s (.ns)))),Gg 3 (.mv (Ki 0))]) (.seq (.reg [Gg 4 (.mv (.k (.s (.ns))))]) (.seq (.reg [Gm 8 0,Gg 9 (.call 73 [(.t 8)]),
 Gm 5 9]) (.seq (.block 0 (.loop (.seq (.seq (.reg [Gm 10 5,Gg 11 (.bin .neq (.t 10) (Ki 0))]) (.cond (.t 11) (.skip) (.exit 0))) (.block 1 (.seq (.reg [Gm 13 0,
 Gm 14 5,Gg 15 (.call 74 [(.t 13),(.t 14)]),Gm 12 15,Gg 16 (.ext (.t 12) 0),Gg 17 (.ext (.t 12) 1),Gg 6 (.new (Zi 14)),⟨none, .st (.t 6) (.t 16) 14,none⟩,
 Gm 7 17]) (.seq (.seq (.reg [Gm 18 7,Gg 19 (.bin .neq (.t 18) (Ki 0)),Gm 20 19,⟨(some 21), .mv (.t 4),(some (20,false))⟩,
 ⟨(some 22), .len (.t 21),(some (20,false))⟩,⟨(some 23), .mv (.t 0),(some (20,false))⟩,⟨(some 24), .nil (.t 23),(some (20,false))⟩,
 ⟨(some 25), .fa (.t 24) 0,(some (20,false))⟩,⟨(some 26), .ld (.t 25) none,(some (20,false))⟩,⟨(some 27), .len (.t 26),(some (20,false))⟩,
 ⟨(some 28), .bin .quo (.t 27) (Ki 4),(some (20,false))⟩,⟨(some 29), .bin .gtr (.t 22) (.t 28),(some (20,false))⟩,
 Gg 30 (.pick (.t 20) (.k (.s (.b true))) (.t 29))]) (.cond (.t 30) (.seq (.reg [Gg 2 (.mv (.k (.s (.ns)))),
 Gg 3 (.mv (Ki 110))]) (.ret)) (.skip))) (.seq (.reg [Gm 31 4,Gm 32 5,Gg 33 (.bsl 1 [.i .i64 0] [(0,1,(.t 32))]),Gg 34 (.app 1 8 (.t 31) (.t 33)),
 Gm 4 34]) (.reg [Gg 35 (.fa (.t 6) 12),Gg 36 (.ld (.t 35) none),Gm 5 36])))))))) (.seq (.reg [Gm 37 4,Gm 2 37,Gg 3 (.mv (Ki 0))]) (.ret))))),[.t 2, .t 3]⟩

theorem dc49 : compF Try.prog Try.f49 = some df49:=by kernel_rfl
theorem ok49 : FnOk Try.prog 49:=⟨Try.f49,Try.func49,by kernel_rfl,by kernel_rfl⟩

def df50 : DF:= ⟨89, .seq (.reg [Gg 4 (.new (Zi 14)),Gg 5 (.mv (Ki 0))]) (.seq (.reg [Gm 19 0,Gm 20 1,Gg 21 (.call 75 [(.t 19),(.t 20)]),
 Gm 6 21]) (.seq (.seq (.reg [Gm 22 6,Gg 23 (.un .not (.t 22))]) (.cond (.t 23) (.seq (.reg [Gg 24 (.build (Zi 14) []),⟨none, .st (.t 4) (.t 24) 14,none⟩,
 Gg 5 (.mv (Ki 20))]) (.ret)) (.skip))) (.seq (.reg [Gm 26 0,Gm 27 1,Gg 28 (.call 76 [(.t 26),(.t 27)]),Gm 25 28,Gg 29 (.ext (.t 25) 0),Gg 30 (.ext (.t 25) 1),
 Gm 7 29,Gm 8 30]) (.seq (.reg [Gm 32 0,Gm 33 1,Gg 34 (.bin .add (.t 33) (Ki 1)),Gg 35 (.call 76 [(.t 32),(.t 34)]),Gm 31 35,Gg 36 (.ext (.t 31) 0),
 Gg 37 (.ext (.t 31) 1),Gm 9 36,Gm 10 37]) (.seq (.reg [Gm 39 0,Gm 40 1,Gg 41 (.bin .add (.t 40) (Ki 2)),Gg 42 (.call 76 [(.t 39),(.t 41)]),Gm 38 42,
 Gg 43 (.ext (.t 38) 0),Gg 44 (.ext (.t 38) 1),Gm 11 43,Gm 12 44]) (.seq (.reg [Gm 46 0,Gm 47 1,Gg 48 (.bin .add (.t 47) (Ki 3)),
 Gg 49 (.call 76 [(.t 46),(.t 48)]),Gm 45 49,Gg 50 (.ext (.t 45) 0),Gg 51 (.ext (.t 45) 1),Gm 13 50,Gm 14 51]) (.seq (.reg [Gm 53 7,Gm 54 9,
 Gg 55 (.call 77 [(.t 53),(.t 54)]),Gm 52 55,Gg 56 (.ext (.t 52) 0),Gg 57 (.ext (.t 52) 1),Gg 15 (.new (Zi 11)),⟨none, .st (.t 15) (.t 56) 11,none⟩,
 Gm 16 57]) (.seq (.reg [Gg 58 (.ld (.t 15) (some 11)),Gm 59 11,Gg 60 (.bin .rem (.t 59) (.k (.s (.i .u64 65536)))),Gg 61 (.conv .i64 (.t 60)),Gm 62 11,
 Gg 63 (.bin .shr (.t 62) (.k (.s (.i .u64 16)))),Gg 64 (.bin .rem (.t 63) (.k (.s (.i .u64 65536)))),Gg 65 (.conv .i64 (.t 64)),Gm 66 11,
 Gg 67 (.bin .shr (.t 66) (.k (.s (.i .u64 32)))),Gg 68 (.bin .rem (.t 67) (.k (.s (.i .u64 65536)))),Gg 69 (.conv .i64 (.t 68)),
 Gg 70 (.build (Zi 14) [(0,11,(.t 58)),(11,1,(.t 61)),(12,1,(.t 65)),(13,1,(.t 69))]),Gg 17 (.new (Zi 14)),
 ⟨none, .st (.t 17) (.t 70) 14,none⟩]) (.seq (.reg [Gg 71 (.ld (.t 17) (some 14)),Gg 72 (.call 78 [(.t 71)]),Gm 18 72]) (.seq (.seq (.reg [Gm 73 16,
 Gg 74 (.bin .neq (.t 73) (Ki 0)),Gm 75 74,⟨(some 76), .mv (.t 18),(some (75,false))⟩,⟨(some 77), .un .not (.t 76),(some (75,false))⟩,
 Gg 78 (.pick (.t 75) (.k (.s (.b true))) (.t 77)),Gm 79 78,⟨(some 80), .mv (.t 11),(some (79,false))⟩,
 ⟨(some 81), .bin .geq (.t 80) (.k (.s (.i .u64 281474976710656))),(some (79,false))⟩,Gg 82 (.pick (.t 79) (.k (.s (.b true))) (.t 81)),Gm 83 82,
 ⟨(some 84), .mv (.t 13),(some (83,false))⟩,⟨(some 85), .bin .neq (.t 84) (.k (.s (.i .u64 0))),(some (83,false))⟩,
 Gg 86 (.pick (.t 83) (.k (.s (.b true))) (.t 85))]) (.cond (.t 86) (.seq (.reg [Gg 87 (.build (Zi 14) []),⟨none, .st (.t 4) (.t 87) 14,none⟩,
 Gg 5 (.mv (Ki 110))]) (.ret)) (.skip))) (.seq (.reg [Gg 88 (.ld (.t 17) (some 14)),⟨none, .st (.t 4) (.t 88) 14,none⟩,
 Gg 5 (.mv (Ki 0))]) (.ret)))))))))))),[.c 4 (some 14), .t 5]⟩

theorem dc50 : compF Try.prog Try.f50 = some df50:=by kernel_rfl
theorem ok50 : FnOk Try.prog 50:=⟨Try.f50,Try.func50,by kernel_rfl,by kernel_rfl⟩

def df51 : DF:= ⟨18, .seq (.reg [Gg 4 (.mv (.k (.s (.b false))))]) (.seq (.seq (.reg [Gg 5 (.mv (Ki 0))]) (.block 0 (.loop (.seq (.seq (.reg [Gm 6 5,Gm 7 0,
 Gg 8 (.len (.t 7)),Gg 9 (.bin .lss (.t 6) (.t 8))]) (.cond (.t 9) (.skip) (.exit 0))) (.seq (.block 1 (.seq (.reg [Gm 12 0,Gm 13 5,
 Gg 14 (.ia none 1 (.t 12) (.t 13)),Gg 15 (.ld (.t 14) none),Gm 16 1,
 Gg 17 (.bin .eql (.t 15) (.t 16))]) (.cond (.t 17) (.seq (.reg [Gg 4 (.mv (.k (.s (.b true))))]) (.ret)) (.skip)))) (.reg [Gm 10 5,
 Gg 11 (.bin .add (.t 10) (Ki 1)),Gm 5 11])))))) (.seq (.reg [Gg 4 (.mv (.k (.s (.b false))))]) (.ret))),[.t 4]⟩

theorem dc51 : compF Try.prog Try.f51 = some df51:=by kernel_rfl
theorem ok51 : FnOk Try.prog 51:=⟨Try.f51,Try.func51,by kernel_rfl,by kernel_rfl⟩

def df52 : DF:= ⟨12, .seq (.reg [Gg 2 (.new (Zi 11))]) (.seq (.reg [Gm 4 0,Gg 5 (.bin .rem (.t 4) (Ki 16)),Gm 3 5]) (.seq (.seq (.reg [Gm 6 3,
 Gg 7 (.bin .lss (.t 6) (Ki 0))]) (.cond (.t 7) (.reg [Gm 8 3,Gg 9 (.bin .add (.t 8) (Ki 16)),Gm 3 9]) (.skip))) (.seq (.reg [Gm 10 3,
 Gg 11 (.build (Zi 11) [(0,1,(Ki 12)),(10,1,(.t 10))]),⟨none, .st (.t 2) (.t 11) 11,none⟩]) (.ret)))),[.c 2 (some 11)]⟩

theorem dc52 : compF Try.prog Try.f52 = some df52:=by kernel_rfl
theorem ok52 : FnOk Try.prog 52:=⟨Try.f52,Try.func52,by kernel_rfl,by kernel_rfl⟩

def df53 : DF:= ⟨58, .seq (.reg [Gg 5 (.box (.t 2)),Gg 6 (.mv (Ki 0))]) (.seq (.reg [Gm 12 0,Gm 13 1,Gg 14 (.call 75 [(.t 12),(.t 13)]),Gm 7 14]) (.seq (.seq (.reg [Gm 15 7,
 Gg 16 (.un .not (.t 15))]) (.cond (.t 16) (.seq (.reg [Gg 6 (.mv (Ki 20))]) (.ret)) (.skip))) (.seq (.reg [Gg 17 (.ld (.t 5) (some 14)),
 Gg 18 (.call 78 [(.t 17)]),Gm 8 18]) (.seq (.seq (.reg [Gm 19 8,
 Gg 20 (.un .not (.t 19))]) (.cond (.t 20) (.seq (.reg [Gg 6 (.mv (Ki 110))]) (.ret)) (.skip))) (.seq (.reg [Gg 22 (.fa (.t 5) 0),Gg 23 (.ld (.t 22) (some 11)),
 Gg 24 (.call 79 [(.t 23)]),Gm 21 24,Gg 25 (.ext (.t 21) 0),Gg 26 (.ext (.t 21) 1),Gg 27 (.ext (.t 21) 2),Gm 9 25,Gm 10 26,Gm 11 27]) (.seq (.reg [Gm 28 0,
 Gm 29 1,Gm 30 9,Gg 31 (.call 80 [(.t 28),(.t 29),(.t 30)])]) (.seq (.reg [Gm 32 0,Gm 33 1,Gg 34 (.bin .add (.t 33) (Ki 1)),Gm 35 10,
 Gg 36 (.call 80 [(.t 32),(.t 34),(.t 35)])]) (.seq (.reg [Gm 37 0,Gm 38 1,Gg 39 (.bin .add (.t 38) (Ki 2)),Gg 40 (.fa (.t 5) 11),Gg 41 (.ld (.t 40) none),
 Gg 42 (.conv .u64 (.t 41)),Gg 43 (.fa (.t 5) 12),Gg 44 (.ld (.t 43) none),Gg 45 (.conv .u64 (.t 44)),Gg 46 (.bin .shl (.t 45) (.k (.s (.i .u64 16)))),
 Gg 47 (.bin .add (.t 42) (.t 46)),Gg 48 (.fa (.t 5) 13),Gg 49 (.ld (.t 48) none),Gg 50 (.conv .u64 (.t 49)),Gg 51 (.bin .shl (.t 50) (.k (.s (.i .u64 32)))),
 Gg 52 (.bin .add (.t 47) (.t 51)),Gg 53 (.call 80 [(.t 37),(.t 39),(.t 52)])]) (.seq (.reg [Gm 54 0,Gm 55 1,Gg 56 (.bin .add (.t 55) (Ki 3)),
 Gg 57 (.call 80 [(.t 54),(.t 56),(.k (.s (.i .u64 0)))])]) (.seq (.reg [Gg 6 (.mv (Ki 0))]) (.ret))))))))))),[.t 6]⟩

theorem dc53 : compF Try.prog Try.f53 = some df53:=by kernel_rfl
theorem ok53 : FnOk Try.prog 53:=⟨Try.f53,Try.func53,by kernel_rfl,by kernel_rfl⟩

def df54 : DF:= ⟨8, .seq (.reg [Gg 2 (.mv (.k (.s (.ns))))]) (.seq (.seq (.reg [Gm 3 0,
 Gg 4 (.eqn true false (.t 3))]) (.cond (.t 4) (.seq (.reg [Gg 2 (.mv (.k (.s (.ns))))]) (.ret)) (.skip))) (.seq (.reg [Gg 5 (.bsl 0 [] []),Gm 6 0,
 Gg 7 (.app 1 8 (.t 5) (.t 6)),Gm 2 7]) (.ret))),[.t 2]⟩

theorem dc54 : compF Try.prog Try.f54 = some df54:=by kernel_rfl
theorem ok54 : FnOk Try.prog 54:=⟨Try.f54,Try.func54,by kernel_rfl,by kernel_rfl⟩

def df55 : DF:= ⟨19, .seq (.reg [Gg 4 (.mv (.k (.s (.b false))))]) (.seq (.reg [Gm 5 1,Gg 6 (.bin .geq (.t 5) (Ki 4)),Gm 7 6,⟨(some 8), .mv (.t 1),(some (7,true))⟩,
 ⟨(some 9), .bin .rem (.t 8) (Ki 4),(some (7,true))⟩,⟨(some 10), .bin .eql (.t 9) (Ki 0),(some (7,true))⟩,Gg 11 (.pick (.t 7) (.t 10) (.k (.s (.b false)))),
 Gm 12 11,⟨(some 13), .mv (.t 1),(some (12,true))⟩,⟨(some 14), .mv (.t 0),(some (12,true))⟩,⟨(some 15), .call 62 [(.t 14)],(some (12,true))⟩,
 ⟨(some 16), .bin .sub (.t 15) (Ki 4),(some (12,true))⟩,⟨(some 17), .bin .leq (.t 13) (.t 16),(some (12,true))⟩,
 Gg 18 (.pick (.t 12) (.t 17) (.k (.s (.b false)))),Gm 4 18]) (.ret)),[.t 4]⟩

theorem dc55 : compF Try.prog Try.f55 = some df55:=by kernel_rfl
theorem ok55 : FnOk Try.prog 55:=⟨Try.f55,Try.func55,by kernel_rfl,by kernel_rfl⟩

def df56 : DF:= ⟨26, .seq (.reg [Gg 4 (.mv (.k (.s (.i .u64 0)))),Gg 5 (.mv (Ki 0))]) (.seq (.reg [Gm 9 0,Gm 10 1,Gg 11 (.call 32 [(.t 9),(.t 10),(Ki 1)]),Gm 8 11,
 Gg 12 (.ext (.t 8) 0),Gg 13 (.ext (.t 8) 1),Gm 6 12,Gm 7 13]) (.seq (.seq (.reg [Gm 14 7,
 Gg 15 (.un .not (.t 14))]) (.cond (.t 15) (.seq (.reg [Gg 4 (.mv (.k (.s (.i .u64 0)))),Gg 5 (.mv (Ki 20))]) (.ret)) (.skip))) (.seq (.reg [Gm 16 0,
 Gg 17 (.nil (.t 16)),Gg 18 (.fa (.t 17) 1),Gg 19 (.ld (.t 18) none),Gg 20 (.bin .add (.t 19) (Ki 1)),Gg 21 (.nil (.t 16)),Gg 22 (.fa (.t 21) 1),
 ⟨none, .st (.t 22) (.t 20) 1,none⟩]) (.seq (.reg [Gm 23 6,Gg 24 (.ia none 1 (.t 23) (Ki 0)),Gg 25 (.ld (.t 24) none),Gm 4 25,
 Gg 5 (.mv (Ki 0))]) (.ret))))),[.t 4, .t 5]⟩

theorem dc56 : compF Try.prog Try.f56 = some df56:=by kernel_rfl
theorem ok56 : FnOk Try.prog 56:=⟨Try.f56,Try.func56,by kernel_rfl,by kernel_rfl⟩

def df57 : DF:= ⟨77, .seq (.reg [Gg 4 (.new (Zi 11)),Gg 5 (.mv (Ki 0))]) (.seq (.reg [Gm 11 0,
 Gg 12 (.bsl 7 (Zi 7) [(0,1,(Ki 4)),(1,1,(Ki 16)),(2,1,(Ki 5)),(3,1,(Ki 3)),(4,1,(Ki 4)),(5,1,(Ki 6)),(6,1,(Ki 5))]),
 Gg 13 (.call 58 [(.t 11),(.t 12)]),Gm 10 13,Gg 14 (.ext (.t 10) 0),Gg 15 (.ext (.t 10) 1),Gm 6 14,Gm 7 15]) (.seq (.seq (.reg [Gm 16 7,
 Gg 17 (.bin .neq (.t 16) (Ki 0)),Gm 18 17,⟨(some 19), .mv (.t 1),(some (18,false))⟩,
 ⟨(some 20), .bin .geq (.t 19) (.k (.s (.i .u64 4294967296))),(some (18,false))⟩,
 Gg 21 (.pick (.t 18) (.k (.s (.b true))) (.t 20))]) (.cond (.t 21) (.seq (.reg [Gg 22 (.build (Zi 11) []),⟨none, .st (.t 4) (.t 22) 11,none⟩,
 Gg 5 (.mv (Ki 60))]) (.ret)) (.skip))) (.seq (.drm [(true,Gm 23 6),(true,Gg 24 (.ia none 1 (.t 23) (Ki 0))),(true,Gg 25 (.ld (.t 24) none)),(true,Gg 26 (.conv .i64 (.t 25))),(true,Gm 27 6),(true,Gg 28 (.ia none 1 (.t 27) (Ki 1))),(true,Gg 29 (.ld (.t 28) none)),(true,Gg 30 (.conv .i64 (.t 29))),(true,Gm 31 6),(true,Gg 32 (.ia none 1 (.t 31) (Ki 2))),(true,Gg 33 (.ld (.t 32) none)),(true,Gg 34 (.conv .i64 (.t 33))),(true,Gm 35 6),(true,Gg 36 (.ia none 1 (.t 35) (Ki 3))),(true,Gg 37 (.ld (.t 36) none)),(true,Gg 38 (.conv .i64 (.t 37))),(true,Gm 39 6),(true,Gg 40 (.ia none 1 (.t 39) (Ki 4))),(true,Gg 41 (.ld (.t 40) none)),(true,Gg 42 (.conv .i64 (.t 41))),(true,Gm 43 6),(true,Gg 44 (.ia none 1 (.t 43) (Ki 5))),(true,Gg 45 (.ld (.t 44) none)),(true,Gg 46 (.conv .i64 (.t 45))),(true,Gm 47 6),(true,Gg 48 (.ia none 1 (.t 47) (Ki 6))),(true,Gg 49 (.ld (.t 48) none)),(true,Gg 50 (.conv .i64 (.t 49))),(true,Gg 51 (.build (Zi 11) [(0,1,(.t 26)),(1,1,(.t 30)),(2,1,(.t 34)),(7,1,(.t 38)),(10,1,(.t 42)),(8,1,(.t 46)),(5,1,(.t 50))])),(false,Gg 8 (.new (Zi 11))),(false,⟨none, .st (.t 8) (.t 51) 11,none⟩)]) (.seq (.reg [Gm 52 1,
 Gg 53 (.conv .i64 (.t 52)),Gm 9 53]) (.seq (.seq (.reg [Gg 54 (.fa (.t 8) 0),Gg 55 (.ld (.t 54) none)]) (.block 0 (.seq (.reg [Gg 59 (.bin .eql (.t 55) (Ki 2)),
 Gm 58 59]) (.cond (.t 58) (.reg [Gm 60 9,Gg 61 (.fa (.t 8) 4),⟨none, .st (.t 61) (.t 60) 1,none⟩]) (.seq (.seq (.reg [Gg 63 (.bin .eql (.t 55) (Ki 4)),
 Gm 62 63]) (.cond (.t 62) (.skip) (.reg [Gg 64 (.bin .eql (.t 55) (Ki 5)),Gm 62 64]))) (.cond (.t 62) (.reg [Gm 65 9,Gg 66 (.fa (.t 8) 6),
 ⟨none, .st (.t 66) (.t 65) 1,none⟩]) (.seq (.seq (.reg [Gg 68 (.bin .eql (.t 55) (Ki 6)),
 Gm 67 68]) (.cond (.t 67) (.skip) (.reg [Gg 69 (.bin .eql (.t 55) (Ki 8)),Gm 67 69]))) (.cond (.t 67) (.reg [Gm 70 9,Gg 71 (.fa (.t 8) 9),
 ⟨none, .st (.t 71) (.t 70) 1,none⟩]) (.reg [Gm 56 9,Gg 57 (.fa (.t 8) 3),
 ⟨none, .st (.t 57) (.t 56) 1,none⟩]))))))))) (.seq (.seq (.reg [Gg 72 (.ld (.t 8) (some 11)),Gg 73 (.call 81 [(.t 72)]),
 Gg 74 (.un .not (.t 73))]) (.cond (.t 74) (.seq (.reg [Gg 75 (.build (Zi 11) []),⟨none, .st (.t 4) (.t 75) 11,none⟩,
 Gg 5 (.mv (Ki 60))]) (.ret)) (.skip))) (.seq (.reg [Gg 76 (.ld (.t 8) (some 11)),⟨none, .st (.t 4) (.t 76) 11,none⟩,
 Gg 5 (.mv (Ki 0))]) (.ret)))))))),[.c 4 (some 11), .t 5]⟩

theorem dc57 : compF Try.prog Try.f57 = some df57:=by kernel_rfl
theorem ok57 : FnOk Try.prog 57:=⟨Try.f57,Try.func57,by kernel_rfl,by kernel_rfl⟩

def df58 : DF:= ⟨41, .seq (.reg [Gg 4 (.mv (.k (.s (.ns)))),
 Gg 5 (.mv (Ki 0))]) (.seq (.reg [Gg 6 (.mv (.k (.s (.ns))))]) (.seq (.reg [Gg 7 (.mv (Ki 0))]) (.seq (.seq (.reg [Gm 12 1,Gg 13 (.len (.t 12)),
 Gg 14 (.mv (Ki 0))]) (.block 0 (.loop (.seq (.reg [Gg 15 (.bin .lss (.t 14) (.t 13))]) (.seq (.cond (.t 15) (.skip) (.exit 0)) (.seq (.block 1 (.seq (.reg [Gg 16 (.ia none 1 (.t 12) (.t 14)),
 Gg 17 (.ld (.t 16) none),Gm 9 17]) (.seq (.reg [Gm 19 0,Gm 20 7,Gm 21 9,Gg 22 (.call 82 [(.t 19),(.t 20),(.t 21)]),Gm 18 22,Gg 23 (.ext (.t 18) 0),
 Gg 24 (.ext (.t 18) 1),Gm 10 23,Gm 11 24]) (.seq (.seq (.reg [Gm 25 11,Gg 26 (.bin .neq (.t 25) (Ki 0))]) (.cond (.t 26) (.seq (.reg [Gm 27 11,
 Gg 4 (.mv (.k (.s (.ns)))),Gm 5 27]) (.ret)) (.skip))) (.seq (.reg [Gm 28 6,Gm 29 10,Gg 30 (.bsl 1 [.i .u64 0] [(0,1,(.t 29))]),
 Gg 31 (.app 1 8 (.t 28) (.t 30)),Gm 6 31]) (.reg [Gm 32 7,Gm 33 9,Gg 34 (.bin .add (.t 32) (.t 33)),Gm 7 34])))))) (.reg [Gg 35 (.bin .add (.t 14) (Ki 1)),
 Gm 14 35]))))))) (.seq (.seq (.reg [Gm 36 0,Gm 37 7,Gg 38 (.bin .shr (.t 36) (.t 37)),
 Gg 39 (.bin .neq (.t 38) (.k (.s (.i .u64 0))))]) (.cond (.t 39) (.seq (.reg [Gg 4 (.mv (.k (.s (.ns)))),
 Gg 5 (.mv (Ki 10))]) (.ret)) (.skip))) (.seq (.reg [Gm 40 6,Gm 4 40,Gg 5 (.mv (Ki 0))]) (.ret)))))),[.t 4, .t 5]⟩

theorem dc58 : compF Try.prog Try.f58 = some df58:=by kernel_rfl
theorem ok58 : FnOk Try.prog 58:=⟨Try.f58,Try.func58,by kernel_rfl,by kernel_rfl⟩

def df59 : DF:= ⟨35, .seq (.reg [Gg 1 (.box (.t 0)),Gg 2 (.mv (.k (.s (.b false))))]) (.seq (.seq (.reg [Gg 3 (.fa (.t 1) 0),Gg 4 (.fa (.t 3) 0),Gg 5 (.ld (.t 4) none),
 Gg 6 (.bin .eql (.t 5) (Ki 0)),Gm 7 6,⟨(some 8), .ld (.t 1) (some 14),(some (7,true))⟩,⟨(some 9), .build (Zi 14) [],(some (7,true))⟩,
 ⟨(some 10), .eqa true [true,true,true,true,true,true,true,true,true,true,true,true,true,true] (.t 8) (.t 9),(some (7,true))⟩,
 Gg 11 (.pick (.t 7) (.t 10) (.k (.s (.b false))))]) (.cond (.t 11) (.seq (.reg [Gg 2 (.mv (.k (.s (.b false))))]) (.ret)) (.skip))) (.seq (.reg [Gg 12 (.fa (.t 1) 0),
 Gg 13 (.ld (.t 12) (some 11)),Gg 14 (.call 81 [(.t 13)]),Gm 15 14,⟨(some 16), .fa (.t 1) 11,(some (15,true))⟩,
 ⟨(some 17), .ld (.t 16) none,(some (15,true))⟩,⟨(some 18), .call 83 [(.t 17)],(some (15,true))⟩,Gg 19 (.pick (.t 15) (.t 18) (.k (.s (.b false)))),Gm 20 19,
 ⟨(some 21), .fa (.t 1) 12,(some (20,true))⟩,⟨(some 22), .ld (.t 21) none,(some (20,true))⟩,⟨(some 23), .call 83 [(.t 22)],(some (20,true))⟩,
 Gg 24 (.pick (.t 20) (.t 23) (.k (.s (.b false)))),Gm 25 24,⟨(some 26), .fa (.t 1) 13,(some (25,true))⟩,⟨(some 27), .ld (.t 26) none,(some (25,true))⟩,
 ⟨(some 28), .bin .geq (.t 27) (Ki 0),(some (25,true))⟩,Gg 29 (.pick (.t 25) (.t 28) (.k (.s (.b false)))),Gm 30 29,
 ⟨(some 31), .fa (.t 1) 13,(some (30,true))⟩,⟨(some 32), .ld (.t 31) none,(some (30,true))⟩,⟨(some 33), .bin .lss (.t 32) (Ki 65536),(some (30,true))⟩,
 Gg 34 (.pick (.t 30) (.t 33) (.k (.s (.b false)))),Gm 2 34]) (.ret))),[.t 2]⟩

theorem dc59 : compF Try.prog Try.f59 = some df59:=by kernel_rfl
theorem ok59 : FnOk Try.prog 59:=⟨Try.f59,Try.func59,by kernel_rfl,by kernel_rfl⟩

def df60 : DF:= ⟨15, .seq (.reg [Gg 2 (.mv (.k (.s (.np)))),Gg 3 (.mv (Ki 0))]) (.seq (.seq (.reg [Gm 4 0,Gg 5 (.bin .lss (.t 4) (Ki 11)),Gm 6 5,
 ⟨(some 7), .mv (.t 0),(some (6,false))⟩,⟨(some 8), .bin .gtr (.t 7) (Ki 16),(some (6,false))⟩,
 Gg 9 (.pick (.t 6) (.k (.s (.b true))) (.t 8))]) (.cond (.t 9) (.seq (.reg [Gg 2 (.mv (.k (.s (.np)))),
 Gg 3 (.mv (Ki 1))]) (.ret)) (.skip))) (.seq (.reg [Gm 10 0,Gg 11 (.bin .shl (Ki 1) (.t 10)),Gg 12 (.mks 1 8 [.i .u64 0] (.t 11) (.t 11)),
 Gg 13 (.build [.ns, .i .i64 0] [(0,1,(.t 12))]),Gg 14 (.box (.t 13)),Gm 2 14,Gg 3 (.mv (Ki 0))]) (.ret))),[.t 2, .t 3]⟩

theorem dc60 : compF Try.prog Try.f60 = some df60:=by kernel_rfl
theorem ok60 : FnOk Try.prog 60:=⟨Try.f60,Try.func60,by kernel_rfl,by kernel_rfl⟩

def df61 : DF:= ⟨37, .seq (.seq (.reg [Gg 6 (.ld (.t 1) none),Gg 7 (.call 62 [(.t 6)]),Gg 8 (.bin .quo (.t 7) (Ki 4)),
 Gg 9 (.mv (Ki 0))]) (.block 0 (.loop (.seq (.reg [Gg 10 (.bin .lss (.t 9) (.t 8))]) (.seq (.cond (.t 10) (.skip) (.exit 0)) (.seq (.block 1 (.seq (.seq (.reg [Gg 11 (.ld (.t 2) none),
 Gg 12 (.bin .eql (.t 11) (Ki 0))]) (.cond (.t 12) (.ret) (.skip))) (.seq (.reg [Gg 14 (.ld (.t 1) none),Gg 15 (.ld (.t 2) none),
 Gg 16 (.call 35 [(.t 14),(.t 15)]),Gm 13 16,Gg 17 (.ext (.t 13) 0),Gg 18 (.ext (.t 13) 1),Gg 4 (.new (Zi 14)),⟨none, .st (.t 4) (.t 17) 14,none⟩,
 Gm 5 18]) (.seq (.seq (.reg [Gm 19 5,Gg 20 (.bin .neq (.t 19) (Ki 0))]) (.cond (.t 20) (.seq (.reg [Gm 21 0,Gg 22 (.build (Zi 14) []),
 Gg 23 (.callv (.t 21) [(Ki 0),(.t 22)])]) (.ret)) (.skip))) (.seq (.seq (.reg [Gm 24 0,Gg 25 (.ld (.t 2) none),Gg 26 (.ld (.t 4) (some 14)),
 Gg 27 (.callv (.t 24) [(.t 25),(.t 26)]),Gg 28 (.un .not (.t 27))]) (.cond (.t 28) (.ret) (.skip))) (.reg [Gg 29 (.fa (.t 4) 12),Gg 30 (.ld (.t 29) none),
 ⟨none, .st (.t 2) (.t 30) 1,none⟩])))))) (.reg [Gg 31 (.bin .add (.t 9) (Ki 1)),Gm 9 31]))))))) (.seq (.reg [Gg 32 (.ld (.t 2) none),
 Gg 33 (.bin .neq (.t 32) (Ki 0))]) (.cond (.t 33) (.reg [Gm 34 0,Gg 35 (.build (Zi 14) []),Gg 36 (.callv (.t 34) [(Ki 0),(.t 35)])]) (.skip))),[]⟩

theorem dc61 : compF Try.prog Try.f61 = some df61:=by kernel_rfl
theorem ok61 : FnOk Try.prog 61:=⟨Try.f61,Try.func61,by kernel_rfl,by kernel_rfl⟩

def df62 : DF:= ⟨8, .seq (.reg [Gg 2 (.mv (Ki 0))]) (.seq (.reg [Gm 3 0,Gg 4 (.nil (.t 3)),Gg 5 (.fa (.t 4) 0),Gg 6 (.ld (.t 5) none),Gg 7 (.len (.t 6)),
 Gm 2 7]) (.ret)),[.t 2]⟩

theorem dc62 : compF Try.prog Try.f62 = some df62:=by kernel_rfl
theorem ok62 : FnOk Try.prog 62:=⟨Try.f62,Try.func62,by kernel_rfl,by kernel_rfl⟩

def df63 : DF :=
  ⟨2, .seq (.reg [Gg 0 (.new [.i .i64 0, .i .i64 0, .i .i64 0])]) (.seq (.reg [Gg 1 (.build [.i .i64 0, .i .i64 0, .i .i64 0] [(0,1,(Ki 2)),(1,1,(Ki 4)),(2,1,(Ki 4))]),
 ⟨none, .st (.t 0) (.t 1) 3,none⟩]) (.ret)),[.c 0 (some 3)]⟩

theorem dc63 : compF Try.prog Try.f63 = some df63:=by kernel_rfl
theorem ok63 : FnOk Try.prog 63:=⟨Try.f63,Try.func63,by kernel_rfl,by kernel_rfl⟩

def df64 : DF:= ⟨26, .seq (.reg [Gg 2 (.box (.t 0)),Gg 4 (.mv (Ki 0))]) (.seq (.reg [Gm 8 1,Gg 9 (.fa (.t 2) 0),Gg 10 (.ld (.t 9) none),Gg 11 (.call 56 [(.t 8),(.t 10)]),
 Gm 7 11,Gg 12 (.ext (.t 7) 0),Gg 13 (.ext (.t 7) 1),Gm 5 12,Gm 6 13]) (.seq (.seq (.reg [Gm 14 5,Gg 15 (.bin .gtr (.t 14) (.k (.s (.i .u64 65535)))),Gm 16 15,
 ⟨(some 17), .ld (.t 2) (some 3),(some (16,false))⟩,⟨(some 18), .mv (.t 1),(some (16,false))⟩,⟨(some 19), .mv (.t 5),(some (16,false))⟩,
 ⟨(some 20), .conv .i64 (.t 19),(some (16,false))⟩,⟨(some 21), .call 84 [(.t 17),(.t 18),(.t 20)],(some (16,false))⟩,
 ⟨(some 22), .un .not (.t 21),(some (16,false))⟩,
 Gg 23 (.pick (.t 16) (.k (.s (.b true))) (.t 22))]) (.cond (.t 23) (.seq (.reg [Gg 4 (.mv (Ki 0))]) (.ret)) (.skip))) (.seq (.reg [Gm 24 5,
 Gg 25 (.conv .i64 (.t 24)),Gm 4 25]) (.ret)))),[.t 4]⟩

theorem dc64 : compF Try.prog Try.f64 = some df64:=by kernel_rfl
theorem ok64 : FnOk Try.prog 64:=⟨Try.f64,Try.func64,by kernel_rfl,by kernel_rfl⟩

def df65 : DF:= ⟨19, .seq (.reg [Gg 4 (.mv (Ki 0))]) (.seq (.seq (.reg [Gm 6 0,Gg 7 (.len (.t 6)),
 Gg 8 (.mv (Ki 0))]) (.block 0 (.loop (.seq (.reg [Gg 9 (.bin .lss (.t 8) (.t 7))]) (.seq (.cond (.t 9) (.skip) (.exit 0)) (.seq (.block 1 (.seq (.reg [Gm 10 8,
 Gm 5 10]) (.seq (.reg [Gm 11 1,Gm 12 0,Gm 13 5,Gg 14 (.ia none 1 (.t 12) (.t 13)),Gg 15 (.ld (.t 14) none),
 Gg 16 (.bin .eql (.t 11) (.t 15))]) (.cond (.t 16) (.seq (.reg [Gm 17 5,Gm 4 17]) (.ret)) (.skip))))) (.reg [Gg 18 (.bin .add (.t 8) (Ki 1)),
 Gm 8 18]))))))) (.seq (.reg [Gg 4 (.mv (.k (.s (.i .i64 (-1)))))]) (.ret))),[.t 4]⟩

theorem dc65 : compF Try.prog Try.f65 = some df65:=by kernel_rfl
theorem ok65 : FnOk Try.prog 65:=⟨Try.f65,Try.func65,by kernel_rfl,by kernel_rfl⟩

def df66 : DF:= ⟨46, .seq (.reg [Gg 1 (.box (.t 0)),Gg 2 (.mv (.k (.s (.i .u64 0)))),Gg 3 (.mv (.k (.s (.i .u64 0)))),
 Gg 4 (.mv (Ki 0))]) (.seq (.seq (.reg [Gg 6 (.ld (.t 1) (some 11)),Gg 7 (.call 81 [(.t 6)]),
 Gg 8 (.un .not (.t 7))]) (.cond (.t 8) (.seq (.reg [Gg 2 (.mv (.k (.s (.i .u64 0)))),Gg 3 (.mv (.k (.s (.i .u64 0)))),
 Gg 4 (.mv (Ki 60))]) (.ret)) (.skip))) (.seq (.reg [Gg 5 (.mv (.k (.s (.fn 85 []))))]) (.seq (.drm [(true,Gm 10 5),(true,Gg 11 (.fa (.t 1) 0)),(true,Gg 12 (.ld (.t 11) none)),(true,Gm 14 5),(true,Gg 15 (.fa (.t 1) 1)),(true,Gg 16 (.ld (.t 15) none)),(true,Gm 18 5),(true,Gg 19 (.fa (.t 1) 2)),(true,Gg 20 (.ld (.t 19) none)),(true,Gm 22 5),(true,Gg 23 (.fa (.t 1) 7)),(true,Gg 24 (.ld (.t 23) none)),(true,Gm 26 5),(true,Gg 27 (.fa (.t 1) 10)),(true,Gg 28 (.ld (.t 27) none)),(true,Gm 30 5),(true,Gg 31 (.fa (.t 1) 8)),(true,Gg 32 (.ld (.t 31) none)),(true,Gm 34 5),(true,Gg 35 (.fa (.t 1) 5)),(true,Gg 36 (.ld (.t 35) none)),(true,Gg 13 (.callv (.t 10) [(Ki 4),(.t 12)])),(true,Gg 17 (.callv (.t 14) [(Ki 16),(.t 16)])),(true,Gg 21 (.callv (.t 18) [(Ki 5),(.t 20)])),(true,Gg 25 (.callv (.t 22) [(Ki 3),(.t 24)])),(true,Gg 29 (.callv (.t 26) [(Ki 4),(.t 28)])),(true,Gg 33 (.callv (.t 30) [(Ki 6),(.t 32)])),(false,Gg 37 (.callv (.t 34) [(Ki 5),(.t 36)])),(false,Gg 38 (.bsl 7 [.i .i64 0, .i .u64 0, .i .i64 0, .i .u64 0, .i .i64 0, .i .u64 0, .i .i64 0, .i .u64 0, .i .i64 0, .i .u64 0, .i .i64 0, .i .u64 0, .i .i64 0, .i .u64 0] [(0,2,(.t 13)),(2,2,(.t 17)),(4,2,(.t 21)),(6,2,(.t 25)),(8,2,(.t 29)),(10,2,(.t 33)),(12,2,(.t 37))])),(false,Gg 39 (.call 68 [(.t 38)])),(true,Gm 9 39),(true,Gg 40 (.ext (.t 9) 0)),(true,Gg 41 (.ext (.t 9) 1)),(true,Gm 2 40)]) (.seq (.reg [Gm 42 2,
 Gg 43 (.ld (.t 1) (some 11)),Gg 44 (.call 86 [(.t 43)]),Gg 45 (.conv .u64 (.t 44)),Gm 2 42,Gm 3 45,Gg 4 (.mv (Ki 0))]) (.ret))))),[.t 2, .t 3, .t 4]⟩

theorem dc66 : compF Try.prog Try.f66 = some df66:=by kernel_rfl
theorem ok66 : FnOk Try.prog 66:=⟨Try.f66,Try.func66,by kernel_rfl,by kernel_rfl⟩

def df67 : DF:= ⟨6, .seq (.reg [Gg 2 (.new [.i .i64 0, .i .u64 0])]) (.seq (.reg [Gm 3 0,Gg 4 (.conv .u64 (.t 3)),
 Gg 5 (.build [.i .i64 0, .i .u64 0] [(0,1,(Ki 16)),(1,1,(.t 4))]),⟨none, .st (.t 2) (.t 5) 2,none⟩]) (.ret)),[.c 2 (some 2)]⟩

theorem dc67 : compF Try.prog Try.f67 = some df67:=by kernel_rfl
theorem ok67 : FnOk Try.prog 67:=⟨Try.f67,Try.func67,by kernel_rfl,by kernel_rfl⟩

def df68 : DF:= ⟨34, .seq (.reg [Gg 2 (.mv (.k (.s (.i .u64 0)))),Gg 3 (.mv (Ki 0))]) (.seq (.reg [Gg 4 (.mv (.k (.s (.i .u64 0)))),
 Gg 5 (.mv (Ki 0))]) (.seq (.seq (.reg [Gm 9 0,Gg 10 (.len (.t 9)),
 Gg 11 (.mv (Ki 0))]) (.block 0 (.loop (.seq (.reg [Gg 12 (.bin .lss (.t 11) (.t 10))]) (.seq (.cond (.t 12) (.skip) (.exit 0)) (.seq (.block 1 (.seq (.reg [Gg 13 (.ia none 2 (.t 9) (.t 11)),
 Gg 14 (.ld (.t 13) (some 2)),Gg 7 (.new [.i .i64 0, .i .u64 0]),
 ⟨none, .st (.t 7) (.t 14) 2,none⟩]) (.seq (.reg [Gg 8 (.mv (Ki 0))]) (.seq (.seq (.reg [Gm 16 4,Gm 17 5,Gg 18 (.fa (.t 7) 0),Gg 19 (.ld (.t 18) none),
 Gg 20 (.fa (.t 7) 1),Gg 21 (.ld (.t 20) none),Gg 22 (.call 87 [(.t 16),(.t 17),(.t 19),(.t 21)]),Gm 15 22,Gg 23 (.ext (.t 15) 0),Gg 24 (.ext (.t 15) 1),
 Gm 4 23,Gm 8 24]) (.seq (.reg [Gm 25 8,Gg 26 (.bin .neq (.t 25) (Ki 0))]) (.cond (.t 26) (.seq (.reg [Gm 27 8,Gg 2 (.mv (.k (.s (.i .u64 0)))),
 Gm 3 27]) (.ret)) (.skip)))) (.reg [Gm 28 5,Gg 29 (.fa (.t 7) 0),Gg 30 (.ld (.t 29) none),Gg 31 (.bin .add (.t 28) (.t 30)),
 Gm 5 31]))))) (.reg [Gg 32 (.bin .add (.t 11) (Ki 1)),Gm 11 32]))))))) (.seq (.reg [Gm 33 4,Gm 2 33,Gg 3 (.mv (Ki 0))]) (.ret)))),[.t 2, .t 3]⟩

theorem dc68 : compF Try.prog Try.f68 = some df68:=by kernel_rfl
theorem ok68 : FnOk Try.prog 68:=⟨Try.f68,Try.func68,by kernel_rfl,by kernel_rfl⟩

def df69 : DF:= ⟨11, .seq (.reg [Gg 6 (.mv (Ki 0))]) (.seq (.reg [Gm 7 0,Gm 8 1,Gm 9 2,Gg 10 (.call 88 [(.t 7),(.t 8),(Ki 1),(.t 9)]),Gm 6 10]) (.ret)),[.t 6]⟩

theorem dc69 : compF Try.prog Try.f69 = some df69:=by kernel_rfl
theorem ok69 : FnOk Try.prog 69:=⟨Try.f69,Try.func69,by kernel_rfl,by kernel_rfl⟩

def df70 : DF:= ⟨7, .reg [Gm 3 0,Gg 4 (.ld (.t 1) none),Gg 5 (.nil (.t 3)),Gg 6 (.fa (.t 5) 12),⟨none, .st (.t 6) (.t 4) 1,none⟩],[]⟩

theorem dc70 : compF Try.prog Try.f70 = some df70:=by kernel_rfl
theorem ok70 : FnOk Try.prog 70:=⟨Try.f70,Try.func70,by kernel_rfl,by kernel_rfl⟩

def df71 : DF:= ⟨7, .reg [Gm 3 0,Gg 4 (.ld (.t 1) none),Gg 5 (.nil (.t 3)),Gg 6 (.fa (.t 5) 11),⟨none, .st (.t 6) (.t 4) 1,none⟩],[]⟩

theorem dc71 : compF Try.prog Try.f71 = some df71:=by kernel_rfl
theorem ok71 : FnOk Try.prog 71:=⟨Try.f71,Try.func71,by kernel_rfl,by kernel_rfl⟩

def df72 : DF:= ⟨22, .seq (.reg [Gg 3 (.box (.t 0)),Gg 6 (.mv (Ki 0))]) (.seq (.seq (.reg [Gm 7 2,Gg 8 (.bin .neq (.t 7) (Ki 0)),Gm 9 8,
 ⟨(some 10), .ld (.t 3) (some 3),(some (9,true))⟩,⟨(some 11), .mv (.t 1),(some (9,true))⟩,⟨(some 12), .mv (.t 2),(some (9,true))⟩,
 ⟨(some 13), .call 84 [(.t 10),(.t 11),(.t 12)],(some (9,true))⟩,⟨(some 14), .un .not (.t 13),(some (9,true))⟩,
 Gg 15 (.pick (.t 9) (.t 14) (.k (.s (.b false))))]) (.cond (.t 15) (.seq (.reg [Gg 6 (.mv (Ki 20))]) (.ret)) (.skip))) (.seq (.reg [Gm 16 1,
 Gg 17 (.fa (.t 3) 0),Gg 18 (.ld (.t 17) none),Gm 19 2,Gg 20 (.conv .u64 (.t 19)),Gg 21 (.call 69 [(.t 16),(.t 18),(.t 20)]),Gm 6 21]) (.ret))),[.t 6]⟩

theorem dc72 : compF Try.prog Try.f72 = some df72:=by kernel_rfl
theorem ok72 : FnOk Try.prog 72:=⟨Try.f72,Try.func72,by kernel_rfl,by kernel_rfl⟩

def df73 : DF:= ⟨5, .seq (.reg [Gg 2 (.mv (Ki 0))]) (.seq (.reg [Gm 3 0,Gg 4 (.call 89 [(.t 3),(Ki 2),(Ki 4),(Ki 4)]),Gm 2 4]) (.ret)),[.t 2]⟩

theorem dc73 : compF Try.prog Try.f73 = some df73:=by kernel_rfl
theorem ok73 : FnOk Try.prog 73:=⟨Try.f73,Try.func73,by kernel_rfl,by kernel_rfl⟩

def df74 : DF:= ⟨25, .seq (.reg [Gg 4 (.new (Zi 14)),Gg 5 (.mv (Ki 0))]) (.seq (.reg [Gm 9 0,Gm 10 1,Gg 11 (.call 50 [(.t 9),(.t 10)]),Gm 8 11,Gg 12 (.ext (.t 8) 0),
 Gg 13 (.ext (.t 8) 1),Gg 6 (.new (Zi 14)),⟨none, .st (.t 6) (.t 12) 14,none⟩,Gm 7 13]) (.seq (.seq (.reg [Gm 14 7,Gg 15 (.bin .eql (.t 14) (Ki 0)),Gm 16 15,
 ⟨(some 17), .fa (.t 6) 0,(some (16,true))⟩,⟨(some 18), .fa (.t 17) 0,(some (16,true))⟩,⟨(some 19), .ld (.t 18) none,(some (16,true))⟩,
 ⟨(some 20), .bin .eql (.t 19) (Ki 0),(some (16,true))⟩,
 Gg 21 (.pick (.t 16) (.t 20) (.k (.s (.b false))))]) (.cond (.t 21) (.seq (.reg [Gg 22 (.build (Zi 14) []),⟨none, .st (.t 4) (.t 22) 14,none⟩,
 Gg 5 (.mv (Ki 121))]) (.ret)) (.skip))) (.seq (.reg [Gg 23 (.ld (.t 6) (some 14)),Gm 24 7,⟨none, .st (.t 4) (.t 23) 14,none⟩,
 Gm 5 24]) (.ret)))),[.c 4 (some 14), .t 5]⟩

theorem dc74 : compF Try.prog Try.f74 = some df74:=by kernel_rfl
theorem ok74 : FnOk Try.prog 74:=⟨Try.f74,Try.func74,by kernel_rfl,by kernel_rfl⟩

def df75 : DF:= ⟨19, .seq (.reg [Gg 4 (.mv (.k (.s (.b false))))]) (.seq (.reg [Gm 6 0,Gm 7 1,Gg 8 (.call 90 [(.t 6),(.t 7),(Ki 4)]),Gm 5 8]) (.seq (.reg [Gm 9 5,Gm 10 9,
 ⟨(some 11), .mv (.t 1),(some (10,true))⟩,⟨(some 12), .bin .geq (.t 11) (Ki 4),(some (10,true))⟩,Gg 13 (.pick (.t 10) (.t 12) (.k (.s (.b false)))),Gm 14 13,
 ⟨(some 15), .mv (.t 1),(some (14,true))⟩,⟨(some 16), .bin .rem (.t 15) (Ki 4),(some (14,true))⟩,⟨(some 17), .bin .eql (.t 16) (Ki 0),(some (14,true))⟩,
 Gg 18 (.pick (.t 14) (.t 17) (.k (.s (.b false)))),Gm 4 18]) (.ret))),[.t 4]⟩

theorem dc75 : compF Try.prog Try.f75 = some df75:=by kernel_rfl
theorem ok75 : FnOk Try.prog 75:=⟨Try.f75,Try.func75,by kernel_rfl,by kernel_rfl⟩

def df76 : DF:= ⟨27, .seq (.reg [Gg 4 (.mv (.k (.s (.i .u64 0)))),Gg 5 (.mv (Ki 0))]) (.seq (.reg [Gm 7 0,Gm 8 1,Gg 9 (.call 90 [(.t 7),(.t 8),(Ki 1)]),
 Gm 6 9]) (.seq (.seq (.reg [Gm 10 6,Gg 11 (.un .not (.t 10))]) (.cond (.t 11) (.seq (.reg [Gg 4 (.mv (.k (.s (.i .u64 0)))),
 Gg 5 (.mv (Ki 20))]) (.ret)) (.skip))) (.seq (.reg [Gm 12 0,Gm 13 0,Gg 14 (.nil (.t 13)),Gg 15 (.fa (.t 14) 1),Gg 16 (.ld (.t 15) none),
 Gg 17 (.bin .add (.t 16) (Ki 1)),Gg 18 (.nil (.t 12)),Gg 19 (.fa (.t 18) 1),⟨none, .st (.t 19) (.t 17) 1,none⟩]) (.seq (.reg [Gm 20 0,Gg 21 (.nil (.t 20)),
 Gg 22 (.fa (.t 21) 0),Gg 23 (.ld (.t 22) none),Gm 24 1,Gg 25 (.ia none 1 (.t 23) (.t 24)),Gg 26 (.ld (.t 25) none),Gm 4 26,
 Gg 5 (.mv (Ki 0))]) (.ret))))),[.t 4, .t 5]⟩

theorem dc76 : compF Try.prog Try.f76 = some df76:=by kernel_rfl
theorem ok76 : FnOk Try.prog 76:=⟨Try.f76,Try.func76,by kernel_rfl,by kernel_rfl⟩

def df77 : DF:= ⟨86, .seq (.reg [Gg 4 (.new (Zi 11)),Gg 5 (.mv (Ki 0))]) (.seq (.seq (.reg [Gm 10 1,
 Gg 11 (.bin .geq (.t 10) (.k (.s (.i .u64 4294967296))))]) (.cond (.t 11) (.seq (.reg [Gg 12 (.build (Zi 11) []),⟨none, .st (.t 4) (.t 12) 11,none⟩,
 Gg 5 (.mv (Ki 60))]) (.ret)) (.skip))) (.seq (.reg [Gm 13 0,Gg 14 (.bin .rem (.t 13) (.k (.s (.i .u64 16)))),Gg 15 (.conv .i64 (.t 14)),Gm 16 0,
 Gg 17 (.bin .shr (.t 16) (.k (.s (.i .u64 4)))),Gg 18 (.bin .rem (.t 17) (.k (.s (.i .u64 65536)))),Gg 19 (.conv .i64 (.t 18)),Gm 20 0,
 Gg 21 (.bin .shr (.t 20) (.k (.s (.i .u64 20)))),Gg 22 (.bin .rem (.t 21) (.k (.s (.i .u64 32)))),Gg 23 (.conv .i64 (.t 22)),Gm 24 0,
 Gg 25 (.bin .shr (.t 24) (.k (.s (.i .u64 25)))),Gg 26 (.bin .rem (.t 25) (.k (.s (.i .u64 8)))),Gg 27 (.conv .i64 (.t 26)),Gm 28 0,
 Gg 29 (.bin .shr (.t 28) (.k (.s (.i .u64 28)))),Gg 30 (.bin .rem (.t 29) (.k (.s (.i .u64 16)))),Gg 31 (.conv .i64 (.t 30)),Gm 32 0,
 Gg 33 (.bin .shr (.t 32) (.k (.s (.i .u64 32)))),Gg 34 (.bin .rem (.t 33) (.k (.s (.i .u64 64)))),Gg 35 (.conv .i64 (.t 34)),Gm 36 0,
 Gg 37 (.bin .shr (.t 36) (.k (.s (.i .u64 38)))),Gg 38 (.bin .rem (.t 37) (.k (.s (.i .u64 32)))),Gg 39 (.conv .i64 (.t 38)),
 Gg 40 (.build (Zi 11) [(0,1,(.t 15)),(1,1,(.t 19)),(2,1,(.t 23)),(7,1,(.t 27)),(10,1,(.t 31)),(8,1,(.t 35)),(5,1,(.t 39))]),
 Gg 6 (.new (Zi 11)),⟨none, .st (.t 6) (.t 40) 11,none⟩]) (.seq (.seq (.reg [Gg 41 (.fa (.t 6) 0),
 Gg 42 (.ld (.t 41) none)]) (.block 0 (.seq (.seq (.reg [Gg 44 (.bin .eql (.t 42) (Ki 1)),
 Gm 43 44]) (.cond (.t 43) (.skip) (.reg [Gg 45 (.bin .eql (.t 42) (Ki 10)),Gm 43 45]))) (.cond (.t 43) (.reg [Gm 46 1,Gg 47 (.conv .i64 (.t 46)),
 Gg 48 (.fa (.t 6) 3),⟨none, .st (.t 48) (.t 47) 1,none⟩]) (.seq (.reg [Gg 50 (.bin .eql (.t 42) (Ki 2)),Gm 49 50]) (.cond (.t 49) (.reg [Gm 51 1,
 Gg 52 (.conv .i64 (.t 51)),Gg 53 (.fa (.t 6) 4),⟨none, .st (.t 53) (.t 52) 1,none⟩]) (.seq (.seq (.reg [Gg 55 (.bin .eql (.t 42) (Ki 4)),
 Gm 54 55]) (.cond (.t 54) (.skip) (.reg [Gg 56 (.bin .eql (.t 42) (Ki 5)),Gm 54 56]))) (.cond (.t 54) (.reg [Gm 57 1,Gg 58 (.conv .i64 (.t 57)),
 Gg 59 (.fa (.t 6) 6),⟨none, .st (.t 59) (.t 58) 1,none⟩]) (.seq (.seq (.reg [Gg 61 (.bin .eql (.t 42) (Ki 6)),
 Gm 60 61]) (.cond (.t 60) (.skip) (.reg [Gg 62 (.bin .eql (.t 42) (Ki 8)),Gm 60 62]))) (.cond (.t 60) (.reg [Gm 63 1,Gg 64 (.conv .i64 (.t 63)),
 Gg 65 (.fa (.t 6) 9),⟨none, .st (.t 65) (.t 64) 1,none⟩]) (.skip))))))))))) (.seq (.reg [Gg 67 (.ld (.t 6) (some 11)),Gg 68 (.call 79 [(.t 67)]),Gm 66 68,
 Gg 69 (.ext (.t 66) 0),Gg 70 (.ext (.t 66) 1),Gg 71 (.ext (.t 66) 2),Gm 7 69,Gm 8 70,Gm 9 71]) (.seq (.seq (.reg [Gm 72 9,Gg 73 (.bin .neq (.t 72) (Ki 0)),
 Gm 74 73,⟨(some 75), .mv (.t 7),(some (74,false))⟩,⟨(some 76), .mv (.t 0),(some (74,false))⟩,⟨(some 77), .bin .neq (.t 75) (.t 76),(some (74,false))⟩,
 Gg 78 (.pick (.t 74) (.k (.s (.b true))) (.t 77)),Gm 79 78,⟨(some 80), .mv (.t 8),(some (79,false))⟩,⟨(some 81), .mv (.t 1),(some (79,false))⟩,
 ⟨(some 82), .bin .neq (.t 80) (.t 81),(some (79,false))⟩,
 Gg 83 (.pick (.t 79) (.k (.s (.b true))) (.t 82))]) (.cond (.t 83) (.seq (.reg [Gg 84 (.build (Zi 11) []),⟨none, .st (.t 4) (.t 84) 11,none⟩,
 Gg 5 (.mv (Ki 60))]) (.ret)) (.skip))) (.seq (.reg [Gg 85 (.ld (.t 6) (some 11)),⟨none, .st (.t 4) (.t 85) 11,none⟩,
 Gg 5 (.mv (Ki 0))]) (.ret))))))),[.c 4 (some 11), .t 5]⟩

theorem dc77 : compF Try.prog Try.f77 = some df77:=by kernel_rfl
theorem ok77 : FnOk Try.prog 77:=⟨Try.f77,Try.func77,by kernel_rfl,by kernel_rfl⟩

def df78 : DF:= ⟨44, .seq (.reg [Gg 1 (.box (.t 0)),Gg 2 (.mv (.k (.s (.b false))))]) (.seq (.reg [Gg 6 (.fa (.t 1) 0),Gg 7 (.ld (.t 6) (some 11)),Gg 8 (.call 91 [(.t 7)]),
 Gm 3 8]) (.seq (.reg [Gg 9 (.fa (.t 1) 11),Gg 10 (.ld (.t 9) none),Gg 11 (.call 92 [(.t 10)]),Gm 4 11]) (.seq (.reg [Gg 12 (.fa (.t 1) 12),
 Gg 13 (.ld (.t 12) none),Gg 14 (.call 92 [(.t 13)]),Gm 5 14]) (.seq (.seq (.reg [Gm 15 3,Gg 16 (.un .not (.t 15)),Gm 17 16,
 ⟨(some 18), .mv (.t 4),(some (17,false))⟩,⟨(some 19), .un .not (.t 18),(some (17,false))⟩,Gg 20 (.pick (.t 17) (.k (.s (.b true))) (.t 19)),Gm 21 20,
 ⟨(some 22), .mv (.t 5),(some (21,false))⟩,⟨(some 23), .un .not (.t 22),(some (21,false))⟩,Gg 24 (.pick (.t 21) (.k (.s (.b true))) (.t 23)),Gm 25 24,
 ⟨(some 26), .fa (.t 1) 13,(some (25,false))⟩,⟨(some 27), .ld (.t 26) none,(some (25,false))⟩,⟨(some 28), .bin .lss (.t 27) (Ki 0),(some (25,false))⟩,
 Gg 29 (.pick (.t 25) (.k (.s (.b true))) (.t 28)),Gm 30 29,⟨(some 31), .fa (.t 1) 13,(some (30,false))⟩,⟨(some 32), .ld (.t 31) none,(some (30,false))⟩,
 ⟨(some 33), .bin .gtr (.t 32) (Ki 65535),(some (30,false))⟩,
 Gg 34 (.pick (.t 30) (.k (.s (.b true))) (.t 33))]) (.cond (.t 34) (.seq (.reg [Gg 2 (.mv (.k (.s (.b false))))]) (.ret)) (.skip))) (.seq (.reg [Gg 35 (.fa (.t 1) 0),
 Gg 36 (.fa (.t 35) 0),Gg 37 (.ld (.t 36) none),Gg 38 (.bin .neq (.t 37) (Ki 0)),Gm 39 38,⟨(some 40), .ld (.t 1) (some 14),(some (39,false))⟩,
 ⟨(some 41), .build (Zi 14) [],(some (39,false))⟩,
 ⟨(some 42), .eqa false [true,true,true,true,true,true,true,true,true,true,true,true,true,true] (.t 40) (.t 41),(some (39,false))⟩,
 Gg 43 (.pick (.t 39) (.k (.s (.b true))) (.t 42)),Gm 2 43]) (.ret)))))),[.t 2]⟩

theorem dc78 : compF Try.prog Try.f78 = some df78:=by kernel_rfl
theorem ok78 : FnOk Try.prog 78:=⟨Try.f78,Try.func78,by kernel_rfl,by kernel_rfl⟩

def df79 : DF:= ⟨66, .seq (.reg [Gg 1 (.box (.t 0)),Gg 2 (.mv (.k (.s (.i .u64 0)))),Gg 3 (.mv (.k (.s (.i .u64 0)))),
 Gg 4 (.mv (Ki 0))]) (.seq (.reg [Gg 8 (.ld (.t 1) (some 11)),Gg 9 (.call 91 [(.t 8)]),Gm 5 9]) (.seq (.seq (.reg [Gm 10 5,
 Gg 11 (.un .not (.t 10))]) (.cond (.t 11) (.seq (.reg [Gg 2 (.mv (.k (.s (.i .u64 0)))),Gg 3 (.mv (.k (.s (.i .u64 0)))),
 Gg 4 (.mv (Ki 60))]) (.ret)) (.skip))) (.seq (.reg [Gg 12 (.fa (.t 1) 0),Gg 13 (.ld (.t 12) none),Gg 14 (.conv .u64 (.t 13)),Gg 15 (.fa (.t 1) 1),
 Gg 16 (.ld (.t 15) none),Gg 17 (.conv .u64 (.t 16)),Gg 18 (.bin .shl (.t 17) (.k (.s (.i .u64 4)))),Gg 19 (.bin .add (.t 14) (.t 18)),Gg 20 (.fa (.t 1) 2),
 Gg 21 (.ld (.t 20) none),Gg 22 (.conv .u64 (.t 21)),Gg 23 (.bin .shl (.t 22) (.k (.s (.i .u64 20)))),Gg 24 (.bin .add (.t 19) (.t 23)),Gg 25 (.fa (.t 1) 7),
 Gg 26 (.ld (.t 25) none),Gg 27 (.conv .u64 (.t 26)),Gg 28 (.bin .shl (.t 27) (.k (.s (.i .u64 25)))),Gg 29 (.bin .add (.t 24) (.t 28)),Gg 30 (.fa (.t 1) 10),
 Gg 31 (.ld (.t 30) none),Gg 32 (.conv .u64 (.t 31)),Gg 33 (.bin .shl (.t 32) (.k (.s (.i .u64 28)))),Gg 34 (.bin .add (.t 29) (.t 33)),Gg 35 (.fa (.t 1) 8),
 Gg 36 (.ld (.t 35) none),Gg 37 (.conv .u64 (.t 36)),Gg 38 (.bin .shl (.t 37) (.k (.s (.i .u64 32)))),Gg 39 (.bin .add (.t 34) (.t 38)),Gg 40 (.fa (.t 1) 5),
 Gg 41 (.ld (.t 40) none),Gg 42 (.conv .u64 (.t 41)),Gg 43 (.bin .shl (.t 42) (.k (.s (.i .u64 38)))),Gg 44 (.bin .add (.t 39) (.t 43)),
 Gm 6 44]) (.seq (.reg [Gg 45 (.fa (.t 1) 3),Gg 46 (.ld (.t 45) none),Gm 7 46]) (.seq (.seq (.reg [Gg 47 (.fa (.t 1) 0),
 Gg 48 (.ld (.t 47) none)]) (.block 0 (.seq (.reg [Gg 50 (.bin .eql (.t 48) (Ki 2)),Gm 49 50]) (.cond (.t 49) (.reg [Gg 51 (.fa (.t 1) 4),
 Gg 52 (.ld (.t 51) none),Gm 7 52]) (.seq (.seq (.reg [Gg 54 (.bin .eql (.t 48) (Ki 4)),
 Gm 53 54]) (.cond (.t 53) (.skip) (.reg [Gg 55 (.bin .eql (.t 48) (Ki 5)),Gm 53 55]))) (.cond (.t 53) (.reg [Gg 56 (.fa (.t 1) 6),Gg 57 (.ld (.t 56) none),
 Gm 7 57]) (.seq (.seq (.reg [Gg 59 (.bin .eql (.t 48) (Ki 6)),Gm 58 59]) (.cond (.t 58) (.skip) (.reg [Gg 60 (.bin .eql (.t 48) (Ki 8)),
 Gm 58 60]))) (.cond (.t 58) (.reg [Gg 61 (.fa (.t 1) 9),Gg 62 (.ld (.t 61) none),Gm 7 62]) (.skip))))))))) (.seq (.reg [Gm 63 6,Gm 64 7,
 Gg 65 (.conv .u64 (.t 64)),Gm 2 63,Gm 3 65,Gg 4 (.mv (Ki 0))]) (.ret))))))),[.t 2, .t 3, .t 4]⟩

theorem dc79 : compF Try.prog Try.f79 = some df79:=by kernel_rfl
theorem ok79 : FnOk Try.prog 79:=⟨Try.f79,Try.func79,by kernel_rfl,by kernel_rfl⟩

def df80 : DF:= ⟨28, .seq (.reg [Gg 6 (.mv (Ki 0))]) (.seq (.reg [Gm 8 0,Gm 9 1,Gg 10 (.call 90 [(.t 8),(.t 9),(Ki 1)]),Gm 7 10]) (.seq (.seq (.reg [Gm 11 7,
 Gg 12 (.un .not (.t 11))]) (.cond (.t 12) (.seq (.reg [Gg 6 (.mv (Ki 20))]) (.ret)) (.skip))) (.seq (.reg [Gm 13 0,Gm 14 0,Gg 15 (.nil (.t 14)),
 Gg 16 (.fa (.t 15) 1),Gg 17 (.ld (.t 16) none),Gg 18 (.bin .add (.t 17) (Ki 1)),Gg 19 (.nil (.t 13)),Gg 20 (.fa (.t 19) 1),
 ⟨none, .st (.t 20) (.t 18) 1,none⟩]) (.seq (.reg [Gm 21 0,Gg 22 (.nil (.t 21)),Gg 23 (.fa (.t 22) 0),Gg 24 (.ld (.t 23) none),Gm 25 1,Gm 26 2,
 Gg 27 (.ia none 1 (.t 24) (.t 25)),⟨none, .st (.t 27) (.t 26) 1,none⟩]) (.seq (.reg [Gg 6 (.mv (Ki 0))]) (.ret)))))),[.t 6]⟩

theorem dc80 : compF Try.prog Try.f80 = some df80:=by kernel_rfl
theorem ok80 : FnOk Try.prog 80:=⟨Try.f80,Try.func80,by kernel_rfl,by kernel_rfl⟩

def df81 : DF:= ⟨130, .seq (.reg [Gg 1 (.box (.t 0)),Gg 2 (.mv (.k (.s (.b false))))]) (.seq (.reg [Gg 6 (.ld (.t 1) (some 11)),Gg 7 (.call 93 [(.t 6)]),Gm 5 7,
 Gg 8 (.ext (.t 5) 0),Gg 9 (.ext (.t 5) 1),Gm 3 8,
 Gm 4 9]) (.seq (.seq (.drm [(true,Gm 10 4),(true,Gg 11 (.un .not (.t 10))),(true,Gm 12 11),(true,⟨(some 13), .fa (.t 1) 0,(some (12,false))⟩),(true,⟨(some 14), .ld (.t 13) none,(some (12,false))⟩),(true,⟨(some 15), .bin .lss (.t 14) (Ki 0),(some (12,false))⟩),(true,Gg 16 (.pick (.t 12) (.k (.s (.b true))) (.t 15))),(true,Gm 17 16),(true,⟨(some 18), .fa (.t 1) 0,(some (17,false))⟩),(true,⟨(some 19), .ld (.t 18) none,(some (17,false))⟩),(true,⟨(some 20), .bin .gtr (.t 19) (Ki 13),(some (17,false))⟩),(true,Gg 21 (.pick (.t 17) (.k (.s (.b true))) (.t 20))),(true,Gm 22 21),(true,⟨(some 23), .ld (.t 1) (some 11),(some (22,false))⟩),(true,⟨(some 25), .fa (.t 1) 0,(some (22,false))⟩),(true,⟨(some 26), .ld (.t 25) none,(some (22,false))⟩),(true,⟨(some 27), .build (Zi 11) [(0,1,(.t 26))],(some (22,false))⟩),(true,⟨(some 24), .call 94 [(.t 23)],(some (22,false))⟩),(true,⟨(some 28), .eqa true [true,true,true,true,true,true,true,true,true,true,true] (.t 24) (.t 27),(some (22,false))⟩),(true,Gg 29 (.pick (.t 22) (.k (.s (.b true))) (.t 28)))]) (.cond (.t 29) (.seq (.reg [Gg 2 (.mv (.k (.s (.b false))))]) (.ret)) (.skip))) (.seq (.seq (.reg [Gm 30 3,
 Gg 31 (.bin .gtr (.t 30) (Ki 0)),Gm 32 31,⟨(some 33), .fa (.t 1) 1,(some (32,true))⟩,⟨(some 34), .ld (.t 33) none,(some (32,true))⟩,
 ⟨(some 35), .bin .lss (.t 34) (Ki 1024),(some (32,true))⟩,⟨(some 36), .mv (.t 35),(some (32,true))⟩,⟨(some 37), .fa (.t 1) 1,(some (36,false))⟩,
 ⟨(some 38), .ld (.t 37) none,(some (36,false))⟩,⟨(some 39), .bin .gtr (.t 38) (Ki 65535),(some (36,false))⟩,
 ⟨(some 40), .pick (.t 36) (.k (.s (.b true))) (.t 39),(some (32,true))⟩,⟨(some 41), .mv (.t 40),(some (32,true))⟩,
 ⟨(some 42), .fa (.t 1) 1,(some (41,false))⟩,⟨(some 43), .ld (.t 42) none,(some (41,false))⟩,⟨(some 44), .mv (.t 3),(some (41,false))⟩,
 ⟨(some 45), .bin .rem (.t 43) (.t 44),(some (41,false))⟩,⟨(some 46), .bin .neq (.t 45) (Ki 0),(some (41,false))⟩,
 ⟨(some 47), .pick (.t 41) (.k (.s (.b true))) (.t 46),(some (32,true))⟩,
 Gg 48 (.pick (.t 32) (.t 47) (.k (.s (.b false))))]) (.cond (.t 48) (.seq (.reg [Gg 2 (.mv (.k (.s (.b false))))]) (.ret)) (.skip))) (.seq (.seq (.reg [Gg 49 (.fa (.t 1) 0),
 Gg 50 (.ld (.t 49) none)]) (.block 0 (.seq (.reg [Gg 52 (.bin .eql (.t 50) (Ki 1)),Gm 51 52]) (.cond (.t 51) (.seq (.reg [Gg 53 (.fa (.t 1) 3),
 Gg 54 (.ld (.t 53) none),Gm 55 3,Gg 56 (.call 95 [(.t 54),(.t 55)]),Gm 2 56]) (.ret)) (.seq (.reg [Gg 58 (.bin .eql (.t 50) (Ki 2)),
 Gm 57 58]) (.cond (.t 57) (.seq (.drm [(true,Gg 59 (.fa (.t 1) 5)),(true,Gg 60 (.ld (.t 59) none)),(false,Gg 61 (.call 95 [(.t 60),(Ki 31)])),(true,Gm 62 61),(true,⟨(some 63), .fa (.t 1) 4,(some (62,true))⟩),(true,⟨(some 64), .ld (.t 63) none,(some (62,true))⟩),(true,⟨(some 65), .fa (.t 1) 5,(some (62,true))⟩),(true,⟨(some 66), .ld (.t 65) none,(some (62,true))⟩),(true,⟨(some 67), .bin .shl (Ki 1) (.t 66),(some (62,true))⟩),(true,⟨(some 68), .bin .sub (.t 67) (Ki 1),(some (62,true))⟩),(false,⟨(some 69), .call 95 [(.t 64),(.t 68)],(some (62,true))⟩),(true,Gg 70 (.pick (.t 62) (.t 69) (.k (.s (.b false))))),(true,Gm 2 70)]) (.ret)) (.seq (.seq (.reg [Gg 72 (.bin .eql (.t 50) (Ki 4)),
 Gm 71 72]) (.cond (.t 71) (.skip) (.reg [Gg 73 (.bin .eql (.t 50) (Ki 5)),Gm 71 73]))) (.cond (.t 71) (.seq (.reg [Gg 74 (.fa (.t 1) 7),
 Gg 75 (.ld (.t 74) none),Gg 76 (.call 95 [(.t 75),(Ki 7)]),Gm 77 76,⟨(some 78), .fa (.t 1) 6,(some (77,true))⟩,
 ⟨(some 79), .ld (.t 78) none,(some (77,true))⟩,⟨(some 80), .call 95 [(.t 79),(Ki 268435455)],(some (77,true))⟩,
 Gg 81 (.pick (.t 77) (.t 80) (.k (.s (.b false)))),Gm 2 81]) (.ret)) (.seq (.reg [Gg 83 (.bin .eql (.t 50) (Ki 6)),
 Gm 82 83]) (.cond (.t 82) (.seq (.reg [Gg 84 (.fa (.t 1) 8),Gg 85 (.ld (.t 84) none),Gg 86 (.fa (.t 1) 9),Gg 87 (.ld (.t 86) none),
 Gg 88 (.call 96 [(.t 85),(.t 87),(Ki 1)]),Gm 2 88]) (.ret)) (.seq (.reg [Gg 90 (.bin .eql (.t 50) (Ki 7)),
 Gm 89 90]) (.cond (.t 89) (.seq (.reg [Gg 91 (.fa (.t 1) 8),Gg 92 (.ld (.t 91) none),Gg 93 (.call 95 [(.t 92),(Ki 63)]),Gm 94 93,
 ⟨(some 95), .fa (.t 1) 8,(some (94,true))⟩,⟨(some 96), .ld (.t 95) none,(some (94,true))⟩,⟨(some 97), .bin .rem (.t 96) (Ki 8),(some (94,true))⟩,
 ⟨(some 98), .bin .eql (.t 97) (Ki 0),(some (94,true))⟩,Gg 99 (.pick (.t 94) (.t 98) (.k (.s (.b false)))),
 Gm 2 99]) (.ret)) (.seq (.reg [Gg 101 (.bin .eql (.t 50) (Ki 8)),Gm 100 101]) (.cond (.t 100) (.seq (.reg [Gg 102 (.fa (.t 1) 7),Gg 103 (.ld (.t 102) none),
 Gg 104 (.call 95 [(.t 103),(Ki 7)]),Gm 105 104,⟨(some 106), .fa (.t 1) 8,(some (105,true))⟩,⟨(some 107), .ld (.t 106) none,(some (105,true))⟩,
 ⟨(some 108), .fa (.t 1) 9,(some (105,true))⟩,⟨(some 109), .ld (.t 108) none,(some (105,true))⟩,
 ⟨(some 110), .call 96 [(.t 107),(.t 109),(Ki 16)],(some (105,true))⟩,Gg 111 (.pick (.t 105) (.t 110) (.k (.s (.b false)))),
 Gm 2 111]) (.ret)) (.seq (.reg [Gg 113 (.bin .eql (.t 50) (Ki 10)),Gm 112 113]) (.cond (.t 112) (.seq (.seq (.reg [Gg 114 (.fa (.t 1) 2),
 Gg 115 (.ld (.t 114) none),Gg 116 (.bin .eql (.t 115) (Ki 31))]) (.cond (.t 116) (.seq (.reg [Gg 117 (.fa (.t 1) 3),Gg 118 (.ld (.t 117) none),
 Gg 119 (.call 95 [(.t 118),(Ki 3)]),Gm 2 119]) (.ret)) (.skip))) (.seq (.reg [Gg 120 (.fa (.t 1) 3),Gg 121 (.ld (.t 120) none),Gm 122 3,
 Gg 123 (.bin .quo (.t 122) (Ki 4)),Gg 124 (.call 95 [(.t 121),(.t 123)]),Gm 2 124]) (.ret))) (.seq (.reg [Gg 126 (.bin .eql (.t 50) (Ki 12)),
 Gm 125 126]) (.cond (.t 125) (.seq (.reg [Gg 127 (.fa (.t 1) 10),Gg 128 (.ld (.t 127) none),Gg 129 (.call 95 [(.t 128),(Ki 15)]),
 Gm 2 129]) (.ret)) (.skip))))))))))))))))))) (.seq (.reg [Gg 2 (.mv (.k (.s (.b true))))]) (.ret)))))),[.t 2]⟩

theorem dc81 : compF Try.prog Try.f81 = some df81:=by kernel_rfl
theorem ok81 : FnOk Try.prog 81:=⟨Try.f81,Try.func81,by kernel_rfl,by kernel_rfl⟩

def df82 : DF:= ⟨23, .seq (.reg [Gg 6 (.mv (.k (.s (.i .u64 0)))),Gg 7 (.mv (Ki 0))]) (.seq (.reg [Gm 11 1,Gm 12 2,Gg 13 (.call 97 [(.t 11),(.t 12)]),Gm 10 13,
 Gg 14 (.ext (.t 10) 0),Gg 15 (.ext (.t 10) 1),Gm 8 14,Gm 9 15]) (.seq (.seq (.reg [Gm 16 9,
 Gg 17 (.un .not (.t 16))]) (.cond (.t 17) (.seq (.reg [Gg 6 (.mv (.k (.s (.i .u64 0)))),Gg 7 (.mv (Ki 10))]) (.ret)) (.skip))) (.seq (.reg [Gm 18 0,Gm 19 8,
 Gg 20 (.bin .and (.t 18) (.t 19)),Gm 21 1,Gg 22 (.bin .shr (.t 20) (.t 21)),Gm 6 22,Gg 7 (.mv (Ki 0))]) (.ret)))),[.t 6, .t 7]⟩

theorem dc82 : compF Try.prog Try.f82 = some df82:=by kernel_rfl
theorem ok82 : FnOk Try.prog 82:=⟨Try.f82,Try.func82,by kernel_rfl,by kernel_rfl⟩

def df83 : DF:= ⟨14, .seq (.reg [Gg 2 (.mv (.k (.s (.b false))))]) (.seq (.reg [Gm 3 0,Gg 4 (.bin .geq (.t 3) (Ki 0)),Gm 5 4,⟨(some 6), .mv (.t 0),(some (5,true))⟩,
 ⟨(some 7), .bin .lss (.t 6) (Ki 65536),(some (5,true))⟩,Gg 8 (.pick (.t 5) (.t 7) (.k (.s (.b false)))),Gm 9 8,⟨(some 10), .mv (.t 0),(some (9,true))⟩,
 ⟨(some 11), .bin .rem (.t 10) (Ki 4),(some (9,true))⟩,⟨(some 12), .bin .eql (.t 11) (Ki 0),(some (9,true))⟩,
 Gg 13 (.pick (.t 9) (.t 12) (.k (.s (.b false)))),Gm 2 13]) (.ret)),[.t 2]⟩

theorem dc83 : compF Try.prog Try.f83 = some df83:=by kernel_rfl
theorem ok83 : FnOk Try.prog 83:=⟨Try.f83,Try.func83,by kernel_rfl,by kernel_rfl⟩

def df84 : DF:= ⟨27, .seq (.reg [Gg 3 (.box (.t 0)),
 Gg 6 (.mv (.k (.s (.b false))))]) (.seq (.drm [(true,Gm 7 2),(true,Gg 8 (.fa (.t 3) 2)),(true,Gg 9 (.ld (.t 8) none)),(true,Gg 10 (.bin .geq (.t 7) (.t 9))),(true,Gm 11 10),(true,⟨(some 12), .mv (.t 2),(some (11,true))⟩),(true,⟨(some 13), .fa (.t 3) 1,(some (11,true))⟩),(true,⟨(some 14), .ld (.t 13) none,(some (11,true))⟩),(true,⟨(some 15), .bin .rem (.t 12) (.t 14),(some (11,true))⟩),(true,⟨(some 16), .bin .eql (.t 15) (Ki 0),(some (11,true))⟩),(true,Gg 17 (.pick (.t 11) (.t 16) (.k (.s (.b false))))),(true,Gm 18 17),(true,⟨(some 19), .mv (.t 2),(some (18,true))⟩),(true,⟨(some 20), .mv (.t 1),(some (18,true))⟩),(true,⟨(some 22), .fa (.t 3) 1,(some (18,true))⟩),(true,⟨(some 23), .ld (.t 22) none,(some (18,true))⟩),(true,⟨(some 21), .call 62 [(.t 20)],(some (18,true))⟩),(true,⟨(some 24), .bin .sub (.t 21) (.t 23),(some (18,true))⟩),(true,⟨(some 25), .bin .leq (.t 19) (.t 24),(some (18,true))⟩),(true,Gg 26 (.pick (.t 18) (.t 25) (.k (.s (.b false))))),(true,Gm 6 26)]) (.ret)),[.t 6]⟩

theorem dc84 : compF Try.prog Try.f84 = some df84:=by kernel_rfl
theorem ok84 : FnOk Try.prog 84:=⟨Try.f84,Try.func84,by kernel_rfl,by kernel_rfl⟩

def df85 : DF:= ⟨9, .seq (.reg [Gg 4 (.new [.i .i64 0, .i .u64 0])]) (.seq (.reg [Gm 5 0,Gm 6 1,Gg 7 (.conv .u64 (.t 6)),
 Gg 8 (.build [.i .i64 0, .i .u64 0] [(0,1,(.t 5)),(1,1,(.t 7))]),⟨none, .st (.t 4) (.t 8) 2,none⟩]) (.ret)),[.c 4 (some 2)]⟩

theorem dc85 : compF Try.prog Try.f85 = some df85:=by kernel_rfl
theorem ok85 : FnOk Try.prog 85:=⟨Try.f85,Try.func85,by kernel_rfl,by kernel_rfl⟩

def df86 : DF:= ⟨14, .seq (.reg [Gg 1 (.box (.t 0)),Gg 2 (.mv (Ki 0))]) (.seq (.reg [Gg 3 (.fa (.t 1) 3),Gg 4 (.ld (.t 3) none),Gg 5 (.fa (.t 1) 4),Gg 6 (.ld (.t 5) none),
 Gg 7 (.bin .add (.t 4) (.t 6)),Gg 8 (.fa (.t 1) 6),Gg 9 (.ld (.t 8) none),Gg 10 (.bin .add (.t 7) (.t 9)),Gg 11 (.fa (.t 1) 9),Gg 12 (.ld (.t 11) none),
 Gg 13 (.bin .add (.t 10) (.t 12)),Gm 2 13]) (.ret)),[.t 2]⟩

theorem dc86 : compF Try.prog Try.f86 = some df86:=by kernel_rfl
theorem ok86 : FnOk Try.prog 86:=⟨Try.f86,Try.func86,by kernel_rfl,by kernel_rfl⟩

def df87 : DF:= ⟨44, .seq (.reg [Gg 8 (.mv (.k (.s (.i .u64 0)))),Gg 9 (.mv (Ki 0))]) (.seq (.reg [Gm 13 1,Gm 14 2,Gg 15 (.call 97 [(.t 13),(.t 14)]),Gm 12 15,
 Gg 16 (.ext (.t 12) 0),Gg 17 (.ext (.t 12) 1),Gm 10 16,Gm 11 17]) (.seq (.seq (.reg [Gm 18 11,Gg 19 (.un .not (.t 18)),Gm 20 19,
 ⟨(some 21), .mv (.t 3),(some (20,false))⟩,⟨(some 22), .mv (.t 1),(some (20,false))⟩,⟨(some 23), .bin .shl (.t 21) (.t 22),(some (20,false))⟩,
 ⟨(some 24), .mv (.t 1),(some (20,false))⟩,⟨(some 25), .bin .shr (.t 23) (.t 24),(some (20,false))⟩,⟨(some 26), .mv (.t 3),(some (20,false))⟩,
 ⟨(some 27), .bin .neq (.t 25) (.t 26),(some (20,false))⟩,Gg 28 (.pick (.t 20) (.k (.s (.b true))) (.t 27)),Gm 29 28,
 ⟨(some 30), .mv (.t 3),(some (29,false))⟩,⟨(some 31), .mv (.t 1),(some (29,false))⟩,⟨(some 32), .bin .shl (.t 30) (.t 31),(some (29,false))⟩,
 ⟨(some 33), .mv (.t 10),(some (29,false))⟩,⟨(some 34), .bin .andNot (.t 32) (.t 33),(some (29,false))⟩,
 ⟨(some 35), .bin .neq (.t 34) (.k (.s (.i .u64 0))),(some (29,false))⟩,
 Gg 36 (.pick (.t 29) (.k (.s (.b true))) (.t 35))]) (.cond (.t 36) (.seq (.reg [Gg 8 (.mv (.k (.s (.i .u64 0)))),
 Gg 9 (.mv (Ki 10))]) (.ret)) (.skip))) (.seq (.reg [Gm 37 0,Gm 38 10,Gg 39 (.bin .andNot (.t 37) (.t 38)),Gm 40 3,Gm 41 1,Gg 42 (.bin .shl (.t 40) (.t 41)),
 Gg 43 (.bin .or (.t 39) (.t 42)),Gm 8 43,Gg 9 (.mv (Ki 0))]) (.ret)))),[.t 8, .t 9]⟩

theorem dc87 : compF Try.prog Try.f87 = some df87:=by kernel_rfl
theorem ok87 : FnOk Try.prog 87:=⟨Try.f87,Try.func87,by kernel_rfl,by kernel_rfl⟩

def df88 : DF:= ⟨39, .seq (.reg [Gg 8 (.mv (Ki 0))]) (.seq (.reg [Gm 13 0,Gm 14 1,Gm 15 2,Gg 16 (.call 32 [(.t 13),(.t 14),(.t 15)]),Gm 12 16,Gg 17 (.ext (.t 12) 0),
 Gg 18 (.ext (.t 12) 1),Gm 9 17,Gm 10 18]) (.seq (.seq (.reg [Gm 19 10,
 Gg 20 (.un .not (.t 19))]) (.cond (.t 20) (.seq (.reg [Gg 8 (.mv (Ki 20))]) (.ret)) (.skip))) (.seq (.seq (.reg [Gm 21 9,Gg 22 (.len (.t 21)),
 Gg 23 (.mv (Ki 0))]) (.block 0 (.loop (.seq (.reg [Gg 24 (.bin .lss (.t 23) (.t 22))]) (.seq (.cond (.t 24) (.skip) (.exit 0)) (.seq (.block 1 (.seq (.reg [Gm 25 23,
 Gm 11 25]) (.reg [Gm 26 9,Gm 27 11,Gm 28 3,Gg 29 (.ia none 1 (.t 26) (.t 27)),⟨none, .st (.t 29) (.t 28) 1,none⟩]))) (.reg [Gg 30 (.bin .add (.t 23) (Ki 1)),
 Gm 23 30]))))))) (.seq (.reg [Gm 31 0,Gg 32 (.nil (.t 31)),Gg 33 (.fa (.t 32) 1),Gg 34 (.ld (.t 33) none),Gm 35 2,Gg 36 (.bin .add (.t 34) (.t 35)),
 Gg 37 (.nil (.t 31)),Gg 38 (.fa (.t 37) 1),⟨none, .st (.t 38) (.t 36) 1,none⟩]) (.seq (.reg [Gg 8 (.mv (Ki 0))]) (.ret)))))),[.t 8]⟩

theorem dc88 : compF Try.prog Try.f88 = some df88:=by kernel_rfl
theorem ok88 : FnOk Try.prog 88:=⟨Try.f88,Try.func88,by kernel_rfl,by kernel_rfl⟩

def df89 : DF:= ⟨41, .seq (.reg [Gg 8 (.mv (Ki 0))]) (.seq (.reg [Gm 14 0,Gm 15 1,Gg 16 (.call 76 [(.t 14),(.t 15)]),Gm 13 16,Gg 17 (.ext (.t 13) 0),Gg 18 (.ext (.t 13) 1),
 Gm 9 17,Gm 10 18]) (.seq (.seq (.reg [Gm 19 9,
 Gg 20 (.bin .gtr (.t 19) (.k (.s (.i .u64 65535))))]) (.cond (.t 20) (.seq (.reg [Gg 8 (.mv (Ki 0))]) (.ret)) (.skip))) (.seq (.reg [Gm 21 9,
 Gg 22 (.conv .i64 (.t 21)),Gm 11 22]) (.seq (.reg [Gm 23 0,Gm 24 11,Gm 25 3,Gg 26 (.call 90 [(.t 23),(.t 24),(.t 25)]),Gm 12 26]) (.seq (.seq (.reg [Gm 27 12,
 Gg 28 (.un .not (.t 27)),Gm 29 28,⟨(some 30), .mv (.t 11),(some (29,false))⟩,⟨(some 31), .mv (.t 2),(some (29,false))⟩,
 ⟨(some 32), .bin .lss (.t 30) (.t 31),(some (29,false))⟩,Gg 33 (.pick (.t 29) (.k (.s (.b true))) (.t 32)),Gm 34 33,
 ⟨(some 35), .mv (.t 11),(some (34,false))⟩,⟨(some 36), .mv (.t 3),(some (34,false))⟩,⟨(some 37), .bin .rem (.t 35) (.t 36),(some (34,false))⟩,
 ⟨(some 38), .bin .neq (.t 37) (Ki 0),(some (34,false))⟩,
 Gg 39 (.pick (.t 34) (.k (.s (.b true))) (.t 38))]) (.cond (.t 39) (.seq (.reg [Gg 8 (.mv (Ki 0))]) (.ret)) (.skip))) (.seq (.reg [Gm 40 11,
 Gm 8 40]) (.ret))))))),[.t 8]⟩

theorem dc89 : compF Try.prog Try.f89 = some df89:=by kernel_rfl
theorem ok89 : FnOk Try.prog 89:=⟨Try.f89,Try.func89,by kernel_rfl,by kernel_rfl⟩

def df90 : DF:= ⟨33, .seq (.reg [Gg 6 (.mv (.k (.s (.b false))))]) (.seq (.reg [Gm 7 1,Gg 8 (.bin .geq (.t 7) (Ki 0)),Gm 9 8,⟨(some 10), .mv (.t 2),(some (9,true))⟩,
 ⟨(some 11), .bin .geq (.t 10) (Ki 0),(some (9,true))⟩,Gg 12 (.pick (.t 9) (.t 11) (.k (.s (.b false)))),Gm 13 12,⟨(some 14), .mv (.t 1),(some (13,true))⟩,
 ⟨(some 15), .mv (.t 0),(some (13,true))⟩,⟨(some 16), .nil (.t 15),(some (13,true))⟩,⟨(some 17), .fa (.t 16) 0,(some (13,true))⟩,
 ⟨(some 18), .ld (.t 17) none,(some (13,true))⟩,⟨(some 19), .len (.t 18),(some (13,true))⟩,⟨(some 20), .bin .leq (.t 14) (.t 19),(some (13,true))⟩,
 Gg 21 (.pick (.t 13) (.t 20) (.k (.s (.b false)))),Gm 22 21,⟨(some 23), .mv (.t 2),(some (22,true))⟩,⟨(some 24), .mv (.t 0),(some (22,true))⟩,
 ⟨(some 25), .nil (.t 24),(some (22,true))⟩,⟨(some 26), .fa (.t 25) 0,(some (22,true))⟩,⟨(some 27), .ld (.t 26) none,(some (22,true))⟩,
 ⟨(some 28), .len (.t 27),(some (22,true))⟩,⟨(some 29), .mv (.t 1),(some (22,true))⟩,⟨(some 30), .bin .sub (.t 28) (.t 29),(some (22,true))⟩,
 ⟨(some 31), .bin .leq (.t 23) (.t 30),(some (22,true))⟩,Gg 32 (.pick (.t 22) (.t 31) (.k (.s (.b false)))),Gm 6 32]) (.ret)),[.t 6]⟩

theorem dc90 : compF Try.prog Try.f90 = some df90:=by kernel_rfl
theorem ok90 : FnOk Try.prog 90:=⟨Try.f90,Try.func90,by kernel_rfl,by kernel_rfl⟩

def df91 : DF:= ⟨151, .seq (.reg [Gg 1 (.box (.t 0)),
 Gg 2 (.mv (.k (.s (.b false))))]) (.seq (.seq (.drm [(true,Gg 5 (.ld (.t 1) (some 11))),(true,Gg 6 (.ld (.t 1) (some 11))),(true,Gg 7 (.call 98 [(.t 6)])),(true,Gg 8 (.eqa true [true,true,true,true,true,true,true,true,true,true,true] (.t 5) (.t 7)))]) (.cond (.t 8) (.seq (.reg [Gg 2 (.mv (.k (.s (.b false))))]) (.ret)) (.skip))) (.seq (.reg [Gg 9 (.ld (.t 1) (some 11)),
 Gg 10 (.call 99 [(.t 9)]),Gm 3 10]) (.seq (.seq (.reg [Gm 11 3,Gg 12 (.bin .gtr (.t 11) (Ki 0))]) (.cond (.t 12) (.seq (.reg [Gg 13 (.fa (.t 1) 1),
 Gg 14 (.ld (.t 13) none),Gm 15 3,Gg 16 (.call 100 [(.t 14),(.t 15)]),Gm 4 16]) (.seq (.reg [Gm 17 4,
 Gg 18 (.un .not (.t 17))]) (.cond (.t 18) (.seq (.reg [Gg 2 (.mv (.k (.s (.b false))))]) (.ret)) (.skip)))) (.skip))) (.seq (.seq (.reg [Gg 19 (.fa (.t 1) 0),
 Gg 20 (.ld (.t 19) none)]) (.block 0 (.seq (.seq (.reg [Gg 22 (.bin .eql (.t 20) (Ki 0)),
 Gm 21 22]) (.cond (.t 21) (.skip) (.seq (.reg [Gg 23 (.bin .eql (.t 20) (Ki 11)),Gm 21 23]) (.cond (.t 21) (.skip) (.reg [Gg 24 (.bin .eql (.t 20) (Ki 13)),
 Gm 21 24]))))) (.cond (.t 21) (.seq (.reg [Gg 2 (.mv (.k (.s (.b true))))]) (.ret)) (.seq (.seq (.reg [Gg 26 (.bin .eql (.t 20) (Ki 3)),
 Gm 25 26]) (.cond (.t 25) (.skip) (.reg [Gg 27 (.bin .eql (.t 20) (Ki 9)),
 Gm 25 27]))) (.cond (.t 25) (.seq (.reg [Gg 2 (.mv (.k (.s (.b true))))]) (.ret)) (.seq (.reg [Gg 29 (.bin .eql (.t 20) (Ki 1)),
 Gm 28 29]) (.cond (.t 28) (.seq (.reg [Gm 30 3,Gg 31 (.bin .gtr (.t 30) (Ki 0)),Gm 32 31,⟨(some 33), .fa (.t 1) 3,(some (32,true))⟩,
 ⟨(some 34), .ld (.t 33) none,(some (32,true))⟩,⟨(some 35), .mv (.t 3),(some (32,true))⟩,
 ⟨(some 36), .call 101 [(.t 34),(Ki 0),(.t 35)],(some (32,true))⟩,Gg 37 (.pick (.t 32) (.t 36) (.k (.s (.b false)))),
 Gm 2 37]) (.ret)) (.seq (.reg [Gg 39 (.bin .eql (.t 20) (Ki 2)),
 Gm 38 39]) (.cond (.t 38) (.seq (.drm [(true,Gm 40 3),(true,Gg 41 (.bin .gtr (.t 40) (Ki 0))),(true,Gm 42 41),(true,⟨(some 43), .fa (.t 1) 5,(some (42,true))⟩),(true,⟨(some 44), .ld (.t 43) none,(some (42,true))⟩),(false,⟨(some 45), .call 101 [(.t 44),(Ki 0),(Ki 31)],(some (42,true))⟩),(true,Gg 46 (.pick (.t 42) (.t 45) (.k (.s (.b false))))),(true,Gm 47 46),(true,⟨(some 48), .fa (.t 1) 4,(some (47,true))⟩),(true,⟨(some 49), .ld (.t 48) none,(some (47,true))⟩),(true,⟨(some 50), .fa (.t 1) 5,(some (47,true))⟩),(true,⟨(some 51), .ld (.t 50) none,(some (47,true))⟩),(true,⟨(some 52), .bin .shl (Ki 1) (.t 51),(some (47,true))⟩),(true,⟨(some 53), .bin .sub (.t 52) (Ki 1),(some (47,true))⟩),(false,⟨(some 54), .call 101 [(.t 49),(Ki 0),(.t 53)],(some (47,true))⟩),(true,Gg 55 (.pick (.t 47) (.t 54) (.k (.s (.b false))))),(true,Gm 2 55)]) (.ret)) (.seq (.seq (.reg [Gg 57 (.bin .eql (.t 20) (Ki 4)),
 Gm 56 57]) (.cond (.t 56) (.skip) (.reg [Gg 58 (.bin .eql (.t 20) (Ki 5)),Gm 56 58]))) (.cond (.t 56) (.seq (.reg [Gg 59 (.fa (.t 1) 7),
 Gg 60 (.ld (.t 59) none),Gg 61 (.call 101 [(.t 60),(Ki 0),(Ki 7)]),Gm 62 61,⟨(some 63), .fa (.t 1) 6,(some (62,true))⟩,
 ⟨(some 64), .ld (.t 63) none,(some (62,true))⟩,⟨(some 65), .call 101 [(.t 64),(Ki 0),(Ki 268435455)],(some (62,true))⟩,
 Gg 66 (.pick (.t 62) (.t 65) (.k (.s (.b false)))),Gm 2 66]) (.ret)) (.seq (.reg [Gg 68 (.bin .eql (.t 20) (Ki 6)),
 Gm 67 68]) (.cond (.t 67) (.seq (.reg [Gg 69 (.fa (.t 1) 8),Gg 70 (.ld (.t 69) none),Gg 71 (.call 101 [(.t 70),(Ki 0),(Ki 63)]),Gm 72 71,
 ⟨(some 73), .fa (.t 1) 9,(some (72,true))⟩,⟨(some 74), .ld (.t 73) none,(some (72,true))⟩,
 ⟨(some 75), .call 101 [(.t 74),(Ki 0),(Ki 65535)],(some (72,true))⟩,Gg 76 (.pick (.t 72) (.t 75) (.k (.s (.b false)))),Gm 77 76,
 ⟨(some 78), .fa (.t 1) 8,(some (77,true))⟩,⟨(some 79), .ld (.t 78) none,(some (77,true))⟩,⟨(some 80), .bin .gtr (.t 79) (Ki 0),(some (77,true))⟩,
 ⟨(some 81), .mv (.t 80),(some (77,true))⟩,⟨(some 82), .fa (.t 1) 9,(some (81,false))⟩,⟨(some 83), .ld (.t 82) none,(some (81,false))⟩,
 ⟨(some 84), .bin .eql (.t 83) (Ki 0),(some (81,false))⟩,⟨(some 85), .pick (.t 81) (.k (.s (.b true))) (.t 84),(some (77,true))⟩,
 Gg 86 (.pick (.t 77) (.t 85) (.k (.s (.b false)))),Gm 2 86]) (.ret)) (.seq (.reg [Gg 88 (.bin .eql (.t 20) (Ki 7)),
 Gm 87 88]) (.cond (.t 87) (.seq (.reg [Gg 89 (.fa (.t 1) 8),Gg 90 (.ld (.t 89) none),Gg 91 (.call 101 [(.t 90),(Ki 0),(Ki 56)]),Gm 92 91,
 ⟨(some 93), .fa (.t 1) 8,(some (92,true))⟩,⟨(some 94), .ld (.t 93) none,(some (92,true))⟩,⟨(some 95), .bin .rem (.t 94) (Ki 8),(some (92,true))⟩,
 ⟨(some 96), .bin .eql (.t 95) (Ki 0),(some (92,true))⟩,Gg 97 (.pick (.t 92) (.t 96) (.k (.s (.b false)))),
 Gm 2 97]) (.ret)) (.seq (.reg [Gg 99 (.bin .eql (.t 20) (Ki 8)),Gm 98 99]) (.cond (.t 98) (.seq (.reg [Gg 100 (.fa (.t 1) 7),Gg 101 (.ld (.t 100) none),
 Gg 102 (.call 101 [(.t 101),(Ki 0),(Ki 7)]),Gm 103 102,⟨(some 104), .fa (.t 1) 8,(some (103,true))⟩,⟨(some 105), .ld (.t 104) none,(some (103,true))⟩,
 ⟨(some 106), .call 101 [(.t 105),(Ki 0),(Ki 63)],(some (103,true))⟩,Gg 107 (.pick (.t 103) (.t 106) (.k (.s (.b false)))),Gm 108 107,
 ⟨(some 109), .fa (.t 1) 9,(some (108,true))⟩,⟨(some 110), .ld (.t 109) none,(some (108,true))⟩,
 ⟨(some 111), .call 101 [(.t 110),(Ki 0),(Ki 65520)],(some (108,true))⟩,Gg 112 (.pick (.t 108) (.t 111) (.k (.s (.b false)))),Gm 113 112,
 ⟨(some 114), .fa (.t 1) 9,(some (113,true))⟩,⟨(some 115), .ld (.t 114) none,(some (113,true))⟩,⟨(some 116), .bin .rem (.t 115) (Ki 16),(some (113,true))⟩,
 ⟨(some 117), .bin .eql (.t 116) (Ki 0),(some (113,true))⟩,Gg 118 (.pick (.t 113) (.t 117) (.k (.s (.b false)))),Gm 119 118,
 ⟨(some 120), .fa (.t 1) 8,(some (119,true))⟩,⟨(some 121), .ld (.t 120) none,(some (119,true))⟩,⟨(some 122), .bin .gtr (.t 121) (Ki 0),(some (119,true))⟩,
 ⟨(some 123), .mv (.t 122),(some (119,true))⟩,⟨(some 124), .fa (.t 1) 9,(some (123,false))⟩,⟨(some 125), .ld (.t 124) none,(some (123,false))⟩,
 ⟨(some 126), .bin .eql (.t 125) (Ki 0),(some (123,false))⟩,⟨(some 127), .pick (.t 123) (.k (.s (.b true))) (.t 126),(some (119,true))⟩,
 Gg 128 (.pick (.t 119) (.t 127) (.k (.s (.b false)))),Gm 2 128]) (.ret)) (.seq (.reg [Gg 130 (.bin .eql (.t 20) (Ki 10)),
 Gm 129 130]) (.cond (.t 129) (.seq (.seq (.reg [Gg 131 (.fa (.t 1) 2),Gg 132 (.ld (.t 131) none),
 Gg 133 (.bin .eql (.t 132) (Ki 31))]) (.cond (.t 133) (.seq (.reg [Gg 134 (.fa (.t 1) 3),Gg 135 (.ld (.t 134) none),
 Gg 136 (.call 101 [(.t 135),(Ki 0),(Ki 3)]),Gm 2 136]) (.ret)) (.skip))) (.seq (.reg [Gm 137 3,Gg 138 (.bin .gtr (.t 137) (Ki 0)),Gm 139 138,
 ⟨(some 140), .fa (.t 1) 3,(some (139,true))⟩,⟨(some 141), .ld (.t 140) none,(some (139,true))⟩,⟨(some 142), .mv (.t 3),(some (139,true))⟩,
 ⟨(some 143), .bin .quo (.t 142) (Ki 4),(some (139,true))⟩,⟨(some 144), .call 101 [(.t 141),(Ki 0),(.t 143)],(some (139,true))⟩,
 Gg 145 (.pick (.t 139) (.t 144) (.k (.s (.b false)))),Gm 2 145]) (.ret))) (.seq (.reg [Gg 147 (.bin .eql (.t 20) (Ki 12)),
 Gm 146 147]) (.cond (.t 146) (.seq (.reg [Gg 148 (.fa (.t 1) 10),Gg 149 (.ld (.t 148) none),Gg 150 (.call 101 [(.t 149),(Ki 0),(Ki 15)]),
 Gm 2 150]) (.ret)) (.skip))))))))))))))))))))))) (.seq (.reg [Gg 2 (.mv (.k (.s (.b false))))]) (.ret)))))),[.t 2]⟩

theorem dc91 : compF Try.prog Try.f91 = some df91:=by kernel_rfl
theorem ok91 : FnOk Try.prog 91:=⟨Try.f91,Try.func91,by kernel_rfl,by kernel_rfl⟩

def df92 : DF:= ⟨14, .seq (.reg [Gg 2 (.mv (.k (.s (.b false))))]) (.seq (.reg [Gm 3 0,Gg 4 (.bin .geq (.t 3) (Ki 0)),Gm 5 4,⟨(some 6), .mv (.t 0),(some (5,true))⟩,
 ⟨(some 7), .bin .leq (.t 6) (Ki 65532),(some (5,true))⟩,Gg 8 (.pick (.t 5) (.t 7) (.k (.s (.b false)))),Gm 9 8,⟨(some 10), .mv (.t 0),(some (9,true))⟩,
 ⟨(some 11), .bin .rem (.t 10) (Ki 4),(some (9,true))⟩,⟨(some 12), .bin .eql (.t 11) (Ki 0),(some (9,true))⟩,
 Gg 13 (.pick (.t 9) (.t 12) (.k (.s (.b false)))),Gm 2 13]) (.ret)),[.t 2]⟩

theorem dc92 : compF Try.prog Try.f92 = some df92:=by kernel_rfl
theorem ok92 : FnOk Try.prog 92:=⟨Try.f92,Try.func92,by kernel_rfl,by kernel_rfl⟩

def df93 : DF:= ⟨54, .seq (.reg [Gg 1 (.box (.t 0)),Gg 2 (.mv (Ki 0)),
 Gg 3 (.mv (.k (.s (.b false))))]) (.seq (.reg [Gg 4 (.mv (.k (.s (.fn 102 []))))]) (.seq (.seq (.reg [Gg 5 (.fa (.t 1) 0),
 Gg 6 (.ld (.t 5) none)]) (.block 0 (.seq (.reg [Gg 8 (.bin .eql (.t 6) (Ki 1)),Gm 7 8]) (.cond (.t 7) (.seq (.drq [Gg 9 (.fa (.t 1) 2),Gg 10 (.ld (.t 9) none),
 Gg 11 (.bin .and (.t 10) (Ki 31)),Gg 12 (.mx true (.t 11) (Ki 0)),Gg 13 (.bin .shl (Ki 1) (.t 12)),Gg 14 (.fa (.t 1) 2),Gg 15 (.ld (.t 14) none),
 Gg 16 (.bin .geq (.t 15) (Ki 4)),Gm 17 16,⟨(some 18), .fa (.t 1) 2,(some (17,true))⟩,⟨(some 19), .ld (.t 18) none,(some (17,true))⟩,
 ⟨(some 20), .bin .leq (.t 19) (Ki 15),(some (17,true))⟩,Gg 21 (.pick (.t 17) (.t 20) (.k (.s (.b false)))),Gm 2 13,
 Gm 3 21]) (.ret)) (.seq (.reg [Gg 23 (.bin .eql (.t 6) (Ki 2)),Gm 22 23]) (.cond (.t 22) (.seq (.reg [Gm 24 4,Gg 25 (.fa (.t 1) 2),Gg 26 (.ld (.t 25) none),
 Gg 27 (.mx false (.t 26) (Ki 9)),Gg 28 (.callv (.t 24) [(.t 27)]),Gg 29 (.ext (.t 28) 0),Gg 30 (.ext (.t 28) 1),Gm 2 29,
 Gm 3 30]) (.ret)) (.seq (.reg [Gg 32 (.bin .eql (.t 6) (Ki 10)),Gm 31 32]) (.cond (.t 31) (.seq (.seq (.reg [Gg 33 (.fa (.t 1) 2),Gg 34 (.ld (.t 33) none),
 Gg 35 (.bin .eql (.t 34) (Ki 31))]) (.cond (.t 35) (.seq (.reg [Gg 2 (.mv (Ki 64)),Gg 3 (.mv (.k (.s (.b true))))]) (.ret)) (.skip))) (.seq (.reg [Gm 36 4,
 Gg 37 (.fa (.t 1) 2),Gg 38 (.ld (.t 37) none),Gg 39 (.mx false (.t 38) (Ki 9)),Gg 40 (.callv (.t 36) [(.t 39)]),Gg 41 (.ext (.t 40) 0),Gg 42 (.ext (.t 40) 1),
 Gm 2 41,Gm 3 42]) (.ret))) (.seq (.seq (.reg [Gg 44 (.bin .eql (.t 6) (Ki 3)),Gm 43 44]) (.cond (.t 43) (.skip) (.reg [Gg 45 (.bin .eql (.t 6) (Ki 9)),
 Gm 43 45]))) (.cond (.t 43) (.seq (.reg [Gg 2 (.mv (Ki 64)),Gg 3 (.mv (.k (.s (.b true))))]) (.ret)) (.seq (.reg [Gg 47 (.bin .eql (.t 6) (Ki 4)),
 Gm 46 47]) (.cond (.t 46) (.seq (.reg [Gg 2 (.mv (Ki 4)),Gg 3 (.mv (.k (.s (.b true))))]) (.ret)) (.seq (.seq (.reg [Gg 49 (.bin .eql (.t 6) (Ki 5)),
 Gm 48 49]) (.cond (.t 48) (.skip) (.seq (.reg [Gg 50 (.bin .eql (.t 6) (Ki 6)),Gm 48 50]) (.cond (.t 48) (.skip) (.reg [Gg 51 (.bin .eql (.t 6) (Ki 7)),
 Gm 48 51]))))) (.cond (.t 48) (.seq (.reg [Gg 2 (.mv (Ki 8)),Gg 3 (.mv (.k (.s (.b true))))]) (.ret)) (.seq (.reg [Gg 53 (.bin .eql (.t 6) (Ki 8)),
 Gm 52 53]) (.cond (.t 52) (.seq (.reg [Gg 2 (.mv (Ki 16)),Gg 3 (.mv (.k (.s (.b true))))]) (.ret)) (.skip))))))))))))))))) (.seq (.reg [Gg 2 (.mv (Ki 0)),
 Gg 3 (.mv (.k (.s (.b true))))]) (.ret)))),[.t 2, .t 3]⟩

theorem dc93 : compF Try.prog Try.f93 = some df93:=by kernel_rfl
theorem ok93 : FnOk Try.prog 93:=⟨Try.f93,Try.func93,by kernel_rfl,by kernel_rfl⟩

def df94 : DF:= ⟨46, .seq (.reg [Gg 1 (.box (.t 0)),Gg 2 (.new (Zi 11))]) (.seq (.seq (.reg [Gg 3 (.fa (.t 1) 0),
 Gg 4 (.ld (.t 3) none)]) (.block 0 (.seq (.seq (.reg [Gg 6 (.bin .eql (.t 4) (Ki 1)),Gm 5 6]) (.cond (.t 5) (.skip) (.reg [Gg 7 (.bin .eql (.t 4) (Ki 10)),
 Gm 5 7]))) (.cond (.t 5) (.reg [Gg 8 (.fa (.t 1) 1),⟨none, .st (.t 8) (Ki 0) 1,none⟩,Gg 9 (.fa (.t 1) 2),⟨none, .st (.t 9) (Ki 0) 1,none⟩,
 Gg 10 (.fa (.t 1) 3),⟨none, .st (.t 10) (Ki 0) 1,none⟩]) (.seq (.reg [Gg 12 (.bin .eql (.t 4) (Ki 2)),Gm 11 12]) (.cond (.t 11) (.reg [Gg 13 (.fa (.t 1) 1),
 ⟨none, .st (.t 13) (Ki 0) 1,none⟩,Gg 14 (.fa (.t 1) 2),⟨none, .st (.t 14) (Ki 0) 1,none⟩,Gg 15 (.fa (.t 1) 4),⟨none, .st (.t 15) (Ki 0) 1,none⟩,
 Gg 16 (.fa (.t 1) 5),⟨none, .st (.t 16) (Ki 0) 1,none⟩]) (.seq (.seq (.reg [Gg 18 (.bin .eql (.t 4) (Ki 3)),
 Gm 17 18]) (.cond (.t 17) (.skip) (.reg [Gg 19 (.bin .eql (.t 4) (Ki 9)),Gm 17 19]))) (.cond (.t 17) (.reg [Gg 20 (.fa (.t 1) 1),
 ⟨none, .st (.t 20) (Ki 0) 1,none⟩]) (.seq (.seq (.reg [Gg 22 (.bin .eql (.t 4) (Ki 4)),
 Gm 21 22]) (.cond (.t 21) (.skip) (.reg [Gg 23 (.bin .eql (.t 4) (Ki 5)),Gm 21 23]))) (.cond (.t 21) (.reg [Gg 24 (.fa (.t 1) 1),
 ⟨none, .st (.t 24) (Ki 0) 1,none⟩,Gg 25 (.fa (.t 1) 7),⟨none, .st (.t 25) (Ki 0) 1,none⟩,Gg 26 (.fa (.t 1) 6),
 ⟨none, .st (.t 26) (Ki 0) 1,none⟩]) (.seq (.reg [Gg 28 (.bin .eql (.t 4) (Ki 6)),Gm 27 28]) (.cond (.t 27) (.reg [Gg 29 (.fa (.t 1) 1),
 ⟨none, .st (.t 29) (Ki 0) 1,none⟩,Gg 30 (.fa (.t 1) 8),⟨none, .st (.t 30) (Ki 0) 1,none⟩,Gg 31 (.fa (.t 1) 9),
 ⟨none, .st (.t 31) (Ki 0) 1,none⟩]) (.seq (.reg [Gg 33 (.bin .eql (.t 4) (Ki 7)),Gm 32 33]) (.cond (.t 32) (.reg [Gg 34 (.fa (.t 1) 1),
 ⟨none, .st (.t 34) (Ki 0) 1,none⟩,Gg 35 (.fa (.t 1) 8),⟨none, .st (.t 35) (Ki 0) 1,none⟩]) (.seq (.reg [Gg 37 (.bin .eql (.t 4) (Ki 8)),
 Gm 36 37]) (.cond (.t 36) (.reg [Gg 38 (.fa (.t 1) 1),⟨none, .st (.t 38) (Ki 0) 1,none⟩,Gg 39 (.fa (.t 1) 7),⟨none, .st (.t 39) (Ki 0) 1,none⟩,
 Gg 40 (.fa (.t 1) 8),⟨none, .st (.t 40) (Ki 0) 1,none⟩,Gg 41 (.fa (.t 1) 9),⟨none, .st (.t 41) (Ki 0) 1,none⟩]) (.seq (.reg [Gg 43 (.bin .eql (.t 4) (Ki 12)),
 Gm 42 43]) (.cond (.t 42) (.reg [Gg 44 (.fa (.t 1) 10),⟨none, .st (.t 44) (Ki 0) 1,none⟩]) (.skip))))))))))))))))))) (.seq (.reg [Gg 45 (.ld (.t 1) (some 11)),
 ⟨none, .st (.t 2) (.t 45) 11,none⟩]) (.ret))),[.c 2 (some 11)]⟩

theorem dc94 : compF Try.prog Try.f94 = some df94:=by kernel_rfl
theorem ok94 : FnOk Try.prog 94:=⟨Try.f94,Try.func94,by kernel_rfl,by kernel_rfl⟩

def df95 : DF:= ⟨12, .seq (.reg [Gg 4 (.mv (.k (.s (.b false))))]) (.seq (.reg [Gm 5 0,Gg 6 (.bin .geq (.t 5) (Ki 0)),Gm 7 6,⟨(some 8), .mv (.t 0),(some (7,true))⟩,
 ⟨(some 9), .mv (.t 1),(some (7,true))⟩,⟨(some 10), .bin .leq (.t 8) (.t 9),(some (7,true))⟩,Gg 11 (.pick (.t 7) (.t 10) (.k (.s (.b false)))),
 Gm 4 11]) (.ret)),[.t 4]⟩

theorem dc95 : compF Try.prog Try.f95 = some df95:=by kernel_rfl
theorem ok95 : FnOk Try.prog 95:=⟨Try.f95,Try.func95,by kernel_rfl,by kernel_rfl⟩

def df96 : DF:= ⟨27, .seq (.reg [Gg 6 (.mv (.k (.s (.b false))))]) (.seq (.reg [Gm 7 0,Gg 8 (.call 95 [(.t 7),(Ki 63)]),Gm 9 8,⟨(some 10), .mv (.t 1),(some (9,true))⟩,
 ⟨(some 11), .call 95 [(.t 10),(Ki 65535)],(some (9,true))⟩,Gg 12 (.pick (.t 9) (.t 11) (.k (.s (.b false)))),Gm 13 12,
 ⟨(some 14), .mv (.t 1),(some (13,true))⟩,⟨(some 15), .mv (.t 2),(some (13,true))⟩,⟨(some 16), .bin .rem (.t 14) (.t 15),(some (13,true))⟩,
 ⟨(some 17), .bin .eql (.t 16) (Ki 0),(some (13,true))⟩,Gg 18 (.pick (.t 13) (.t 17) (.k (.s (.b false)))),Gm 19 18,⟨(some 20), .mv (.t 0),(some (19,true))⟩,
 ⟨(some 21), .bin .gtr (.t 20) (Ki 0),(some (19,true))⟩,⟨(some 22), .mv (.t 21),(some (19,true))⟩,⟨(some 23), .mv (.t 1),(some (22,false))⟩,
 ⟨(some 24), .bin .eql (.t 23) (Ki 0),(some (22,false))⟩,⟨(some 25), .pick (.t 22) (.k (.s (.b true))) (.t 24),(some (19,true))⟩,
 Gg 26 (.pick (.t 19) (.t 25) (.k (.s (.b false)))),Gm 6 26]) (.ret)),[.t 6]⟩

theorem dc96 : compF Try.prog Try.f96 = some df96:=by kernel_rfl
theorem ok96 : FnOk Try.prog 96:=⟨Try.f96,Try.func96,by kernel_rfl,by kernel_rfl⟩

def df97 : DF:= ⟨27, .seq (.reg [Gg 4 (.mv (.k (.s (.i .u64 0)))),Gg 5 (.mv (.k (.s (.b false))))]) (.seq (.seq (.reg [Gm 6 0,Gg 7 (.bin .lss (.t 6) (Ki 0)),Gm 8 7,
 ⟨(some 9), .mv (.t 0),(some (8,false))⟩,⟨(some 10), .bin .gtr (.t 9) (Ki 63),(some (8,false))⟩,Gg 11 (.pick (.t 8) (.k (.s (.b true))) (.t 10)),Gm 12 11,
 ⟨(some 13), .mv (.t 1),(some (12,false))⟩,⟨(some 14), .bin .lss (.t 13) (Ki 1),(some (12,false))⟩,Gg 15 (.pick (.t 12) (.k (.s (.b true))) (.t 14)),
 Gm 16 15,⟨(some 17), .mv (.t 1),(some (16,false))⟩,⟨(some 18), .mv (.t 0),(some (16,false))⟩,⟨(some 19), .bin .sub (Ki 64) (.t 18),(some (16,false))⟩,
 ⟨(some 20), .bin .gtr (.t 17) (.t 19),(some (16,false))⟩,
 Gg 21 (.pick (.t 16) (.k (.s (.b true))) (.t 20))]) (.cond (.t 21) (.seq (.reg [Gg 4 (.mv (.k (.s (.i .u64 0)))),
 Gg 5 (.mv (.k (.s (.b false))))]) (.ret)) (.skip))) (.seq (.reg [Gm 22 1,Gg 23 (.bin .sub (Ki 64) (.t 22)),
 Gg 24 (.bin .shr (.k (.s (.i .u64 18446744073709551615))) (.t 23)),Gm 25 0,Gg 26 (.bin .shl (.t 24) (.t 25)),Gm 4 26,
 Gg 5 (.mv (.k (.s (.b true))))]) (.ret))),[.t 4, .t 5]⟩

theorem dc97 : compF Try.prog Try.f97 = some df97:=by kernel_rfl
theorem ok97 : FnOk Try.prog 97:=⟨Try.f97,Try.func97,by kernel_rfl,by kernel_rfl⟩

def df98 : DF:= ⟨102, .seq (.reg [Gg 1 (.box (.t 0)),Gg 2 (.new (Zi 11))]) (.seq (.reg [Gg 4 (.fa (.t 1) 0),Gg 5 (.ld (.t 4) none),Gg 6 (.build (Zi 11) [(0,1,(.t 5))]),
 Gg 3 (.new (Zi 11)),⟨none, .st (.t 3) (.t 6) 11,none⟩]) (.seq (.seq (.reg [Gg 7 (.fa (.t 1) 0),
 Gg 8 (.ld (.t 7) none)]) (.block 0 (.seq (.reg [Gg 10 (.bin .eql (.t 8) (Ki 1)),Gm 9 10]) (.cond (.t 9) (.seq (.reg [Gg 11 (.fa (.t 1) 1),
 Gg 12 (.ld (.t 11) none),Gg 13 (.fa (.t 3) 1),⟨none, .st (.t 13) (.t 12) 1,none⟩]) (.seq (.reg [Gg 14 (.fa (.t 1) 2),Gg 15 (.ld (.t 14) none),
 Gg 16 (.fa (.t 3) 2),⟨none, .st (.t 16) (.t 15) 1,none⟩]) (.reg [Gg 17 (.fa (.t 1) 3),Gg 18 (.ld (.t 17) none),Gg 19 (.fa (.t 3) 3),
 ⟨none, .st (.t 19) (.t 18) 1,none⟩]))) (.seq (.reg [Gg 21 (.bin .eql (.t 8) (Ki 2)),Gm 20 21]) (.cond (.t 20) (.seq (.reg [Gg 22 (.fa (.t 1) 1),
 Gg 23 (.ld (.t 22) none),Gg 24 (.fa (.t 3) 1),⟨none, .st (.t 24) (.t 23) 1,none⟩]) (.seq (.reg [Gg 25 (.fa (.t 1) 2),Gg 26 (.ld (.t 25) none),
 Gg 27 (.fa (.t 3) 2),⟨none, .st (.t 27) (.t 26) 1,none⟩]) (.seq (.reg [Gg 28 (.fa (.t 1) 4),Gg 29 (.ld (.t 28) none),Gg 30 (.fa (.t 3) 4),
 ⟨none, .st (.t 30) (.t 29) 1,none⟩]) (.reg [Gg 31 (.fa (.t 1) 5),Gg 32 (.ld (.t 31) none),Gg 33 (.fa (.t 3) 5),
 ⟨none, .st (.t 33) (.t 32) 1,none⟩])))) (.seq (.seq (.reg [Gg 35 (.bin .eql (.t 8) (Ki 4)),
 Gm 34 35]) (.cond (.t 34) (.skip) (.reg [Gg 36 (.bin .eql (.t 8) (Ki 5)),Gm 34 36]))) (.cond (.t 34) (.seq (.reg [Gg 37 (.fa (.t 1) 1),Gg 38 (.ld (.t 37) none),
 Gg 39 (.fa (.t 3) 1),⟨none, .st (.t 39) (.t 38) 1,none⟩]) (.seq (.reg [Gg 40 (.fa (.t 1) 7),Gg 41 (.ld (.t 40) none),Gg 42 (.fa (.t 3) 7),
 ⟨none, .st (.t 42) (.t 41) 1,none⟩]) (.reg [Gg 43 (.fa (.t 1) 6),Gg 44 (.ld (.t 43) none),Gg 45 (.fa (.t 3) 6),
 ⟨none, .st (.t 45) (.t 44) 1,none⟩]))) (.seq (.seq (.reg [Gg 47 (.bin .eql (.t 8) (Ki 3)),
 Gm 46 47]) (.cond (.t 46) (.skip) (.reg [Gg 48 (.bin .eql (.t 8) (Ki 9)),Gm 46 48]))) (.cond (.t 46) (.reg [Gg 49 (.fa (.t 1) 1),Gg 50 (.ld (.t 49) none),
 Gg 51 (.fa (.t 3) 1),⟨none, .st (.t 51) (.t 50) 1,none⟩]) (.seq (.reg [Gg 53 (.bin .eql (.t 8) (Ki 6)),
 Gm 52 53]) (.cond (.t 52) (.seq (.reg [Gg 54 (.fa (.t 1) 1),Gg 55 (.ld (.t 54) none),Gg 56 (.fa (.t 3) 1),
 ⟨none, .st (.t 56) (.t 55) 1,none⟩]) (.seq (.reg [Gg 57 (.fa (.t 1) 8),Gg 58 (.ld (.t 57) none),Gg 59 (.fa (.t 3) 8),
 ⟨none, .st (.t 59) (.t 58) 1,none⟩]) (.reg [Gg 60 (.fa (.t 1) 9),Gg 61 (.ld (.t 60) none),Gg 62 (.fa (.t 3) 9),
 ⟨none, .st (.t 62) (.t 61) 1,none⟩]))) (.seq (.reg [Gg 64 (.bin .eql (.t 8) (Ki 7)),Gm 63 64]) (.cond (.t 63) (.seq (.reg [Gg 65 (.fa (.t 1) 1),
 Gg 66 (.ld (.t 65) none),Gg 67 (.fa (.t 3) 1),⟨none, .st (.t 67) (.t 66) 1,none⟩]) (.reg [Gg 68 (.fa (.t 1) 8),Gg 69 (.ld (.t 68) none),Gg 70 (.fa (.t 3) 8),
 ⟨none, .st (.t 70) (.t 69) 1,none⟩])) (.seq (.reg [Gg 72 (.bin .eql (.t 8) (Ki 8)),Gm 71 72]) (.cond (.t 71) (.seq (.reg [Gg 73 (.fa (.t 1) 1),
 Gg 74 (.ld (.t 73) none),Gg 75 (.fa (.t 3) 1),⟨none, .st (.t 75) (.t 74) 1,none⟩]) (.seq (.reg [Gg 76 (.fa (.t 1) 7),Gg 77 (.ld (.t 76) none),
 Gg 78 (.fa (.t 3) 7),⟨none, .st (.t 78) (.t 77) 1,none⟩]) (.seq (.reg [Gg 79 (.fa (.t 1) 8),Gg 80 (.ld (.t 79) none),Gg 81 (.fa (.t 3) 8),
 ⟨none, .st (.t 81) (.t 80) 1,none⟩]) (.reg [Gg 82 (.fa (.t 1) 9),Gg 83 (.ld (.t 82) none),Gg 84 (.fa (.t 3) 9),
 ⟨none, .st (.t 84) (.t 83) 1,none⟩])))) (.seq (.reg [Gg 86 (.bin .eql (.t 8) (Ki 10)),Gm 85 86]) (.cond (.t 85) (.seq (.reg [Gg 87 (.fa (.t 1) 1),
 Gg 88 (.ld (.t 87) none),Gg 89 (.fa (.t 3) 1),⟨none, .st (.t 89) (.t 88) 1,none⟩]) (.seq (.reg [Gg 90 (.fa (.t 1) 2),Gg 91 (.ld (.t 90) none),
 Gg 92 (.fa (.t 3) 2),⟨none, .st (.t 92) (.t 91) 1,none⟩]) (.reg [Gg 93 (.fa (.t 1) 3),Gg 94 (.ld (.t 93) none),Gg 95 (.fa (.t 3) 3),
 ⟨none, .st (.t 95) (.t 94) 1,none⟩]))) (.seq (.reg [Gg 97 (.bin .eql (.t 8) (Ki 12)),Gm 96 97]) (.cond (.t 96) (.reg [Gg 98 (.fa (.t 1) 10),
 Gg 99 (.ld (.t 98) none),Gg 100 (.fa (.t 3) 10),⟨none, .st (.t 100) (.t 99) 1,none⟩]) (.skip))))))))))))))))))))) (.seq (.reg [Gg 101 (.ld (.t 3) (some 11)),
 ⟨none, .st (.t 2) (.t 101) 11,none⟩]) (.ret)))),[.c 2 (some 11)]⟩

theorem dc98 : compF Try.prog Try.f98 = some df98:=by kernel_rfl
theorem ok98 : FnOk Try.prog 98:=⟨Try.f98,Try.func98,by kernel_rfl,by kernel_rfl⟩

def df99 : DF:= ⟨58, .seq (.reg [Gg 1 (.box (.t 0)),Gg 2 (.mv (Ki 0))]) (.seq (.seq (.reg [Gg 3 (.fa (.t 1) 0),
 Gg 4 (.ld (.t 3) none)]) (.block 0 (.seq (.reg [Gg 6 (.bin .eql (.t 4) (Ki 1)),Gm 5 6]) (.cond (.t 5) (.seq (.reg [Gg 7 (.fa (.t 1) 2),Gg 8 (.ld (.t 7) none),
 Gg 9 (.bin .geq (.t 8) (Ki 4)),Gm 10 9,⟨(some 11), .fa (.t 1) 2,(some (10,true))⟩,⟨(some 12), .ld (.t 11) none,(some (10,true))⟩,
 ⟨(some 13), .bin .leq (.t 12) (Ki 15),(some (10,true))⟩,Gg 14 (.pick (.t 10) (.t 13) (.k (.s (.b false))))]) (.cond (.t 14) (.seq (.reg [Gg 15 (.fa (.t 1) 2),
 Gg 16 (.ld (.t 15) none),Gg 17 (.bin .shl (Ki 1) (.t 16)),Gm 2 17]) (.ret)) (.skip))) (.seq (.reg [Gg 19 (.bin .eql (.t 4) (Ki 2)),
 Gm 18 19]) (.cond (.t 18) (.seq (.reg [Gg 20 (.fa (.t 1) 2),Gg 21 (.ld (.t 20) none),Gg 22 (.bin .geq (.t 21) (Ki 1)),Gm 23 22,
 ⟨(some 24), .fa (.t 1) 2,(some (23,true))⟩,⟨(some 25), .ld (.t 24) none,(some (23,true))⟩,⟨(some 26), .bin .leq (.t 25) (Ki 8),(some (23,true))⟩,
 Gg 27 (.pick (.t 23) (.t 26) (.k (.s (.b false))))]) (.cond (.t 27) (.seq (.reg [Gg 28 (.fa (.t 1) 2),Gg 29 (.ld (.t 28) none),Gg 30 (.bin .shl (Ki 4) (.t 29)),
 Gm 2 30]) (.ret)) (.skip))) (.seq (.reg [Gg 32 (.bin .eql (.t 4) (Ki 10)),Gm 31 32]) (.cond (.t 31) (.seq (.seq (.reg [Gg 33 (.fa (.t 1) 2),
 Gg 34 (.ld (.t 33) none),Gg 35 (.bin .geq (.t 34) (Ki 1)),Gm 36 35,⟨(some 37), .fa (.t 1) 2,(some (36,true))⟩,
 ⟨(some 38), .ld (.t 37) none,(some (36,true))⟩,⟨(some 39), .bin .leq (.t 38) (Ki 8),(some (36,true))⟩,
 Gg 40 (.pick (.t 36) (.t 39) (.k (.s (.b false))))]) (.cond (.t 40) (.seq (.reg [Gg 41 (.fa (.t 1) 2),Gg 42 (.ld (.t 41) none),Gg 43 (.bin .shl (Ki 4) (.t 42)),
 Gm 2 43]) (.ret)) (.skip))) (.seq (.reg [Gg 44 (.fa (.t 1) 2),Gg 45 (.ld (.t 44) none),
 Gg 46 (.bin .eql (.t 45) (Ki 31))]) (.cond (.t 46) (.seq (.reg [Gg 2 (.mv (Ki 64))]) (.ret)) (.skip)))) (.seq (.seq (.reg [Gg 48 (.bin .eql (.t 4) (Ki 3)),
 Gm 47 48]) (.cond (.t 47) (.skip) (.reg [Gg 49 (.bin .eql (.t 4) (Ki 9)),
 Gm 47 49]))) (.cond (.t 47) (.seq (.reg [Gg 2 (.mv (Ki 64))]) (.ret)) (.seq (.reg [Gg 51 (.bin .eql (.t 4) (Ki 4)),
 Gm 50 51]) (.cond (.t 50) (.seq (.reg [Gg 2 (.mv (Ki 4))]) (.ret)) (.seq (.seq (.reg [Gg 53 (.bin .eql (.t 4) (Ki 5)),
 Gm 52 53]) (.cond (.t 52) (.skip) (.seq (.reg [Gg 54 (.bin .eql (.t 4) (Ki 6)),Gm 52 54]) (.cond (.t 52) (.skip) (.reg [Gg 55 (.bin .eql (.t 4) (Ki 7)),
 Gm 52 55]))))) (.cond (.t 52) (.seq (.reg [Gg 2 (.mv (Ki 8))]) (.ret)) (.seq (.reg [Gg 57 (.bin .eql (.t 4) (Ki 8)),
 Gm 56 57]) (.cond (.t 56) (.seq (.reg [Gg 2 (.mv (Ki 16))]) (.ret)) (.skip))))))))))))))))) (.seq (.reg [Gg 2 (.mv (Ki 0))]) (.ret))),[.t 2]⟩

theorem dc99 : compF Try.prog Try.f99 = some df99:=by kernel_rfl
theorem ok99 : FnOk Try.prog 99:=⟨Try.f99,Try.func99,by kernel_rfl,by kernel_rfl⟩

def df100 : DF:= ⟨17, .seq (.reg [Gg 4 (.mv (.k (.s (.b false))))]) (.seq (.reg [Gm 5 0,Gg 6 (.bin .geq (.t 5) (Ki 1024)),Gm 7 6,⟨(some 8), .mv (.t 0),(some (7,true))⟩,
 ⟨(some 9), .bin .leq (.t 8) (Ki 65535),(some (7,true))⟩,Gg 10 (.pick (.t 7) (.t 9) (.k (.s (.b false)))),Gm 11 10,⟨(some 12), .mv (.t 0),(some (11,true))⟩,
 ⟨(some 13), .mv (.t 1),(some (11,true))⟩,⟨(some 14), .bin .rem (.t 12) (.t 13),(some (11,true))⟩,⟨(some 15), .bin .eql (.t 14) (Ki 0),(some (11,true))⟩,
 Gg 16 (.pick (.t 11) (.t 15) (.k (.s (.b false)))),Gm 4 16]) (.ret)),[.t 4]⟩

theorem dc100 : compF Try.prog Try.f100 = some df100:=by kernel_rfl
theorem ok100 : FnOk Try.prog 100:=⟨Try.f100,Try.func100,by kernel_rfl,by kernel_rfl⟩

def df101 : DF:= ⟨15, .seq (.reg [Gg 6 (.mv (.k (.s (.b false))))]) (.seq (.reg [Gm 7 0,Gm 8 1,Gg 9 (.bin .geq (.t 7) (.t 8)),Gm 10 9,
 ⟨(some 11), .mv (.t 0),(some (10,true))⟩,⟨(some 12), .mv (.t 2),(some (10,true))⟩,⟨(some 13), .bin .leq (.t 11) (.t 12),(some (10,true))⟩,
 Gg 14 (.pick (.t 10) (.t 13) (.k (.s (.b false)))),Gm 6 14]) (.ret)),[.t 6]⟩

theorem dc101 : compF Try.prog Try.f101 = some df101:=by kernel_rfl
theorem ok101 : FnOk Try.prog 101:=⟨Try.f101,Try.func101,by kernel_rfl,by kernel_rfl⟩

def df102 : DF:= ⟨13, .seq (.reg [Gg 2 (.mv (Ki 0)),Gg 3 (.mv (.k (.s (.b false))))]) (.seq (.reg [Gm 4 0,Gg 5 (.mx true (.t 4) (Ki 0)),Gg 6 (.bin .shl (Ki 4) (.t 5)),Gm 7 0,
 Gg 8 (.bin .geq (.t 7) (Ki 1)),Gm 9 8,⟨(some 10), .mv (.t 0),(some (9,true))⟩,⟨(some 11), .bin .leq (.t 10) (Ki 8),(some (9,true))⟩,
 Gg 12 (.pick (.t 9) (.t 11) (.k (.s (.b false)))),Gm 2 6,Gm 3 12]) (.ret)),[.t 2, .t 3]⟩

theorem dc102 : compF Try.prog Try.f102 = some df102:=by kernel_rfl
theorem ok102 : FnOk Try.prog 102:=⟨Try.f102,Try.func102,by kernel_rfl,by kernel_rfl⟩

theorem mixed : OkP Try.prog:=⟨by kernel_rfl,rfl⟩
end Go.Proofs.Ytcdfofeolgbnbaa

