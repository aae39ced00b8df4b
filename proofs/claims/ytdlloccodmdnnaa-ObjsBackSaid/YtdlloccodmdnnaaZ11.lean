/- The small code of the functions of this seat, printed by a program, and that the model's code compiles to it. -/
import Derived.Test.YtdlloccodmdnnaaProg
import Derived.Test.YtdlloccodmdnnaaZ5
import Derived.KernelRfl
/- The small code of the functions of this seat, printed by a program, and that the model's code compiles to it. -/
namespace Go.Proofs.Ytdlloccodmdnnaa
open Go.D
set_option linter.all false
set_option maxRecDepth 100000

/-- citadel/citadellaw08.ObjsBack -/
def df11 : DF :=
  ⟨261, .seq (.reg [⟨(some 1), .box (.t 0), none⟩,
  ⟨(some 2), .mv (.k (.s (.b false))), none⟩])
  (.seq (.reg [⟨(some 24), .call 28 [], none⟩,
  ⟨(some 3), .mv (.t 24), none⟩])
  (.seq (.reg [⟨(some 26), .call 29 [(.k (.s (.i .i64 12)))], none⟩,
  ⟨(some 25), .mv (.t 26), none⟩,
  ⟨(some 27), .ext (.t 25) 0, none⟩,
  ⟨(some 28), .ext (.t 25) 1, none⟩,
  ⟨(some 4), .mv (.t 27), none⟩,
  ⟨(some 5), .mv (.t 28), none⟩])
  (.seq (.seq (.reg [⟨(some 29), .mv (.t 4), none⟩,
  ⟨(some 30), .eqn false false (.t 29), none⟩,
  ⟨(some 31), .mv (.t 30), none⟩,
  ⟨(some 32), .mv (.t 5), (some (31, false))⟩,
  ⟨(some 33), .bin .neq (.t 32) (.k (.s (.i .i64 0))), (some (31, false))⟩,
  ⟨(some 34), .pick (.t 31) (.k (.s (.b true))) (.t 33), none⟩])
  (.cond (.t 34)
  (.seq (.reg [⟨(some 2), .mv (.k (.s (.b false))), none⟩])
  (.ret))
  (.skip)))
  (.seq (.reg [⟨(some 35), .mv (.t 4), none⟩,
  ⟨(some 36), .call 38 [(.t 35), (.k (.s (.i .i64 0))), (.k (.s (.i .i64 4096))), (.k (.s (.i .u64 9)))], none⟩,
  ⟨(some 5), .mv (.t 36), none⟩])
  (.seq (.reg [⟨(some 6), .mv (.k (.s (.i .i64 0))), none⟩])
  (.seq (.reg [⟨(some 7), .mv (.k (.s (.i .i64 0))), none⟩])
  (.seq (.reg [⟨(some 8), .mv (.k (.s (.b true))), none⟩])
  (.seq (.seq (.reg [⟨(some 37), .fa (.t 1) 0, none⟩,
  ⟨(some 38), .ld (.t 37) none, none⟩])
  (.block 0 (.seq (.reg [⟨(some 40), .bin .eql (.t 38) (.k (.s (.i .i64 1))), none⟩,
  ⟨(some 39), .mv (.t 40), none⟩])
  (.cond (.t 39)
  (.seq (.reg [⟨(some 41), .mv (.t 4), none⟩,
  ⟨(some 42), .fa (.t 1) 1, none⟩,
  ⟨(some 43), .ld (.t 42) none, none⟩,
  ⟨(some 44), .fa (.t 1) 4, none⟩,
  ⟨(some 45), .ld (.t 44) (some 30), none⟩,
  ⟨(some 46), .call 39 [(.t 41), (.t 43), (.t 45)], none⟩,
  ⟨(some 6), .mv (.t 46), none⟩])
  (.seq (.reg [⟨(some 48), .mv (.t 4), none⟩,
  ⟨(some 49), .fa (.t 1) 1, none⟩,
  ⟨(some 50), .ld (.t 49) none, none⟩,
  ⟨(some 51), .call 33 [(.t 48), (.t 50)], none⟩,
  ⟨(some 47), .mv (.t 51), none⟩,
  ⟨(some 52), .ext (.t 47) 0, none⟩,
  ⟨(some 53), .ext (.t 47) 1, none⟩,
  ⟨(some 9), .new [.i .i64 0, .i .i64 0, .i .i64 0, .b false, .i .i64 0, .i .i64 0, .i .i64 0, .i .i64 0, .b false, .b false, .i .i64 0, .i .i64 0, .i .i64 0, .i .i64 0, .i .u64 0, .i .u64 0, .i .u64 0, .i .u64 0, .i .u64 0, .i .u64 0, .i .u64 0, .i .u64 0, .i .u64 0, .i .u64 0, .i .u64 0, .i .u64 0, .i .u64 0, .i .u64 0, .i .u64 0, .i .u64 0], none⟩,
  ⟨none, .st (.t 9) (.t 52) 30, none⟩,
  ⟨(some 10), .mv (.t 53), none⟩])
  (.seq (.reg [⟨(some 54), .mv (.t 6), none⟩,
  ⟨(some 55), .bin .neq (.t 54) (.k (.s (.i .i64 0))), none⟩,
  ⟨(some 56), .mv (.t 55), none⟩,
  ⟨(some 57), .mv (.t 10), (some (56, false))⟩,
  ⟨(some 58), .bin .eql (.t 57) (.k (.s (.i .i64 0))), (some (56, false))⟩,
  ⟨(some 59), .mv (.t 58), (some (56, false))⟩,
  ⟨(some 60), .ld (.t 9) (some 30), (some (59, true))⟩,
  ⟨(some 61), .fa (.t 1) 4, (some (59, true))⟩,
  ⟨(some 62), .ld (.t 61) (some 30), (some (59, true))⟩,
  ⟨(some 63), .eqa false [true, true, true, false, true, true, true, true, false, false, true, true, true, true, true, true, true, true, true, true, true, true, true, true, true, true, true, true, true, true] (.t 60) (.t 62), (some (59, true))⟩,
  ⟨(some 64), .pick (.t 59) (.t 63) (.k (.s (.b false))), (some (56, false))⟩,
  ⟨(some 65), .pick (.t 56) (.k (.s (.b true))) (.t 64), none⟩,
  ⟨(some 8), .mv (.t 65), none⟩])
  (.reg [⟨(some 7), .mv (.k (.s (.i .i64 64))), none⟩]))))
  (.seq (.reg [⟨(some 67), .bin .eql (.t 38) (.k (.s (.i .i64 2))), none⟩,
  ⟨(some 66), .mv (.t 67), none⟩])
  (.cond (.t 66)
  (.seq (.reg [⟨(some 68), .mv (.t 4), none⟩,
  ⟨(some 69), .fa (.t 1) 1, none⟩,
  ⟨(some 70), .ld (.t 69) none, none⟩,
  ⟨(some 71), .fa (.t 1) 2, none⟩,
  ⟨(some 72), .ld (.t 71) none, none⟩,
  ⟨(some 73), .fa (.t 1) 3, none⟩,
  ⟨(some 74), .ld (.t 73) none, none⟩,
  ⟨(some 75), .call 40 [(.t 68), (.t 70), (.t 72), (.t 74)], none⟩,
  ⟨(some 6), .mv (.t 75), none⟩])
  (.seq (.reg [⟨(some 77), .mv (.t 4), none⟩,
  ⟨(some 78), .fa (.t 1) 1, none⟩,
  ⟨(some 79), .ld (.t 78) none, none⟩,
  ⟨(some 80), .fa (.t 1) 2, none⟩,
  ⟨(some 81), .ld (.t 80) none, none⟩,
  ⟨(some 82), .call 41 [(.t 77), (.t 79), (.t 81)], none⟩,
  ⟨(some 76), .mv (.t 82), none⟩,
  ⟨(some 83), .ext (.t 76) 0, none⟩,
  ⟨(some 84), .ext (.t 76) 1, none⟩,
  ⟨(some 11), .mv (.t 83), none⟩,
  ⟨(some 12), .mv (.t 84), none⟩])
  (.seq (.reg [⟨(some 85), .mv (.t 6), none⟩,
  ⟨(some 86), .bin .neq (.t 85) (.k (.s (.i .i64 0))), none⟩,
  ⟨(some 87), .mv (.t 86), none⟩,
  ⟨(some 88), .mv (.t 12), (some (87, false))⟩,
  ⟨(some 89), .bin .eql (.t 88) (.k (.s (.i .i64 0))), (some (87, false))⟩,
  ⟨(some 90), .mv (.t 89), (some (87, false))⟩,
  ⟨(some 91), .mv (.t 11), (some (90, true))⟩,
  ⟨(some 92), .fa (.t 1) 3, (some (90, true))⟩,
  ⟨(some 93), .ld (.t 92) none, (some (90, true))⟩,
  ⟨(some 94), .bin .eql (.t 91) (.t 93), (some (90, true))⟩,
  ⟨(some 95), .pick (.t 90) (.t 94) (.k (.s (.b false))), (some (87, false))⟩,
  ⟨(some 96), .pick (.t 87) (.k (.s (.b true))) (.t 95), none⟩,
  ⟨(some 8), .mv (.t 96), none⟩])
  (.reg [⟨(some 7), .mv (.k (.s (.i .i64 64))), none⟩]))))
  (.seq (.reg [⟨(some 98), .bin .eql (.t 38) (.k (.s (.i .i64 3))), none⟩,
  ⟨(some 97), .mv (.t 98), none⟩])
  (.cond (.t 97)
  (.seq (.reg [⟨(some 99), .mv (.t 4), none⟩,
  ⟨(some 100), .fa (.t 1) 1, none⟩,
  ⟨(some 101), .ld (.t 100) none, none⟩,
  ⟨(some 102), .fa (.t 1) 34, none⟩,
  ⟨(some 103), .ld (.t 102) (some 3), none⟩,
  ⟨(some 104), .call 42 [(.t 99), (.t 101), (.t 103)], none⟩,
  ⟨(some 6), .mv (.t 104), none⟩])
  (.seq (.reg [⟨(some 106), .mv (.t 4), none⟩,
  ⟨(some 107), .fa (.t 1) 1, none⟩,
  ⟨(some 108), .ld (.t 107) none, none⟩,
  ⟨(some 109), .call 34 [(.t 106), (.t 108)], none⟩,
  ⟨(some 105), .mv (.t 109), none⟩,
  ⟨(some 110), .ext (.t 105) 0, none⟩,
  ⟨(some 111), .ext (.t 105) 1, none⟩,
  ⟨(some 13), .new [.i .i64 0, .i .i64 0, .i .i64 0], none⟩,
  ⟨none, .st (.t 13) (.t 110) 3, none⟩,
  ⟨(some 14), .mv (.t 111), none⟩])
  (.seq (.reg [⟨(some 112), .mv (.t 6), none⟩,
  ⟨(some 113), .bin .neq (.t 112) (.k (.s (.i .i64 0))), none⟩,
  ⟨(some 114), .mv (.t 113), none⟩,
  ⟨(some 115), .mv (.t 14), (some (114, false))⟩,
  ⟨(some 116), .bin .eql (.t 115) (.k (.s (.i .i64 0))), (some (114, false))⟩,
  ⟨(some 117), .mv (.t 116), (some (114, false))⟩,
  ⟨(some 118), .ld (.t 13) (some 3), (some (117, true))⟩,
  ⟨(some 119), .fa (.t 1) 34, (some (117, true))⟩,
  ⟨(some 120), .ld (.t 119) (some 3), (some (117, true))⟩,
  ⟨(some 121), .eqa false [true, true, true] (.t 118) (.t 120), (some (117, true))⟩,
  ⟨(some 122), .pick (.t 117) (.t 121) (.k (.s (.b false))), (some (114, false))⟩,
  ⟨(some 123), .pick (.t 114) (.k (.s (.b true))) (.t 122), none⟩,
  ⟨(some 8), .mv (.t 123), none⟩])
  (.reg [⟨(some 7), .mv (.k (.s (.i .i64 4))), none⟩]))))
  (.seq (.reg [⟨(some 125), .bin .eql (.t 38) (.k (.s (.i .i64 4))), none⟩,
  ⟨(some 124), .mv (.t 125), none⟩])
  (.cond (.t 124)
  (.seq (.reg [⟨(some 126), .mv (.t 4), none⟩,
  ⟨(some 127), .fa (.t 1) 1, none⟩,
  ⟨(some 128), .ld (.t 127) none, none⟩,
  ⟨(some 129), .fa (.t 1) 37, none⟩,
  ⟨(some 130), .ld (.t 129) (some 5), none⟩,
  ⟨(some 131), .call 43 [(.t 126), (.t 128), (.t 130)], none⟩,
  ⟨(some 6), .mv (.t 131), none⟩])
  (.seq (.reg [⟨(some 133), .mv (.t 4), none⟩,
  ⟨(some 134), .fa (.t 1) 1, none⟩,
  ⟨(some 135), .ld (.t 134) none, none⟩,
  ⟨(some 136), .call 35 [(.t 133), (.t 135)], none⟩,
  ⟨(some 132), .mv (.t 136), none⟩,
  ⟨(some 137), .ext (.t 132) 0, none⟩,
  ⟨(some 138), .ext (.t 132) 1, none⟩,
  ⟨(some 15), .new [.i .i64 0, .i .i64 0, .i .i64 0, .i .i64 0, .i .i64 0], none⟩,
  ⟨none, .st (.t 15) (.t 137) 5, none⟩,
  ⟨(some 16), .mv (.t 138), none⟩])
  (.seq (.reg [⟨(some 139), .mv (.t 6), none⟩,
  ⟨(some 140), .bin .neq (.t 139) (.k (.s (.i .i64 0))), none⟩,
  ⟨(some 141), .mv (.t 140), none⟩,
  ⟨(some 142), .mv (.t 16), (some (141, false))⟩,
  ⟨(some 143), .bin .eql (.t 142) (.k (.s (.i .i64 0))), (some (141, false))⟩,
  ⟨(some 144), .mv (.t 143), (some (141, false))⟩,
  ⟨(some 145), .ld (.t 15) (some 5), (some (144, true))⟩,
  ⟨(some 146), .fa (.t 1) 37, (some (144, true))⟩,
  ⟨(some 147), .ld (.t 146) (some 5), (some (144, true))⟩,
  ⟨(some 148), .eqa false [true, true, true, true, true] (.t 145) (.t 147), (some (144, true))⟩,
  ⟨(some 149), .pick (.t 144) (.t 148) (.k (.s (.b false))), (some (141, false))⟩,
  ⟨(some 150), .pick (.t 141) (.k (.s (.b true))) (.t 149), none⟩,
  ⟨(some 8), .mv (.t 150), none⟩])
  (.reg [⟨(some 7), .mv (.k (.s (.i .i64 8))), none⟩]))))
  (.seq (.reg [⟨(some 152), .bin .eql (.t 38) (.k (.s (.i .i64 5))), none⟩,
  ⟨(some 151), .mv (.t 152), none⟩])
  (.cond (.t 151)
  (.seq (.reg [⟨(some 153), .mv (.t 4), none⟩,
  ⟨(some 154), .fa (.t 1) 1, none⟩,
  ⟨(some 155), .ld (.t 154) none, none⟩,
  ⟨(some 156), .fa (.t 1) 2, none⟩,
  ⟨(some 157), .ld (.t 156) none, none⟩,
  ⟨(some 158), .fa (.t 1) 42, none⟩,
  ⟨(some 159), .ld (.t 158) (some 4), none⟩,
  ⟨(some 160), .call 44 [(.t 153), (.t 155), (.t 157), (.t 159)], none⟩,
  ⟨(some 6), .mv (.t 160), none⟩])
  (.seq (.reg [⟨(some 162), .mv (.t 4), none⟩,
  ⟨(some 163), .fa (.t 1) 1, none⟩,
  ⟨(some 164), .ld (.t 163) none, none⟩,
  ⟨(some 165), .fa (.t 1) 2, none⟩,
  ⟨(some 166), .ld (.t 165) none, none⟩,
  ⟨(some 167), .call 36 [(.t 162), (.t 164), (.t 166)], none⟩,
  ⟨(some 161), .mv (.t 167), none⟩,
  ⟨(some 168), .ext (.t 161) 0, none⟩,
  ⟨(some 169), .ext (.t 161) 1, none⟩,
  ⟨(some 17), .new [.b false, .b false, .i .i64 0, .i .i64 0], none⟩,
  ⟨none, .st (.t 17) (.t 168) 4, none⟩,
  ⟨(some 18), .mv (.t 169), none⟩])
  (.seq (.reg [⟨(some 170), .mv (.t 6), none⟩,
  ⟨(some 171), .bin .neq (.t 170) (.k (.s (.i .i64 0))), none⟩,
  ⟨(some 172), .mv (.t 171), none⟩,
  ⟨(some 173), .mv (.t 18), (some (172, false))⟩,
  ⟨(some 174), .bin .eql (.t 173) (.k (.s (.i .i64 0))), (some (172, false))⟩,
  ⟨(some 175), .mv (.t 174), (some (172, false))⟩,
  ⟨(some 176), .ld (.t 17) (some 4), (some (175, true))⟩,
  ⟨(some 177), .fa (.t 1) 42, (some (175, true))⟩,
  ⟨(some 178), .ld (.t 177) (some 4), (some (175, true))⟩,
  ⟨(some 179), .eqa false [false, false, true, true] (.t 176) (.t 178), (some (175, true))⟩,
  ⟨(some 180), .pick (.t 175) (.t 179) (.k (.s (.b false))), (some (172, false))⟩,
  ⟨(some 181), .pick (.t 172) (.k (.s (.b true))) (.t 180), none⟩,
  ⟨(some 8), .mv (.t 181), none⟩])
  (.reg [⟨(some 7), .mv (.k (.s (.i .i64 8))), none⟩]))))
  (.seq (.reg [⟨(some 183), .bin .eql (.t 38) (.k (.s (.i .i64 6))), none⟩,
  ⟨(some 182), .mv (.t 183), none⟩])
  (.cond (.t 182)
  (.seq (.reg [⟨(some 184), .mv (.t 4), none⟩,
  ⟨(some 185), .fa (.t 1) 1, none⟩,
  ⟨(some 186), .ld (.t 185) none, none⟩,
  ⟨(some 187), .fa (.t 1) 2, none⟩,
  ⟨(some 188), .ld (.t 187) none, none⟩,
  ⟨(some 189), .fa (.t 1) 46, none⟩,
  ⟨(some 190), .ld (.t 189) none, none⟩,
  ⟨(some 191), .call 45 [(.t 184), (.t 186), (.t 188), (.t 190)], none⟩,
  ⟨(some 6), .mv (.t 191), none⟩])
  (.seq (.reg [⟨(some 193), .mv (.t 4), none⟩,
  ⟨(some 194), .fa (.t 1) 1, none⟩,
  ⟨(some 195), .ld (.t 194) none, none⟩,
  ⟨(some 196), .fa (.t 1) 2, none⟩,
  ⟨(some 197), .ld (.t 196) none, none⟩,
  ⟨(some 198), .call 37 [(.t 193), (.t 195), (.t 197)], none⟩,
  ⟨(some 192), .mv (.t 198), none⟩,
  ⟨(some 199), .ext (.t 192) 0, none⟩,
  ⟨(some 200), .ext (.t 192) 1, none⟩,
  ⟨(some 19), .mv (.t 199), none⟩,
  ⟨(some 20), .mv (.t 200), none⟩])
  (.seq (.reg [⟨(some 201), .mv (.t 6), none⟩,
  ⟨(some 202), .bin .neq (.t 201) (.k (.s (.i .i64 0))), none⟩,
  ⟨(some 203), .mv (.t 202), none⟩,
  ⟨(some 204), .mv (.t 20), (some (203, false))⟩,
  ⟨(some 205), .bin .eql (.t 204) (.k (.s (.i .i64 0))), (some (203, false))⟩,
  ⟨(some 206), .mv (.t 205), (some (203, false))⟩,
  ⟨(some 207), .mv (.t 19), (some (206, true))⟩,
  ⟨(some 208), .fa (.t 1) 46, (some (206, true))⟩,
  ⟨(some 209), .ld (.t 208) none, (some (206, true))⟩,
  ⟨(some 210), .bin .eql (.t 207) (.t 209), (some (206, true))⟩,
  ⟨(some 211), .pick (.t 206) (.t 210) (.k (.s (.b false))), (some (203, false))⟩,
  ⟨(some 212), .pick (.t 203) (.k (.s (.b true))) (.t 211), none⟩,
  ⟨(some 8), .mv (.t 212), none⟩])
  (.reg [⟨(some 7), .mv (.k (.s (.i .i64 8))), none⟩]))))
  (.skip)))))))))))))))
  (.seq (.reg [⟨(some 214), .mv (.t 4), none⟩,
  ⟨(some 215), .call 26 [(.t 214), (.k (.s (.i .i64 0))), (.k (.s (.i .i64 4096)))], none⟩,
  ⟨(some 213), .mv (.t 215), none⟩,
  ⟨(some 216), .ext (.t 213) 0, none⟩,
  ⟨(some 217), .ext (.t 213) 1, none⟩,
  ⟨(some 21), .mv (.t 216), none⟩,
  ⟨(some 22), .mv (.t 217), none⟩])
  (.seq (.seq (.reg [⟨(some 218), .mv (.t 5), none⟩,
  ⟨(some 219), .bin .neq (.t 218) (.k (.s (.i .i64 0))), none⟩,
  ⟨(some 220), .mv (.t 219), none⟩,
  ⟨(some 221), .mv (.t 22), (some (220, false))⟩,
  ⟨(some 222), .bin .neq (.t 221) (.k (.s (.i .i64 0))), (some (220, false))⟩,
  ⟨(some 223), .pick (.t 220) (.k (.s (.b true))) (.t 222), none⟩,
  ⟨(some 224), .mv (.t 223), none⟩,
  ⟨(some 225), .mv (.t 8), (some (224, false))⟩,
  ⟨(some 226), .un .not (.t 225), (some (224, false))⟩,
  ⟨(some 227), .pick (.t 224) (.k (.s (.b true))) (.t 226), none⟩,
  ⟨(some 228), .mv (.t 227), none⟩,
  ⟨(some 229), .mv (.t 21), (some (228, false))⟩,
  ⟨(some 230), .len (.t 229), (some (228, false))⟩,
  ⟨(some 231), .bin .neq (.t 230) (.k (.s (.i .i64 4096))), (some (228, false))⟩,
  ⟨(some 232), .pick (.t 228) (.k (.s (.b true))) (.t 231), none⟩])
  (.cond (.t 232)
  (.seq (.reg [⟨(some 2), .mv (.k (.s (.b false))), none⟩])
  (.ret))
  (.skip)))
  (.seq (.seq (.reg [⟨(some 23), .mv (.k (.s (.i .i64 0))), none⟩])
  (.block 1 (.loop (.seq (.seq (.reg [⟨(some 233), .mv (.t 23), none⟩,
  ⟨(some 234), .bin .lss (.t 233) (.k (.s (.i .i64 4096))), none⟩])
  (.cond (.t 234)
  (.skip)
  (.exit 1)))
  (.seq (.block 2 (.seq (.reg [⟨(some 237), .mv (.t 21), none⟩,
  ⟨(some 238), .mv (.t 23), none⟩,
  ⟨(some 239), .ia none 1 (.t 237) (.t 238), none⟩,
  ⟨(some 240), .ld (.t 239) none, none⟩,
  ⟨(some 241), .bin .neq (.t 240) (.k (.s (.i .u64 9))), none⟩,
  ⟨(some 242), .mv (.t 241), none⟩,
  ⟨(some 243), .mv (.t 6), (some (242, true))⟩,
  ⟨(some 244), .bin .neq (.t 243) (.k (.s (.i .i64 0))), (some (242, true))⟩,
  ⟨(some 245), .mv (.t 244), (some (242, true))⟩,
  ⟨(some 246), .mv (.t 23), (some (245, false))⟩,
  ⟨(some 247), .fa (.t 1) 1, (some (245, false))⟩,
  ⟨(some 248), .ld (.t 247) none, (some (245, false))⟩,
  ⟨(some 249), .bin .lss (.t 246) (.t 248), (some (245, false))⟩,
  ⟨(some 250), .pick (.t 245) (.k (.s (.b true))) (.t 249), (some (242, true))⟩,
  ⟨(some 251), .mv (.t 250), (some (242, true))⟩,
  ⟨(some 252), .mv (.t 23), (some (251, false))⟩,
  ⟨(some 253), .fa (.t 1) 1, (some (251, false))⟩,
  ⟨(some 254), .ld (.t 253) none, (some (251, false))⟩,
  ⟨(some 255), .mv (.t 7), (some (251, false))⟩,
  ⟨(some 256), .bin .add (.t 254) (.t 255), (some (251, false))⟩,
  ⟨(some 257), .bin .geq (.t 252) (.t 256), (some (251, false))⟩,
  ⟨(some 258), .pick (.t 251) (.k (.s (.b true))) (.t 257), (some (242, true))⟩,
  ⟨(some 259), .pick (.t 242) (.t 258) (.k (.s (.b false))), none⟩])
  (.cond (.t 259)
  (.seq (.reg [⟨(some 2), .mv (.k (.s (.b false))), none⟩])
  (.ret))
  (.skip))))
  (.reg [⟨(some 235), .mv (.t 23), none⟩,
  ⟨(some 236), .bin .add (.t 235) (.k (.s (.i .i64 1))), none⟩,
  ⟨(some 23), .mv (.t 236), none⟩]))))))
  (.seq (.reg [⟨(some 260), .mv (.t 3), none⟩,
  ⟨(some 2), .mv (.t 260), none⟩])
  (.ret))))))))))))), [.t 2]⟩
theorem dc11 : compF Try.prog Try.f11 = some df11 := by kernel_rfl
/-- (*citadel/mem.Memory).Dump -/
def df26 : DF :=
  ⟨21, .seq (.reg [⟨(some 6), .mv (.k (.s (.ns))), none⟩,
  ⟨(some 7), .mv (.k (.s (.i .i64 0))), none⟩])
  (.seq (.reg [⟨(some 11), .mv (.t 0), none⟩,
  ⟨(some 12), .mv (.t 1), none⟩,
  ⟨(some 13), .mv (.t 2), none⟩,
  ⟨(some 14), .call 60 [(.t 11), (.t 12), (.t 13)], none⟩,
  ⟨(some 10), .mv (.t 14), none⟩,
  ⟨(some 15), .ext (.t 10) 0, none⟩,
  ⟨(some 16), .ext (.t 10) 1, none⟩,
  ⟨(some 8), .mv (.t 15), none⟩,
  ⟨(some 9), .mv (.t 16), none⟩])
  (.seq (.seq (.reg [⟨(some 17), .mv (.t 9), none⟩,
  ⟨(some 18), .un .not (.t 17), none⟩])
  (.cond (.t 18)
  (.seq (.reg [⟨(some 6), .mv (.k (.s (.ns))), none⟩,
  ⟨(some 7), .mv (.k (.s (.i .i64 20))), none⟩])
  (.ret))
  (.skip)))
  (.seq (.reg [⟨(some 19), .mv (.t 8), none⟩,
  ⟨(some 20), .call 61 [(.t 19)], none⟩,
  ⟨(some 6), .mv (.t 20), none⟩,
  ⟨(some 7), .mv (.k (.s (.i .i64 0))), none⟩])
  (.ret)))), [.t 6, .t 7]⟩
theorem dc26 : compF Try.prog Try.f26 = some df26 := by kernel_rfl
theorem ok26 : FnOk Try.prog 26 := ⟨Try.f26, Try.func26, by kernel_rfl, by kernel_rfl⟩

/-- citadel/citadelref02.Same -/
def df27 : DF :=
  ⟨26, .seq (.reg [⟨(some 4), .mv (.k (.s (.b false))), none⟩])
  (.seq (.seq (.reg [⟨(some 6), .mv (.t 0), none⟩,
  ⟨(some 7), .len (.t 6), none⟩,
  ⟨(some 8), .mv (.t 1), none⟩,
  ⟨(some 9), .len (.t 8), none⟩,
  ⟨(some 10), .bin .neq (.t 7) (.t 9), none⟩])
  (.cond (.t 10)
  (.seq (.reg [⟨(some 4), .mv (.k (.s (.b false))), none⟩])
  (.ret))
  (.skip)))
  (.seq (.seq (.reg [⟨(some 5), .mv (.k (.s (.i .i64 0))), none⟩])
  (.block 0 (.loop (.seq (.seq (.reg [⟨(some 11), .mv (.t 5), none⟩,
  ⟨(some 12), .mv (.t 0), none⟩,
  ⟨(some 13), .len (.t 12), none⟩,
  ⟨(some 14), .bin .lss (.t 11) (.t 13), none⟩])
  (.cond (.t 14)
  (.skip)
  (.exit 0)))
  (.seq (.block 1 (.seq (.drq [⟨(some 17), .mv (.t 0), none⟩,
  ⟨(some 18), .mv (.t 5), none⟩,
  ⟨(some 19), .ia none 1 (.t 17) (.t 18), none⟩,
  ⟨(some 20), .ld (.t 19) none, none⟩,
  ⟨(some 21), .mv (.t 1), none⟩,
  ⟨(some 22), .mv (.t 5), none⟩,
  ⟨(some 23), .ia none 1 (.t 21) (.t 22), none⟩,
  ⟨(some 24), .ld (.t 23) none, none⟩,
  ⟨(some 25), .bin .neq (.t 20) (.t 24), none⟩])
  (.cond (.t 25)
  (.seq (.reg [⟨(some 4), .mv (.k (.s (.b false))), none⟩])
  (.ret))
  (.skip))))
  (.reg [⟨(some 15), .mv (.t 5), none⟩,
  ⟨(some 16), .bin .add (.t 15) (.k (.s (.i .i64 1))), none⟩,
  ⟨(some 5), .mv (.t 16), none⟩]))))))
  (.seq (.reg [⟨(some 4), .mv (.k (.s (.b true))), none⟩])
  (.ret)))), [.t 4]⟩
theorem dc27 : compF Try.prog Try.f27 = some df27 := by kernel_rfl
theorem ok27 : FnOk Try.prog 27 := ⟨Try.f27, Try.func27, by kernel_rfl, by kernel_rfl⟩

/-- citadel/citadellaw08.awake -/
def df28 : DF :=
  ⟨118, .seq (.reg [⟨(some 0), .mv (.k (.s (.b false))), none⟩])
  (.seq (.reg [⟨(some 22), .call 29 [(.k (.s (.i .i64 12)))], none⟩,
  ⟨(some 21), .mv (.t 22), none⟩,
  ⟨(some 23), .ext (.t 21) 0, none⟩,
  ⟨(some 24), .ext (.t 21) 1, none⟩,
  ⟨(some 1), .mv (.t 23), none⟩,
  ⟨(some 2), .mv (.t 24), none⟩])
  (.seq (.seq (.reg [⟨(some 25), .mv (.t 1), none⟩,
  ⟨(some 26), .eqn false false (.t 25), none⟩,
  ⟨(some 27), .mv (.t 26), none⟩,
  ⟨(some 28), .mv (.t 2), (some (27, false))⟩,
  ⟨(some 29), .bin .neq (.t 28) (.k (.s (.i .i64 0))), (some (27, false))⟩,
  ⟨(some 30), .pick (.t 27) (.k (.s (.b true))) (.t 29), none⟩])
  (.cond (.t 30)
  (.seq (.reg [⟨(some 0), .mv (.k (.s (.b false))), none⟩])
  (.ret))
  (.skip)))
  (.seq (.reg [⟨(some 31), .mv (.t 1), none⟩,
  ⟨(some 32), .build [.i .i64 0, .i .i64 0, .i .i64 0, .b false, .i .i64 0, .i .i64 0, .i .i64 0, .i .i64 0, .b false, .b false, .i .i64 0, .i .i64 0, .i .i64 0, .i .i64 0, .i .u64 0, .i .u64 0, .i .u64 0, .i .u64 0, .i .u64 0, .i .u64 0, .i .u64 0, .i .u64 0, .i .u64 0, .i .u64 0, .i .u64 0, .i .u64 0, .i .u64 0, .i .u64 0, .i .u64 0, .i .u64 0] [(0, 1, (.k (.s (.i .i64 1)))), (1, 1, (.k (.s (.i .i64 255)))), (2, 1, (.k (.s (.i .i64 5)))), (3, 1, (.k (.s (.b true)))), (6, 1, (.k (.s (.i .i64 1024)))), (10, 1, (.k (.s (.i .i64 2048))))], none⟩,
  ⟨(some 33), .call 39 [(.t 31), (.k (.s (.i .i64 1088))), (.t 32)], none⟩,
  ⟨(some 3), .mv (.t 33), none⟩])
  (.seq (.reg [⟨(some 35), .mv (.t 1), none⟩,
  ⟨(some 36), .call 26 [(.t 35), (.k (.s (.i .i64 1104))), (.k (.s (.i .i64 2)))], none⟩,
  ⟨(some 34), .mv (.t 36), none⟩,
  ⟨(some 37), .ext (.t 34) 0, none⟩,
  ⟨(some 38), .ext (.t 34) 1, none⟩,
  ⟨(some 4), .mv (.t 37), none⟩,
  ⟨(some 5), .mv (.t 38), none⟩])
  (.seq (.reg [⟨(some 39), .mv (.t 1), none⟩,
  ⟨(some 40), .build [.i .i64 0, .i .i64 0, .i .i64 0] [(0, 1, (.k (.s (.i .i64 2)))), (1, 1, (.k (.s (.i .i64 1088)))), (2, 1, (.k (.s (.i .i64 1152))))], none⟩,
  ⟨(some 41), .call 42 [(.t 39), (.k (.s (.i .i64 1024))), (.t 40)], none⟩,
  ⟨(some 6), .mv (.t 41), none⟩])
  (.seq (.reg [⟨(some 43), .mv (.t 1), none⟩,
  ⟨(some 44), .call 26 [(.t 43), (.k (.s (.i .i64 1024))), (.k (.s (.i .i64 1)))], none⟩,
  ⟨(some 42), .mv (.t 44), none⟩,
  ⟨(some 45), .ext (.t 42) 0, none⟩,
  ⟨(some 46), .ext (.t 42) 1, none⟩,
  ⟨(some 7), .mv (.t 45), none⟩,
  ⟨(some 8), .mv (.t 46), none⟩])
  (.seq (.reg [⟨(some 47), .mv (.t 1), none⟩,
  ⟨(some 48), .build [.i .i64 0, .i .i64 0, .i .i64 0, .i .i64 0, .i .i64 0] [(0, 1, (.k (.s (.i .i64 2)))), (3, 1, (.k (.s (.i .i64 5)))), (4, 1, (.k (.s (.i .i64 1088))))], none⟩,
  ⟨(some 49), .call 43 [(.t 47), (.k (.s (.i .i64 1032))), (.t 48)], none⟩,
  ⟨(some 9), .mv (.t 49), none⟩])
  (.seq (.reg [⟨(some 51), .mv (.t 1), none⟩,
  ⟨(some 52), .call 26 [(.t 51), (.k (.s (.i .i64 1032))), (.k (.s (.i .i64 2)))], none⟩,
  ⟨(some 50), .mv (.t 52), none⟩,
  ⟨(some 53), .ext (.t 50) 0, none⟩,
  ⟨(some 54), .ext (.t 50) 1, none⟩,
  ⟨(some 10), .mv (.t 53), none⟩,
  ⟨(some 11), .mv (.t 54), none⟩])
  (.seq (.reg [⟨(some 55), .mv (.t 1), none⟩,
  ⟨(some 56), .call 45 [(.t 55), (.k (.s (.i .i64 1040))), (.k (.s (.i .i64 3))), (.k (.s (.i .i64 2048)))], none⟩,
  ⟨(some 12), .mv (.t 56), none⟩])
  (.seq (.reg [⟨(some 58), .mv (.t 1), none⟩,
  ⟨(some 59), .call 37 [(.t 58), (.k (.s (.i .i64 1040))), (.k (.s (.i .i64 3)))], none⟩,
  ⟨(some 57), .mv (.t 59), none⟩,
  ⟨(some 60), .ext (.t 57) 0, none⟩,
  ⟨(some 61), .ext (.t 57) 1, none⟩,
  ⟨(some 13), .mv (.t 60), none⟩,
  ⟨(some 14), .mv (.t 61), none⟩])
  (.seq (.reg [⟨(some 63), .mv (.t 1), none⟩,
  ⟨(some 64), .call 33 [(.t 63), (.k (.s (.i .i64 1056)))], none⟩,
  ⟨(some 62), .mv (.t 64), none⟩,
  ⟨(some 65), .ext (.t 62) 0, none⟩,
  ⟨(some 66), .ext (.t 62) 1, none⟩,
  ⟨(some 15), .new [.i .i64 0, .i .i64 0, .i .i64 0, .b false, .i .i64 0, .i .i64 0, .i .i64 0, .i .i64 0, .b false, .b false, .i .i64 0, .i .i64 0, .i .i64 0, .i .i64 0, .i .u64 0, .i .u64 0, .i .u64 0, .i .u64 0, .i .u64 0, .i .u64 0, .i .u64 0, .i .u64 0, .i .u64 0, .i .u64 0, .i .u64 0, .i .u64 0, .i .u64 0, .i .u64 0, .i .u64 0, .i .u64 0], none⟩,
  ⟨none, .st (.t 15) (.t 65) 30, none⟩,
  ⟨(some 16), .mv (.t 66), none⟩])
  (.seq (.reg [⟨(some 67), .mv (.t 1), none⟩,
  ⟨(some 68), .build [.b false, .b false, .i .i64 0, .i .i64 0] [], none⟩,
  ⟨(some 69), .call 44 [(.t 67), (.k (.s (.i .i64 1048))), (.k (.s (.i .i64 8))), (.t 68)], none⟩,
  ⟨(some 17), .mv (.t 69), none⟩])
  (.seq (.reg [⟨(some 70), .mv (.t 4), none⟩,
  ⟨(some 71), .bsl 2 [.i .u64 0, .i .u64 0] [(0, 1, (.k (.s (.i .u64 28665)))), (1, 1, (.k (.s (.i .u64 576465150349934592))))], none⟩,
  ⟨(some 72), .call 27 [(.t 70), (.t 71)], none⟩,
  ⟨(some 18), .mv (.t 72), none⟩])
  (.seq (.reg [⟨(some 73), .mv (.t 7), none⟩,
  ⟨(some 74), .bsl 1 [.i .u64 0] [(0, 1, (.k (.s (.i .u64 301994242))))], none⟩,
  ⟨(some 75), .call 27 [(.t 73), (.t 74)], none⟩,
  ⟨(some 19), .mv (.t 75), none⟩])
  (.seq (.reg [⟨(some 76), .mv (.t 10), none⟩,
  ⟨(some 77), .bsl 2 [.i .u64 0, .i .u64 0] [(0, 1, (.k (.s (.i .u64 2)))), (1, 1, (.k (.s (.i .u64 292057776133))))], none⟩,
  ⟨(some 78), .call 27 [(.t 76), (.t 77)], none⟩,
  ⟨(some 20), .mv (.t 78), none⟩])
  (.seq (.reg [⟨(some 79), .mv (.t 3), none⟩,
  ⟨(some 80), .bin .eql (.t 79) (.k (.s (.i .i64 0))), none⟩,
  ⟨(some 81), .mv (.t 80), none⟩,
  ⟨(some 82), .mv (.t 18), (some (81, true))⟩,
  ⟨(some 83), .pick (.t 81) (.t 82) (.k (.s (.b false))), none⟩,
  ⟨(some 84), .mv (.t 83), none⟩,
  ⟨(some 85), .mv (.t 6), (some (84, true))⟩,
  ⟨(some 86), .bin .eql (.t 85) (.k (.s (.i .i64 0))), (some (84, true))⟩,
  ⟨(some 87), .pick (.t 84) (.t 86) (.k (.s (.b false))), none⟩,
  ⟨(some 88), .mv (.t 87), none⟩,
  ⟨(some 89), .mv (.t 19), (some (88, true))⟩,
  ⟨(some 90), .pick (.t 88) (.t 89) (.k (.s (.b false))), none⟩,
  ⟨(some 91), .mv (.t 90), none⟩,
  ⟨(some 92), .mv (.t 9), (some (91, true))⟩,
  ⟨(some 93), .bin .eql (.t 92) (.k (.s (.i .i64 0))), (some (91, true))⟩,
  ⟨(some 94), .pick (.t 91) (.t 93) (.k (.s (.b false))), none⟩,
  ⟨(some 95), .mv (.t 94), none⟩,
  ⟨(some 96), .mv (.t 20), (some (95, true))⟩,
  ⟨(some 97), .pick (.t 95) (.t 96) (.k (.s (.b false))), none⟩,
  ⟨(some 98), .mv (.t 97), none⟩,
  ⟨(some 99), .mv (.t 12), (some (98, true))⟩,
  ⟨(some 100), .bin .eql (.t 99) (.k (.s (.i .i64 0))), (some (98, true))⟩,
  ⟨(some 101), .pick (.t 98) (.t 100) (.k (.s (.b false))), none⟩,
  ⟨(some 102), .mv (.t 101), none⟩,
  ⟨(some 103), .mv (.t 13), (some (102, true))⟩,
  ⟨(some 104), .bin .eql (.t 103) (.k (.s (.i .i64 2048))), (some (102, true))⟩,
  ⟨(some 105), .pick (.t 102) (.t 104) (.k (.s (.b false))), none⟩,
  ⟨(some 106), .mv (.t 105), none⟩,
  ⟨(some 107), .mv (.t 14), (some (106, true))⟩,
  ⟨(some 108), .bin .eql (.t 107) (.k (.s (.i .i64 0))), (some (106, true))⟩,
  ⟨(some 109), .pick (.t 106) (.t 108) (.k (.s (.b false))), none⟩,
  ⟨(some 110), .mv (.t 109), none⟩,
  ⟨(some 111), .mv (.t 16), (some (110, true))⟩,
  ⟨(some 112), .bin .eql (.t 111) (.k (.s (.i .i64 20))), (some (110, true))⟩,
  ⟨(some 113), .pick (.t 110) (.t 112) (.k (.s (.b false))), none⟩,
  ⟨(some 114), .mv (.t 113), none⟩,
  ⟨(some 115), .mv (.t 17), (some (114, true))⟩,
  ⟨(some 116), .bin .eql (.t 115) (.k (.s (.i .i64 1))), (some (114, true))⟩,
  ⟨(some 117), .pick (.t 114) (.t 116) (.k (.s (.b false))), none⟩,
  ⟨(some 0), .mv (.t 117), none⟩])
  (.ret))))))))))))))))), [.t 0]⟩
theorem dc28 : compF Try.prog Try.f28 = some df28 := by kernel_rfl
theorem ok28 : FnOk Try.prog 28 := ⟨Try.f28, Try.func28, by kernel_rfl, by kernel_rfl⟩

/-- citadel/mem.New -/
def df29 : DF :=
  ⟨15, .seq (.reg [⟨(some 2), .mv (.k (.s (.np))), none⟩,
  ⟨(some 3), .mv (.k (.s (.i .i64 0))), none⟩])
  (.seq (.seq (.reg [⟨(some 4), .mv (.t 0), none⟩,
  ⟨(some 5), .bin .lss (.t 4) (.k (.s (.i .i64 11))), none⟩,
  ⟨(some 6), .mv (.t 5), none⟩,
  ⟨(some 7), .mv (.t 0), (some (6, false))⟩,
  ⟨(some 8), .bin .gtr (.t 7) (.k (.s (.i .i64 16))), (some (6, false))⟩,
  ⟨(some 9), .pick (.t 6) (.k (.s (.b true))) (.t 8), none⟩])
  (.cond (.t 9)
  (.seq (.reg [⟨(some 2), .mv (.k (.s (.np))), none⟩,
  ⟨(some 3), .mv (.k (.s (.i .i64 1))), none⟩])
  (.ret))
  (.skip)))
  (.seq (.reg [⟨(some 10), .mv (.t 0), none⟩,
  ⟨(some 11), .bin .shl (.k (.s (.i .i64 1))) (.t 10), none⟩,
  ⟨(some 12), .mks 1 8 [.i .u64 0] (.t 11) (.t 11), none⟩,
  ⟨(some 13), .build [.ns, .i .i64 0] [(0, 1, (.t 12))], none⟩,
  ⟨(some 14), .box (.t 13), none⟩,
  ⟨(some 2), .mv (.t 14), none⟩,
  ⟨(some 3), .mv (.k (.s (.i .i64 0))), none⟩])
  (.ret))), [.t 2, .t 3]⟩
theorem dc29 : compF Try.prog Try.f29 = some df29 := by kernel_rfl
theorem ok29 : FnOk Try.prog 29 := ⟨Try.f29, Try.func29, by kernel_rfl, by kernel_rfl⟩

/-- citadel/objs.Thread -/
def df33 : DF :=
  ⟨152, .seq (.reg [⟨(some 4), .new [.i .i64 0, .i .i64 0, .i .i64 0, .b false, .i .i64 0, .i .i64 0, .i .i64 0, .i .i64 0, .b false, .b false, .i .i64 0, .i .i64 0, .i .i64 0, .i .i64 0, .i .u64 0, .i .u64 0, .i .u64 0, .i .u64 0, .i .u64 0, .i .u64 0, .i .u64 0, .i .u64 0, .i .u64 0, .i .u64 0, .i .u64 0, .i .u64 0, .i .u64 0, .i .u64 0, .i .u64 0, .i .u64 0], none⟩,
  ⟨(some 5), .mv (.k (.s (.i .i64 0))), none⟩])
  (.seq (.seq (.reg [⟨(some 18), .mv (.t 0), none⟩,
  ⟨(some 19), .mv (.t 1), none⟩,
  ⟨(some 20), .call 69 [(.t 18), (.t 19), (.k (.s (.i .i64 64)))], none⟩,
  ⟨(some 21), .un .not (.t 20), none⟩])
  (.cond (.t 21)
  (.seq (.reg [⟨(some 22), .build [.i .i64 0, .i .i64 0, .i .i64 0, .b false, .i .i64 0, .i .i64 0, .i .i64 0, .i .i64 0, .b false, .b false, .i .i64 0, .i .i64 0, .i .i64 0, .i .i64 0, .i .u64 0, .i .u64 0, .i .u64 0, .i .u64 0, .i .u64 0, .i .u64 0, .i .u64 0, .i .u64 0, .i .u64 0, .i .u64 0, .i .u64 0, .i .u64 0, .i .u64 0, .i .u64 0, .i .u64 0, .i .u64 0] [], none⟩,
  ⟨none, .st (.t 4) (.t 22) 30, none⟩,
  ⟨(some 5), .mv (.k (.s (.i .i64 20))), none⟩])
  (.ret))
  (.skip)))
  (.seq (.reg [⟨(some 6), .new [.i .u64 0, .i .u64 0, .i .u64 0, .i .u64 0], none⟩])
  (.seq (.seq (.reg [⟨(some 23), .mv (.k (.s (.i .i64 0))), none⟩])
  (.block 0 (.loop (.seq (.reg [⟨(some 24), .bin .lss (.t 23) (.k (.s (.i .i64 4))), none⟩])
  (.seq (.cond (.t 24)
  (.skip)
  (.exit 0))
  (.seq (.block 1 (.seq (.reg [⟨(some 25), .mv (.t 23), none⟩,
  ⟨(some 7), .mv (.t 25), none⟩])
  (.reg [⟨(some 27), .mv (.t 7), none⟩,
  ⟨(some 28), .mv (.t 0), none⟩,
  ⟨(some 29), .mv (.t 1), none⟩,
  ⟨(some 30), .bin .add (.t 29) (.k (.s (.i .i64 16))), none⟩,
  ⟨(some 31), .mv (.t 7), none⟩,
  ⟨(some 32), .bin .add (.t 30) (.t 31), none⟩,
  ⟨(some 33), .call 70 [(.t 28), (.t 32)], none⟩,
  ⟨(some 26), .mv (.t 33), none⟩,
  ⟨(some 34), .ext (.t 26) 0, none⟩,
  ⟨(some 35), .ext (.t 26) 1, none⟩,
  ⟨(some 36), .ia (some 4) 1 (.t 6) (.t 27), none⟩,
  ⟨none, .st (.t 36) (.t 34) 1, none⟩])))
  (.reg [⟨(some 37), .bin .add (.t 23) (.k (.s (.i .i64 1))), none⟩,
  ⟨(some 23), .mv (.t 37), none⟩])))))))
  (.seq (.reg [⟨(some 39), .ia (some 4) 1 (.t 6) (.k (.s (.i .i64 0))), none⟩,
  ⟨(some 40), .ld (.t 39) none, none⟩,
  ⟨(some 41), .bsl 7 [.i .i64 0, .i .i64 0, .i .i64 0, .i .i64 0, .i .i64 0, .i .i64 0, .i .i64 0] [(0, 1, (.k (.s (.i .i64 3)))), (1, 1, (.k (.s (.i .i64 8)))), (2, 1, (.k (.s (.i .i64 3)))), (3, 1, (.k (.s (.i .i64 1)))), (4, 1, (.k (.s (.i .i64 1)))), (5, 1, (.k (.s (.i .i64 1)))), (6, 1, (.k (.s (.i .i64 2))))], none⟩,
  ⟨(some 42), .call 71 [(.t 40), (.t 41)], none⟩,
  ⟨(some 38), .mv (.t 42), none⟩,
  ⟨(some 43), .ext (.t 38) 0, none⟩,
  ⟨(some 44), .ext (.t 38) 1, none⟩,
  ⟨(some 8), .mv (.t 43), none⟩,
  ⟨(some 9), .mv (.t 44), none⟩])
  (.seq (.reg [⟨(some 46), .ia (some 4) 1 (.t 6) (.k (.s (.i .i64 1))), none⟩,
  ⟨(some 47), .ld (.t 46) none, none⟩,
  ⟨(some 48), .bsl 4 [.i .i64 0, .i .i64 0, .i .i64 0, .i .i64 0] [(0, 1, (.k (.s (.i .i64 16)))), (1, 1, (.k (.s (.i .i64 16)))), (2, 1, (.k (.s (.i .i64 16)))), (3, 1, (.k (.s (.i .i64 16))))], none⟩,
  ⟨(some 49), .call 71 [(.t 47), (.t 48)], none⟩,
  ⟨(some 45), .mv (.t 49), none⟩,
  ⟨(some 50), .ext (.t 45) 0, none⟩,
  ⟨(some 51), .ext (.t 45) 1, none⟩,
  ⟨(some 10), .mv (.t 50), none⟩,
  ⟨(some 11), .mv (.t 51), none⟩])
  (.seq (.reg [⟨(some 53), .ia (some 4) 1 (.t 6) (.k (.s (.i .i64 2))), none⟩,
  ⟨(some 54), .ld (.t 53) none, none⟩,
  ⟨(some 55), .bsl 1 [.i .i64 0] [(0, 1, (.k (.s (.i .i64 28))))], none⟩,
  ⟨(some 56), .call 71 [(.t 54), (.t 55)], none⟩,
  ⟨(some 52), .mv (.t 56), none⟩,
  ⟨(some 57), .ext (.t 52) 0, none⟩,
  ⟨(some 58), .ext (.t 52) 1, none⟩,
  ⟨(some 12), .mv (.t 57), none⟩,
  ⟨(some 13), .mv (.t 58), none⟩])
  (.seq (.reg [⟨(some 60), .ia (some 4) 1 (.t 6) (.k (.s (.i .i64 3))), none⟩,
  ⟨(some 61), .ld (.t 60) none, none⟩,
  ⟨(some 62), .bsl 2 [.i .i64 0, .i .i64 0] [(0, 1, (.k (.s (.i .i64 32)))), (1, 1, (.k (.s (.i .i64 32))))], none⟩,
  ⟨(some 63), .call 71 [(.t 61), (.t 62)], none⟩,
  ⟨(some 59), .mv (.t 63), none⟩,
  ⟨(some 64), .ext (.t 59) 0, none⟩,
  ⟨(some 65), .ext (.t 59) 1, none⟩,
  ⟨(some 14), .mv (.t 64), none⟩,
  ⟨(some 15), .mv (.t 65), none⟩])
  (.seq (.seq (.reg [⟨(some 66), .mv (.t 9), none⟩,
  ⟨(some 67), .un .not (.t 66), none⟩,
  ⟨(some 68), .mv (.t 67), none⟩,
  ⟨(some 69), .mv (.t 11), (some (68, false))⟩,
  ⟨(some 70), .un .not (.t 69), (some (68, false))⟩,
  ⟨(some 71), .pick (.t 68) (.k (.s (.b true))) (.t 70), none⟩,
  ⟨(some 72), .mv (.t 71), none⟩,
  ⟨(some 73), .mv (.t 13), (some (72, false))⟩,
  ⟨(some 74), .un .not (.t 73), (some (72, false))⟩,
  ⟨(some 75), .pick (.t 72) (.k (.s (.b true))) (.t 74), none⟩,
  ⟨(some 76), .mv (.t 75), none⟩,
  ⟨(some 77), .mv (.t 8), (some (76, false))⟩,
  ⟨(some 78), .ia none 1 (.t 77) (.k (.s (.i .i64 0))), (some (76, false))⟩,
  ⟨(some 79), .ld (.t 78) none, (some (76, false))⟩,
  ⟨(some 80), .bin .gtr (.t 79) (.k (.s (.i .i64 5))), (some (76, false))⟩,
  ⟨(some 81), .pick (.t 76) (.k (.s (.b true))) (.t 80), none⟩,
  ⟨(some 82), .mv (.t 81), none⟩,
  ⟨(some 83), .mv (.t 8), (some (82, false))⟩,
  ⟨(some 84), .ia none 1 (.t 83) (.k (.s (.i .i64 2))), (some (82, false))⟩,
  ⟨(some 85), .ld (.t 84) none, (some (82, false))⟩,
  ⟨(some 86), .bin .gtr (.t 85) (.k (.s (.i .i64 5))), (some (82, false))⟩,
  ⟨(some 87), .pick (.t 82) (.k (.s (.b true))) (.t 86), none⟩])
  (.cond (.t 87)
  (.seq (.reg [⟨(some 88), .build [.i .i64 0, .i .i64 0, .i .i64 0, .b false, .i .i64 0, .i .i64 0, .i .i64 0, .i .i64 0, .b false, .b false, .i .i64 0, .i .i64 0, .i .i64 0, .i .i64 0, .i .u64 0, .i .u64 0, .i .u64 0, .i .u64 0, .i .u64 0, .i .u64 0, .i .u64 0, .i .u64 0, .i .u64 0, .i .u64 0, .i .u64 0, .i .u64 0, .i .u64 0, .i .u64 0, .i .u64 0, .i .u64 0] [], none⟩,
  ⟨none, .st (.t 4) (.t 88) 30, none⟩,
  ⟨(some 5), .mv (.k (.s (.i .i64 90))), none⟩])
  (.ret))
  (.skip)))
  (.seq (.drm [(true, ⟨(some 89), .mv (.t 8), none⟩),
  (true, ⟨(some 90), .ia none 1 (.t 89) (.k (.s (.i .i64 0))), none⟩),
  (true, ⟨(some 91), .ld (.t 90) none, none⟩),
  (true, ⟨(some 92), .mv (.t 8), none⟩),
  (true, ⟨(some 93), .ia none 1 (.t 92) (.k (.s (.i .i64 1))), none⟩),
  (true, ⟨(some 94), .ld (.t 93) none, none⟩),
  (true, ⟨(some 95), .mv (.t 8), none⟩),
  (true, ⟨(some 96), .ia none 1 (.t 95) (.k (.s (.i .i64 2))), none⟩),
  (true, ⟨(some 97), .ld (.t 96) none, none⟩),
  (true, ⟨(some 98), .mv (.t 8), none⟩),
  (true, ⟨(some 99), .ia none 1 (.t 98) (.k (.s (.i .i64 3))), none⟩),
  (true, ⟨(some 100), .ld (.t 99) none, none⟩),
  (true, ⟨(some 101), .bin .eql (.t 100) (.k (.s (.i .i64 1))), none⟩),
  (true, ⟨(some 102), .mv (.t 8), none⟩),
  (true, ⟨(some 103), .ia none 1 (.t 102) (.k (.s (.i .i64 4))), none⟩),
  (true, ⟨(some 104), .ld (.t 103) none, none⟩),
  (true, ⟨(some 105), .bin .eql (.t 104) (.k (.s (.i .i64 1))), none⟩),
  (true, ⟨(some 106), .mv (.t 8), none⟩),
  (true, ⟨(some 107), .ia none 1 (.t 106) (.k (.s (.i .i64 5))), none⟩),
  (true, ⟨(some 108), .ld (.t 107) none, none⟩),
  (true, ⟨(some 109), .bin .eql (.t 108) (.k (.s (.i .i64 1))), none⟩),
  (true, ⟨(some 110), .mv (.t 8), none⟩),
  (true, ⟨(some 111), .ia none 1 (.t 110) (.k (.s (.i .i64 6))), none⟩),
  (true, ⟨(some 112), .ld (.t 111) none, none⟩),
  (true, ⟨(some 113), .mv (.t 10), none⟩),
  (true, ⟨(some 114), .ia none 1 (.t 113) (.k (.s (.i .i64 0))), none⟩),
  (true, ⟨(some 115), .ld (.t 114) none, none⟩),
  (true, ⟨(some 116), .mv (.t 10), none⟩),
  (true, ⟨(some 117), .ia none 1 (.t 116) (.k (.s (.i .i64 1))), none⟩),
  (true, ⟨(some 118), .ld (.t 117) none, none⟩),
  (true, ⟨(some 119), .mv (.t 10), none⟩),
  (true, ⟨(some 120), .ia none 1 (.t 119) (.k (.s (.i .i64 2))), none⟩),
  (true, ⟨(some 121), .ld (.t 120) none, none⟩),
  (true, ⟨(some 122), .mv (.t 10), none⟩),
  (true, ⟨(some 123), .ia none 1 (.t 122) (.k (.s (.i .i64 3))), none⟩),
  (true, ⟨(some 124), .ld (.t 123) none, none⟩),
  (true, ⟨(some 125), .mv (.t 12), none⟩),
  (true, ⟨(some 126), .ia none 1 (.t 125) (.k (.s (.i .i64 0))), none⟩),
  (true, ⟨(some 127), .ld (.t 126) none, none⟩),
  (true, ⟨(some 128), .mv (.t 14), none⟩),
  (true, ⟨(some 129), .ia none 1 (.t 128) (.k (.s (.i .i64 0))), none⟩),
  (true, ⟨(some 130), .ld (.t 129) none, none⟩),
  (true, ⟨(some 131), .mv (.t 14), none⟩),
  (true, ⟨(some 132), .ia none 1 (.t 131) (.k (.s (.i .i64 1))), none⟩),
  (true, ⟨(some 133), .ld (.t 132) none, none⟩),
  (true, ⟨(some 134), .build [.i .i64 0, .i .i64 0, .i .i64 0, .b false, .i .i64 0, .i .i64 0, .i .i64 0, .i .i64 0, .b false, .b false, .i .i64 0, .i .i64 0, .i .i64 0, .i .i64 0, .i .u64 0, .i .u64 0, .i .u64 0, .i .u64 0, .i .u64 0, .i .u64 0, .i .u64 0, .i .u64 0, .i .u64 0, .i .u64 0, .i .u64 0, .i .u64 0, .i .u64 0, .i .u64 0, .i .u64 0, .i .u64 0] [(0, 1, (.t 91)), (1, 1, (.t 94)), (2, 1, (.t 97)), (3, 1, (.t 101)), (8, 1, (.t 105)), (9, 1, (.t 109)), (12, 1, (.t 112)), (4, 1, (.t 115)), (5, 1, (.t 118)), (6, 1, (.t 121)), (10, 1, (.t 124)), (7, 1, (.t 127)), (11, 1, (.t 130)), (13, 1, (.t 133))], none⟩),
  (false, ⟨(some 16), .new [.i .i64 0, .i .i64 0, .i .i64 0, .b false, .i .i64 0, .i .i64 0, .i .i64 0, .i .i64 0, .b false, .b false, .i .i64 0, .i .i64 0, .i .i64 0, .i .i64 0, .i .u64 0, .i .u64 0, .i .u64 0, .i .u64 0, .i .u64 0, .i .u64 0, .i .u64 0, .i .u64 0, .i .u64 0, .i .u64 0, .i .u64 0, .i .u64 0, .i .u64 0, .i .u64 0, .i .u64 0, .i .u64 0], none⟩),
  (false, ⟨none, .st (.t 16) (.t 134) 30, none⟩)])
  (.seq (.seq (.reg [⟨(some 135), .mv (.k (.s (.i .i64 0))), none⟩])
  (.block 2 (.loop (.seq (.reg [⟨(some 136), .bin .lss (.t 135) (.k (.s (.i .i64 16))), none⟩])
  (.seq (.cond (.t 136)
  (.skip)
  (.exit 2))
  (.seq (.block 3 (.seq (.reg [⟨(some 137), .mv (.t 135), none⟩,
  ⟨(some 17), .mv (.t 137), none⟩])
  (.reg [⟨(some 139), .mv (.t 17), none⟩,
  ⟨(some 140), .mv (.t 0), none⟩,
  ⟨(some 141), .mv (.t 1), none⟩,
  ⟨(some 142), .bin .add (.t 141) (.k (.s (.i .i64 32))), none⟩,
  ⟨(some 143), .mv (.t 17), none⟩,
  ⟨(some 144), .bin .add (.t 142) (.t 143), none⟩,
  ⟨(some 145), .call 70 [(.t 140), (.t 144)], none⟩,
  ⟨(some 138), .mv (.t 145), none⟩,
  ⟨(some 146), .ext (.t 138) 0, none⟩,
  ⟨(some 147), .ext (.t 138) 1, none⟩,
  ⟨(some 148), .fa (.t 16) 14, none⟩,
  ⟨(some 149), .ia (some 16) 1 (.t 148) (.t 139), none⟩,
  ⟨none, .st (.t 149) (.t 146) 1, none⟩])))
  (.reg [⟨(some 150), .bin .add (.t 135) (.k (.s (.i .i64 1))), none⟩,
  ⟨(some 135), .mv (.t 150), none⟩])))))))
  (.seq (.reg [⟨(some 151), .ld (.t 16) (some 30), none⟩,
  ⟨none, .st (.t 4) (.t 151) 30, none⟩,
  ⟨(some 5), .mv (.k (.s (.i .i64 0))), none⟩])
  (.ret)))))))))))), [.c 4 (some 30), .t 5]⟩
theorem dc33 : compF Try.prog Try.f33 = some df33 := by kernel_rfl
theorem ok33 : FnOk Try.prog 33 := ⟨Try.f33, Try.func33, by kernel_rfl, by kernel_rfl⟩

/-- citadel/objs.Queue -/
def df34 : DF :=
  ⟨45, .seq (.reg [⟨(some 4), .new [.i .i64 0, .i .i64 0, .i .i64 0], none⟩,
  ⟨(some 5), .mv (.k (.s (.i .i64 0))), none⟩])
  (.seq (.seq (.reg [⟨(some 11), .mv (.t 0), none⟩,
  ⟨(some 12), .mv (.t 1), none⟩,
  ⟨(some 13), .call 69 [(.t 11), (.t 12), (.k (.s (.i .i64 4)))], none⟩,
  ⟨(some 14), .un .not (.t 13), none⟩])
  (.cond (.t 14)
  (.seq (.reg [⟨(some 15), .build [.i .i64 0, .i .i64 0, .i .i64 0] [], none⟩,
  ⟨none, .st (.t 4) (.t 15) 3, none⟩,
  ⟨(some 5), .mv (.k (.s (.i .i64 20))), none⟩])
  (.ret))
  (.skip)))
  (.seq (.reg [⟨(some 17), .mv (.t 0), none⟩,
  ⟨(some 18), .mv (.t 1), none⟩,
  ⟨(some 19), .call 70 [(.t 17), (.t 18)], none⟩,
  ⟨(some 16), .mv (.t 19), none⟩,
  ⟨(some 20), .ext (.t 16) 0, none⟩,
  ⟨(some 21), .ext (.t 16) 1, none⟩,
  ⟨(some 6), .mv (.t 20), none⟩,
  ⟨(some 7), .mv (.t 21), none⟩])
  (.seq (.reg [⟨(some 23), .mv (.t 6), none⟩,
  ⟨(some 24), .bsl 3 [.i .i64 0, .i .i64 0, .i .i64 0] [(0, 1, (.k (.s (.i .i64 2)))), (1, 1, (.k (.s (.i .i64 16)))), (2, 1, (.k (.s (.i .i64 16))))], none⟩,
  ⟨(some 25), .call 71 [(.t 23), (.t 24)], none⟩,
  ⟨(some 22), .mv (.t 25), none⟩,
  ⟨(some 26), .ext (.t 22) 0, none⟩,
  ⟨(some 27), .ext (.t 22) 1, none⟩,
  ⟨(some 8), .mv (.t 26), none⟩,
  ⟨(some 9), .mv (.t 27), none⟩])
  (.seq (.seq (.drm [(true, ⟨(some 28), .mv (.t 8), none⟩),
  (true, ⟨(some 29), .ia none 1 (.t 28) (.k (.s (.i .i64 0))), none⟩),
  (true, ⟨(some 30), .ld (.t 29) none, none⟩),
  (true, ⟨(some 31), .mv (.t 8), none⟩),
  (true, ⟨(some 32), .ia none 1 (.t 31) (.k (.s (.i .i64 1))), none⟩),
  (true, ⟨(some 33), .ld (.t 32) none, none⟩),
  (true, ⟨(some 34), .mv (.t 8), none⟩),
  (true, ⟨(some 35), .ia none 1 (.t 34) (.k (.s (.i .i64 2))), none⟩),
  (true, ⟨(some 36), .ld (.t 35) none, none⟩),
  (true, ⟨(some 37), .build [.i .i64 0, .i .i64 0, .i .i64 0] [(0, 1, (.t 30)), (1, 1, (.t 33)), (2, 1, (.t 36))], none⟩),
  (false, ⟨(some 10), .new [.i .i64 0, .i .i64 0, .i .i64 0], none⟩),
  (false, ⟨none, .st (.t 10) (.t 37) 3, none⟩)])
  (.seq (.reg [⟨(some 38), .mv (.t 9), none⟩,
  ⟨(some 39), .mv (.t 38), none⟩,
  ⟨(some 40), .ld (.t 10) (some 3), (some (39, true))⟩,
  ⟨(some 41), .call 72 [(.t 40)], (some (39, true))⟩,
  ⟨(some 42), .pick (.t 39) (.t 41) (.k (.s (.b false))), none⟩])
  (.cond (.t 42)
  (.seq (.reg [⟨(some 43), .ld (.t 10) (some 3), none⟩,
  ⟨none, .st (.t 4) (.t 43) 3, none⟩,
  ⟨(some 5), .mv (.k (.s (.i .i64 0))), none⟩])
  (.ret))
  (.skip))))
  (.seq (.reg [⟨(some 44), .build [.i .i64 0, .i .i64 0, .i .i64 0] [], none⟩,
  ⟨none, .st (.t 4) (.t 44) 3, none⟩,
  ⟨(some 5), .mv (.k (.s (.i .i64 90))), none⟩])
  (.ret)))))), [.c 4 (some 3), .t 5]⟩
theorem dc34 : compF Try.prog Try.f34 = some df34 := by kernel_rfl
theorem ok34 : FnOk Try.prog 34 := ⟨Try.f34, Try.func34, by kernel_rfl, by kernel_rfl⟩

/-- citadel/objs.Signal -/
def df35 : DF :=
  ⟨71, .seq (.reg [⟨(some 4), .new [.i .i64 0, .i .i64 0, .i .i64 0, .i .i64 0, .i .i64 0], none⟩,
  ⟨(some 5), .mv (.k (.s (.i .i64 0))), none⟩])
  (.seq (.seq (.reg [⟨(some 15), .mv (.t 0), none⟩,
  ⟨(some 16), .mv (.t 1), none⟩,
  ⟨(some 17), .call 69 [(.t 15), (.t 16), (.k (.s (.i .i64 8)))], none⟩,
  ⟨(some 18), .un .not (.t 17), none⟩])
  (.cond (.t 18)
  (.seq (.reg [⟨(some 19), .build [.i .i64 0, .i .i64 0, .i .i64 0, .i .i64 0, .i .i64 0] [], none⟩,
  ⟨none, .st (.t 4) (.t 19) 5, none⟩,
  ⟨(some 5), .mv (.k (.s (.i .i64 20))), none⟩])
  (.ret))
  (.skip)))
  (.seq (.reg [⟨(some 21), .mv (.t 0), none⟩,
  ⟨(some 22), .mv (.t 1), none⟩,
  ⟨(some 23), .call 70 [(.t 21), (.t 22)], none⟩,
  ⟨(some 20), .mv (.t 23), none⟩,
  ⟨(some 24), .ext (.t 20) 0, none⟩,
  ⟨(some 25), .ext (.t 20) 1, none⟩,
  ⟨(some 6), .mv (.t 24), none⟩,
  ⟨(some 7), .mv (.t 25), none⟩])
  (.seq (.reg [⟨(some 27), .mv (.t 0), none⟩,
  ⟨(some 28), .mv (.t 1), none⟩,
  ⟨(some 29), .bin .add (.t 28) (.k (.s (.i .i64 1))), none⟩,
  ⟨(some 30), .call 70 [(.t 27), (.t 29)], none⟩,
  ⟨(some 26), .mv (.t 30), none⟩,
  ⟨(some 31), .ext (.t 26) 0, none⟩,
  ⟨(some 32), .ext (.t 26) 1, none⟩,
  ⟨(some 8), .mv (.t 31), none⟩,
  ⟨(some 9), .mv (.t 32), none⟩])
  (.seq (.reg [⟨(some 34), .mv (.t 6), none⟩,
  ⟨(some 35), .bsl 3 [.i .i64 0, .i .i64 0, .i .i64 0] [(0, 1, (.k (.s (.i .i64 2)))), (1, 1, (.k (.s (.i .i64 16)))), (2, 1, (.k (.s (.i .i64 16))))], none⟩,
  ⟨(some 36), .call 71 [(.t 34), (.t 35)], none⟩,
  ⟨(some 33), .mv (.t 36), none⟩,
  ⟨(some 37), .ext (.t 33) 0, none⟩,
  ⟨(some 38), .ext (.t 33) 1, none⟩,
  ⟨(some 10), .mv (.t 37), none⟩,
  ⟨(some 11), .mv (.t 38), none⟩])
  (.seq (.reg [⟨(some 40), .mv (.t 8), none⟩,
  ⟨(some 41), .bsl 2 [.i .i64 0, .i .i64 0] [(0, 1, (.k (.s (.i .i64 28)))), (1, 1, (.k (.s (.i .i64 16))))], none⟩,
  ⟨(some 42), .call 71 [(.t 40), (.t 41)], none⟩,
  ⟨(some 39), .mv (.t 42), none⟩,
  ⟨(some 43), .ext (.t 39) 0, none⟩,
  ⟨(some 44), .ext (.t 39) 1, none⟩,
  ⟨(some 12), .mv (.t 43), none⟩,
  ⟨(some 13), .mv (.t 44), none⟩])
  (.seq (.seq (.drm [(true, ⟨(some 45), .mv (.t 10), none⟩),
  (true, ⟨(some 46), .ia none 1 (.t 45) (.k (.s (.i .i64 0))), none⟩),
  (true, ⟨(some 47), .ld (.t 46) none, none⟩),
  (true, ⟨(some 48), .mv (.t 10), none⟩),
  (true, ⟨(some 49), .ia none 1 (.t 48) (.k (.s (.i .i64 1))), none⟩),
  (true, ⟨(some 50), .ld (.t 49) none, none⟩),
  (true, ⟨(some 51), .mv (.t 10), none⟩),
  (true, ⟨(some 52), .ia none 1 (.t 51) (.k (.s (.i .i64 2))), none⟩),
  (true, ⟨(some 53), .ld (.t 52) none, none⟩),
  (true, ⟨(some 54), .mv (.t 12), none⟩),
  (true, ⟨(some 55), .ia none 1 (.t 54) (.k (.s (.i .i64 0))), none⟩),
  (true, ⟨(some 56), .ld (.t 55) none, none⟩),
  (true, ⟨(some 57), .mv (.t 12), none⟩),
  (true, ⟨(some 58), .ia none 1 (.t 57) (.k (.s (.i .i64 1))), none⟩),
  (true, ⟨(some 59), .ld (.t 58) none, none⟩),
  (true, ⟨(some 60), .build [.i .i64 0, .i .i64 0, .i .i64 0, .i .i64 0, .i .i64 0] [(0, 1, (.t 47)), (1, 1, (.t 50)), (2, 1, (.t 53)), (3, 1, (.t 56)), (4, 1, (.t 59))], none⟩),
  (false, ⟨(some 14), .new [.i .i64 0, .i .i64 0, .i .i64 0, .i .i64 0, .i .i64 0], none⟩),
  (false, ⟨none, .st (.t 14) (.t 60) 5, none⟩)])
  (.seq (.reg [⟨(some 61), .mv (.t 11), none⟩,
  ⟨(some 62), .mv (.t 61), none⟩,
  ⟨(some 63), .mv (.t 13), (some (62, true))⟩,
  ⟨(some 64), .pick (.t 62) (.t 63) (.k (.s (.b false))), none⟩,
  ⟨(some 65), .mv (.t 64), none⟩,
  ⟨(some 66), .ld (.t 14) (some 5), (some (65, true))⟩,
  ⟨(some 67), .call 73 [(.t 66)], (some (65, true))⟩,
  ⟨(some 68), .pick (.t 65) (.t 67) (.k (.s (.b false))), none⟩])
  (.cond (.t 68)
  (.seq (.reg [⟨(some 69), .ld (.t 14) (some 5), none⟩,
  ⟨none, .st (.t 4) (.t 69) 5, none⟩,
  ⟨(some 5), .mv (.k (.s (.i .i64 0))), none⟩])
  (.ret))
  (.skip))))
  (.seq (.reg [⟨(some 70), .build [.i .i64 0, .i .i64 0, .i .i64 0, .i .i64 0, .i .i64 0] [], none⟩,
  ⟨none, .st (.t 4) (.t 70) 5, none⟩,
  ⟨(some 5), .mv (.k (.s (.i .i64 90))), none⟩])
  (.ret)))))))), [.c 4 (some 5), .t 5]⟩
theorem dc35 : compF Try.prog Try.f35 = some df35 := by kernel_rfl
theorem ok35 : FnOk Try.prog 35 := ⟨Try.f35, Try.func35, by kernel_rfl, by kernel_rfl⟩

/-- citadel/objs.Entry -/
def df36 : DF :=
  ⟨39, .seq (.reg [⟨(some 6), .new [.b false, .b false, .i .i64 0, .i .i64 0], none⟩,
  ⟨(some 7), .mv (.k (.s (.i .i64 0))), none⟩])
  (.seq (.reg [⟨(some 14), .mv (.t 0), none⟩,
  ⟨(some 15), .mv (.t 1), none⟩,
  ⟨(some 16), .mv (.t 2), none⟩,
  ⟨(some 17), .call 74 [(.t 14), (.t 15), (.t 16)], none⟩,
  ⟨(some 13), .mv (.t 17), none⟩,
  ⟨(some 18), .ext (.t 13) 0, none⟩,
  ⟨(some 19), .ext (.t 13) 1, none⟩,
  ⟨(some 8), .mv (.t 18), none⟩,
  ⟨(some 9), .mv (.t 19), none⟩])
  (.seq (.seq (.reg [⟨(some 20), .mv (.t 9), none⟩,
  ⟨(some 21), .bin .neq (.t 20) (.k (.s (.i .i64 0))), none⟩])
  (.cond (.t 21)
  (.seq (.reg [⟨(some 22), .build [.b false, .b false, .i .i64 0, .i .i64 0] [], none⟩,
  ⟨(some 23), .mv (.t 9), none⟩,
  ⟨none, .st (.t 6) (.t 22) 4, none⟩,
  ⟨(some 7), .mv (.t 23), none⟩])
  (.ret))
  (.skip)))
  (.seq (.reg [⟨(some 25), .mv (.t 0), none⟩,
  ⟨(some 26), .mv (.t 8), none⟩,
  ⟨(some 27), .call 70 [(.t 25), (.t 26)], none⟩,
  ⟨(some 24), .mv (.t 27), none⟩,
  ⟨(some 28), .ext (.t 24) 0, none⟩,
  ⟨(some 29), .ext (.t 24) 1, none⟩,
  ⟨(some 10), .mv (.t 28), none⟩,
  ⟨(some 11), .mv (.t 29), none⟩])
  (.seq (.reg [⟨(some 31), .mv (.t 10), none⟩,
  ⟨(some 32), .call 75 [(.t 31)], none⟩,
  ⟨(some 30), .mv (.t 32), none⟩,
  ⟨(some 33), .ext (.t 30) 0, none⟩,
  ⟨(some 34), .ext (.t 30) 1, none⟩,
  ⟨(some 12), .new [.b false, .b false, .i .i64 0, .i .i64 0], none⟩,
  ⟨none, .st (.t 12) (.t 33) 4, none⟩,
  ⟨(some 9), .mv (.t 34), none⟩])
  (.seq (.seq (.reg [⟨(some 35), .mv (.t 9), none⟩,
  ⟨(some 36), .bin .neq (.t 35) (.k (.s (.i .i64 0))), none⟩])
  (.cond (.t 36)
  (.seq (.reg [⟨(some 37), .build [.b false, .b false, .i .i64 0, .i .i64 0] [], none⟩,
  ⟨none, .st (.t 6) (.t 37) 4, none⟩,
  ⟨(some 7), .mv (.k (.s (.i .i64 90))), none⟩])
  (.ret))
  (.skip)))
  (.seq (.reg [⟨(some 38), .ld (.t 12) (some 4), none⟩,
  ⟨none, .st (.t 6) (.t 38) 4, none⟩,
  ⟨(some 7), .mv (.k (.s (.i .i64 0))), none⟩])
  (.ret))))))), [.c 6 (some 4), .t 7]⟩
theorem dc36 : compF Try.prog Try.f36 = some df36 := by kernel_rfl
theorem ok36 : FnOk Try.prog 36 := ⟨Try.f36, Try.func36, by kernel_rfl, by kernel_rfl⟩

/-- citadel/objs.Root -/
def df37 : DF :=
  ⟨38, .seq (.reg [⟨(some 6), .mv (.k (.s (.i .i64 0))), none⟩,
  ⟨(some 7), .mv (.k (.s (.i .i64 0))), none⟩])
  (.seq (.reg [⟨(some 13), .mv (.t 0), none⟩,
  ⟨(some 14), .mv (.t 1), none⟩,
  ⟨(some 15), .mv (.t 2), none⟩,
  ⟨(some 16), .call 74 [(.t 13), (.t 14), (.t 15)], none⟩,
  ⟨(some 12), .mv (.t 16), none⟩,
  ⟨(some 17), .ext (.t 12) 0, none⟩,
  ⟨(some 18), .ext (.t 12) 1, none⟩,
  ⟨(some 8), .mv (.t 17), none⟩,
  ⟨(some 9), .mv (.t 18), none⟩])
  (.seq (.seq (.reg [⟨(some 19), .mv (.t 9), none⟩,
  ⟨(some 20), .bin .neq (.t 19) (.k (.s (.i .i64 0))), none⟩])
  (.cond (.t 20)
  (.seq (.reg [⟨(some 21), .mv (.t 9), none⟩,
  ⟨(some 6), .mv (.k (.s (.i .i64 0))), none⟩,
  ⟨(some 7), .mv (.t 21), none⟩])
  (.ret))
  (.skip)))
  (.seq (.reg [⟨(some 23), .mv (.t 0), none⟩,
  ⟨(some 24), .mv (.t 8), none⟩,
  ⟨(some 25), .call 70 [(.t 23), (.t 24)], none⟩,
  ⟨(some 22), .mv (.t 25), none⟩,
  ⟨(some 26), .ext (.t 22) 0, none⟩,
  ⟨(some 27), .ext (.t 22) 1, none⟩,
  ⟨(some 10), .mv (.t 26), none⟩,
  ⟨(some 11), .mv (.t 27), none⟩])
  (.seq (.seq (.reg [⟨(some 28), .mv (.t 10), none⟩,
  ⟨(some 29), .bin .gtr (.t 28) (.k (.s (.i .u64 65535))), none⟩,
  ⟨(some 30), .mv (.t 29), none⟩,
  ⟨(some 31), .mv (.t 10), (some (30, false))⟩,
  ⟨(some 32), .conv .i64 (.t 31), (some (30, false))⟩,
  ⟨(some 33), .call 76 [(.t 32)], (some (30, false))⟩,
  ⟨(some 34), .un .not (.t 33), (some (30, false))⟩,
  ⟨(some 35), .pick (.t 30) (.k (.s (.b true))) (.t 34), none⟩])
  (.cond (.t 35)
  (.seq (.reg [⟨(some 6), .mv (.k (.s (.i .i64 0))), none⟩,
  ⟨(some 7), .mv (.k (.s (.i .i64 90))), none⟩])
  (.ret))
  (.skip)))
  (.seq (.reg [⟨(some 36), .mv (.t 10), none⟩,
  ⟨(some 37), .conv .i64 (.t 36), none⟩,
  ⟨(some 6), .mv (.t 37), none⟩,
  ⟨(some 7), .mv (.k (.s (.i .i64 0))), none⟩])
  (.ret)))))), [.t 6, .t 7]⟩
theorem dc37 : compF Try.prog Try.f37 = some df37 := by kernel_rfl
theorem ok37 : FnOk Try.prog 37 := ⟨Try.f37, Try.func37, by kernel_rfl, by kernel_rfl⟩

/-- (*citadel/mem.Memory).Fill -/
def df38 : DF :=
  ⟨39, .seq (.reg [⟨(some 8), .mv (.k (.s (.i .i64 0))), none⟩])
  (.seq (.reg [⟨(some 13), .mv (.t 0), none⟩,
  ⟨(some 14), .mv (.t 1), none⟩,
  ⟨(some 15), .mv (.t 2), none⟩,
  ⟨(some 16), .call 60 [(.t 13), (.t 14), (.t 15)], none⟩,
  ⟨(some 12), .mv (.t 16), none⟩,
  ⟨(some 17), .ext (.t 12) 0, none⟩,
  ⟨(some 18), .ext (.t 12) 1, none⟩,
  ⟨(some 9), .mv (.t 17), none⟩,
  ⟨(some 10), .mv (.t 18), none⟩])
  (.seq (.seq (.reg [⟨(some 19), .mv (.t 10), none⟩,
  ⟨(some 20), .un .not (.t 19), none⟩])
  (.cond (.t 20)
  (.seq (.reg [⟨(some 8), .mv (.k (.s (.i .i64 20))), none⟩])
  (.ret))
  (.skip)))
  (.seq (.seq (.reg [⟨(some 21), .mv (.t 9), none⟩,
  ⟨(some 22), .len (.t 21), none⟩,
  ⟨(some 23), .mv (.k (.s (.i .i64 0))), none⟩])
  (.block 0 (.loop (.seq (.reg [⟨(some 24), .bin .lss (.t 23) (.t 22), none⟩])
  (.seq (.cond (.t 24)
  (.skip)
  (.exit 0))
  (.seq (.block 1 (.seq (.reg [⟨(some 25), .mv (.t 23), none⟩,
  ⟨(some 11), .mv (.t 25), none⟩])
  (.reg [⟨(some 26), .mv (.t 9), none⟩,
  ⟨(some 27), .mv (.t 11), none⟩,
  ⟨(some 28), .mv (.t 3), none⟩,
  ⟨(some 29), .ia none 1 (.t 26) (.t 27), none⟩,
  ⟨none, .st (.t 29) (.t 28) 1, none⟩])))
  (.reg [⟨(some 30), .bin .add (.t 23) (.k (.s (.i .i64 1))), none⟩,
  ⟨(some 23), .mv (.t 30), none⟩])))))))
  (.seq (.reg [⟨(some 31), .mv (.t 0), none⟩,
  ⟨(some 32), .nil (.t 31), none⟩,
  ⟨(some 33), .fa (.t 32) 1, none⟩,
  ⟨(some 34), .ld (.t 33) none, none⟩,
  ⟨(some 35), .mv (.t 2), none⟩,
  ⟨(some 36), .bin .add (.t 34) (.t 35), none⟩,
  ⟨(some 37), .nil (.t 31), none⟩,
  ⟨(some 38), .fa (.t 37) 1, none⟩,
  ⟨none, .st (.t 38) (.t 36) 1, none⟩])
  (.seq (.reg [⟨(some 8), .mv (.k (.s (.i .i64 0))), none⟩])
  (.ret)))))), [.t 8]⟩
theorem dc38 : compF Try.prog Try.f38 = some df38 := by kernel_rfl
theorem ok38 : FnOk Try.prog 38 := ⟨Try.f38, Try.func38, by kernel_rfl, by kernel_rfl⟩

/-- citadel/objs.SetThread -/
def df39 : DF :=
  ⟨51, .seq (.reg [⟨(some 5), .box (.t 2), none⟩,
  ⟨(some 6), .mv (.k (.s (.i .i64 0))), none⟩])
  (.seq (.seq (.reg [⟨(some 13), .mv (.t 0), none⟩,
  ⟨(some 14), .mv (.t 1), none⟩,
  ⟨(some 15), .call 69 [(.t 13), (.t 14), (.k (.s (.i .i64 64)))], none⟩,
  ⟨(some 16), .un .not (.t 15), none⟩])
  (.cond (.t 16)
  (.seq (.reg [⟨(some 6), .mv (.k (.s (.i .i64 20))), none⟩])
  (.ret))
  (.skip)))
  (.seq (.reg [⟨(some 18), .ld (.t 5) (some 30), none⟩,
  ⟨(some 19), .call 77 [(.t 18)], none⟩,
  ⟨(some 17), .mv (.t 19), none⟩,
  ⟨(some 20), .ext (.t 17) 0, none⟩,
  ⟨(some 21), .ext (.t 17) 1, none⟩,
  ⟨(some 7), .new [.i .u64 0, .i .u64 0, .i .u64 0, .i .u64 0], none⟩,
  ⟨none, .st (.t 7) (.t 20) 4, none⟩,
  ⟨(some 8), .mv (.t 21), none⟩])
  (.seq (.seq (.reg [⟨(some 22), .mv (.t 8), none⟩,
  ⟨(some 23), .un .not (.t 22), none⟩])
  (.cond (.t 23)
  (.seq (.reg [⟨(some 6), .mv (.k (.s (.i .i64 90))), none⟩])
  (.ret))
  (.skip)))
  (.seq (.seq (.reg [⟨(some 24), .ld (.t 7) (some 4), none⟩,
  ⟨(some 25), .mv (.k (.s (.i .i64 0))), none⟩])
  (.block 0 (.loop (.seq (.reg [⟨(some 26), .bin .lss (.t 25) (.k (.s (.i .i64 4))), none⟩])
  (.seq (.cond (.t 26)
  (.skip)
  (.exit 0))
  (.seq (.block 1 (.seq (.reg [⟨(some 27), .mv (.t 25), none⟩,
  ⟨(some 28), .ix 4 1 none (.t 24) (.t 25), none⟩,
  ⟨(some 9), .mv (.t 27), none⟩,
  ⟨(some 10), .mv (.t 28), none⟩])
  (.reg [⟨(some 29), .mv (.t 0), none⟩,
  ⟨(some 30), .mv (.t 1), none⟩,
  ⟨(some 31), .bin .add (.t 30) (.k (.s (.i .i64 16))), none⟩,
  ⟨(some 32), .mv (.t 9), none⟩,
  ⟨(some 33), .bin .add (.t 31) (.t 32), none⟩,
  ⟨(some 34), .mv (.t 10), none⟩,
  ⟨(some 35), .call 78 [(.t 29), (.t 33), (.t 34)], none⟩])))
  (.reg [⟨(some 36), .bin .add (.t 25) (.k (.s (.i .i64 1))), none⟩,
  ⟨(some 25), .mv (.t 36), none⟩])))))))
  (.seq (.seq (.reg [⟨(some 37), .fa (.t 5) 14, none⟩,
  ⟨(some 38), .ld (.t 37) (some 16), none⟩,
  ⟨(some 39), .mv (.k (.s (.i .i64 0))), none⟩])
  (.block 2 (.loop (.seq (.reg [⟨(some 40), .bin .lss (.t 39) (.k (.s (.i .i64 16))), none⟩])
  (.seq (.cond (.t 40)
  (.skip)
  (.exit 2))
  (.seq (.block 3 (.seq (.reg [⟨(some 41), .mv (.t 39), none⟩,
  ⟨(some 42), .ix 16 1 none (.t 38) (.t 39), none⟩,
  ⟨(some 11), .mv (.t 41), none⟩,
  ⟨(some 12), .mv (.t 42), none⟩])
  (.reg [⟨(some 43), .mv (.t 0), none⟩,
  ⟨(some 44), .mv (.t 1), none⟩,
  ⟨(some 45), .bin .add (.t 44) (.k (.s (.i .i64 32))), none⟩,
  ⟨(some 46), .mv (.t 11), none⟩,
  ⟨(some 47), .bin .add (.t 45) (.t 46), none⟩,
  ⟨(some 48), .mv (.t 12), none⟩,
  ⟨(some 49), .call 78 [(.t 43), (.t 47), (.t 48)], none⟩])))
  (.reg [⟨(some 50), .bin .add (.t 39) (.k (.s (.i .i64 1))), none⟩,
  ⟨(some 39), .mv (.t 50), none⟩])))))))
  (.seq (.reg [⟨(some 6), .mv (.k (.s (.i .i64 0))), none⟩])
  (.ret))))))), [.t 6]⟩
theorem dc39 : compF Try.prog Try.f39 = some df39 := by kernel_rfl
theorem ok39 : FnOk Try.prog 39 := ⟨Try.f39, Try.func39, by kernel_rfl, by kernel_rfl⟩

/-- citadel/objs.SetReg -/
def df40 : DF :=
  ⟨25, .seq (.reg [⟨(some 8), .mv (.k (.s (.i .i64 0))), none⟩])
  (.seq (.reg [⟨(some 12), .mv (.t 0), none⟩,
  ⟨(some 13), .mv (.t 1), none⟩,
  ⟨(some 14), .mv (.t 2), none⟩,
  ⟨(some 15), .call 79 [(.t 12), (.t 13), (.t 14)], none⟩,
  ⟨(some 11), .mv (.t 15), none⟩,
  ⟨(some 16), .ext (.t 11) 0, none⟩,
  ⟨(some 17), .ext (.t 11) 1, none⟩,
  ⟨(some 9), .mv (.t 16), none⟩,
  ⟨(some 10), .mv (.t 17), none⟩])
  (.seq (.seq (.reg [⟨(some 18), .mv (.t 10), none⟩,
  ⟨(some 19), .bin .neq (.t 18) (.k (.s (.i .i64 0))), none⟩])
  (.cond (.t 19)
  (.seq (.reg [⟨(some 20), .mv (.t 10), none⟩,
  ⟨(some 8), .mv (.t 20), none⟩])
  (.ret))
  (.skip)))
  (.seq (.reg [⟨(some 21), .mv (.t 0), none⟩,
  ⟨(some 22), .mv (.t 9), none⟩,
  ⟨(some 23), .mv (.t 3), none⟩,
  ⟨(some 24), .call 78 [(.t 21), (.t 22), (.t 23)], none⟩,
  ⟨(some 8), .mv (.t 24), none⟩])
  (.ret)))), [.t 8]⟩
theorem dc40 : compF Try.prog Try.f40 = some df40 := by kernel_rfl
theorem ok40 : FnOk Try.prog 40 := ⟨Try.f40, Try.func40, by kernel_rfl, by kernel_rfl⟩

/-- citadel/objs.Reg -/
def df41 : DF :=
  ⟨25, .seq (.reg [⟨(some 6), .mv (.k (.s (.i .u64 0))), none⟩,
  ⟨(some 7), .mv (.k (.s (.i .i64 0))), none⟩])
  (.seq (.reg [⟨(some 11), .mv (.t 0), none⟩,
  ⟨(some 12), .mv (.t 1), none⟩,
  ⟨(some 13), .mv (.t 2), none⟩,
  ⟨(some 14), .call 79 [(.t 11), (.t 12), (.t 13)], none⟩,
  ⟨(some 10), .mv (.t 14), none⟩,
  ⟨(some 15), .ext (.t 10) 0, none⟩,
  ⟨(some 16), .ext (.t 10) 1, none⟩,
  ⟨(some 8), .mv (.t 15), none⟩,
  ⟨(some 9), .mv (.t 16), none⟩])
  (.seq (.seq (.reg [⟨(some 17), .mv (.t 9), none⟩,
  ⟨(some 18), .bin .neq (.t 17) (.k (.s (.i .i64 0))), none⟩])
  (.cond (.t 18)
  (.seq (.reg [⟨(some 19), .mv (.t 9), none⟩,
  ⟨(some 6), .mv (.k (.s (.i .u64 0))), none⟩,
  ⟨(some 7), .mv (.t 19), none⟩])
  (.ret))
  (.skip)))
  (.seq (.reg [⟨(some 20), .mv (.t 0), none⟩,
  ⟨(some 21), .mv (.t 8), none⟩,
  ⟨(some 22), .call 70 [(.t 20), (.t 21)], none⟩,
  ⟨(some 23), .ext (.t 22) 0, none⟩,
  ⟨(some 24), .ext (.t 22) 1, none⟩,
  ⟨(some 6), .mv (.t 23), none⟩,
  ⟨(some 7), .mv (.t 24), none⟩])
  (.ret)))), [.t 6, .t 7]⟩
theorem dc41 : compF Try.prog Try.f41 = some df41 := by kernel_rfl
theorem ok41 : FnOk Try.prog 41 := ⟨Try.f41, Try.func41, by kernel_rfl, by kernel_rfl⟩

/-- citadel/objs.SetQueue -/
def df42 : DF :=
  ⟨38, .seq (.reg [⟨(some 5), .box (.t 2), none⟩,
  ⟨(some 6), .mv (.k (.s (.i .i64 0))), none⟩])
  (.seq (.seq (.reg [⟨(some 9), .mv (.t 0), none⟩,
  ⟨(some 10), .mv (.t 1), none⟩,
  ⟨(some 11), .call 69 [(.t 9), (.t 10), (.k (.s (.i .i64 4)))], none⟩,
  ⟨(some 12), .un .not (.t 11), none⟩])
  (.cond (.t 12)
  (.seq (.reg [⟨(some 6), .mv (.k (.s (.i .i64 20))), none⟩])
  (.ret))
  (.skip)))
  (.seq (.reg [⟨(some 14), .fa (.t 5) 0, none⟩,
  ⟨(some 15), .ld (.t 14) none, none⟩,
  ⟨(some 16), .build [.i .i64 0, .i .i64 0] [(0, 1, (.k (.s (.i .i64 2)))), (1, 1, (.t 15))], none⟩,
  ⟨(some 17), .fa (.t 5) 1, none⟩,
  ⟨(some 18), .ld (.t 17) none, none⟩,
  ⟨(some 19), .build [.i .i64 0, .i .i64 0] [(0, 1, (.k (.s (.i .i64 16)))), (1, 1, (.t 18))], none⟩,
  ⟨(some 20), .fa (.t 5) 2, none⟩,
  ⟨(some 21), .ld (.t 20) none, none⟩,
  ⟨(some 22), .build [.i .i64 0, .i .i64 0] [(0, 1, (.k (.s (.i .i64 16)))), (1, 1, (.t 21))], none⟩,
  ⟨(some 23), .bsl 3 [.i .i64 0, .i .i64 0, .i .i64 0, .i .i64 0, .i .i64 0, .i .i64 0] [(0, 2, (.t 16)), (2, 2, (.t 19)), (4, 2, (.t 22))], none⟩,
  ⟨(some 24), .call 80 [(.t 23)], none⟩,
  ⟨(some 13), .mv (.t 24), none⟩,
  ⟨(some 25), .ext (.t 13) 0, none⟩,
  ⟨(some 26), .ext (.t 13) 1, none⟩,
  ⟨(some 7), .mv (.t 25), none⟩,
  ⟨(some 8), .mv (.t 26), none⟩])
  (.seq (.seq (.reg [⟨(some 27), .mv (.t 8), none⟩,
  ⟨(some 28), .un .not (.t 27), none⟩,
  ⟨(some 29), .mv (.t 28), none⟩,
  ⟨(some 30), .ld (.t 5) (some 3), (some (29, false))⟩,
  ⟨(some 31), .call 72 [(.t 30)], (some (29, false))⟩,
  ⟨(some 32), .un .not (.t 31), (some (29, false))⟩,
  ⟨(some 33), .pick (.t 29) (.k (.s (.b true))) (.t 32), none⟩])
  (.cond (.t 33)
  (.seq (.reg [⟨(some 6), .mv (.k (.s (.i .i64 90))), none⟩])
  (.ret))
  (.skip)))
  (.seq (.reg [⟨(some 34), .mv (.t 0), none⟩,
  ⟨(some 35), .mv (.t 1), none⟩,
  ⟨(some 36), .mv (.t 7), none⟩,
  ⟨(some 37), .call 78 [(.t 34), (.t 35), (.t 36)], none⟩,
  ⟨(some 6), .mv (.t 37), none⟩])
  (.ret))))), [.t 6]⟩
theorem dc42 : compF Try.prog Try.f42 = some df42 := by kernel_rfl
theorem ok42 : FnOk Try.prog 42 := ⟨Try.f42, Try.func42, by kernel_rfl, by kernel_rfl⟩

/-- citadel/objs.SetSignal -/
def df43 : DF :=
  ⟨60, .seq (.reg [⟨(some 5), .box (.t 2), none⟩,
  ⟨(some 6), .mv (.k (.s (.i .i64 0))), none⟩])
  (.seq (.seq (.reg [⟨(some 11), .mv (.t 0), none⟩,
  ⟨(some 12), .mv (.t 1), none⟩,
  ⟨(some 13), .call 69 [(.t 11), (.t 12), (.k (.s (.i .i64 8)))], none⟩,
  ⟨(some 14), .un .not (.t 13), none⟩])
  (.cond (.t 14)
  (.seq (.reg [⟨(some 6), .mv (.k (.s (.i .i64 20))), none⟩])
  (.ret))
  (.skip)))
  (.seq (.reg [⟨(some 16), .fa (.t 5) 0, none⟩,
  ⟨(some 17), .ld (.t 16) none, none⟩,
  ⟨(some 18), .build [.i .i64 0, .i .i64 0] [(0, 1, (.k (.s (.i .i64 2)))), (1, 1, (.t 17))], none⟩,
  ⟨(some 19), .fa (.t 5) 1, none⟩,
  ⟨(some 20), .ld (.t 19) none, none⟩,
  ⟨(some 21), .build [.i .i64 0, .i .i64 0] [(0, 1, (.k (.s (.i .i64 16)))), (1, 1, (.t 20))], none⟩,
  ⟨(some 22), .fa (.t 5) 2, none⟩,
  ⟨(some 23), .ld (.t 22) none, none⟩,
  ⟨(some 24), .build [.i .i64 0, .i .i64 0] [(0, 1, (.k (.s (.i .i64 16)))), (1, 1, (.t 23))], none⟩,
  ⟨(some 25), .bsl 3 [.i .i64 0, .i .i64 0, .i .i64 0, .i .i64 0, .i .i64 0, .i .i64 0] [(0, 2, (.t 18)), (2, 2, (.t 21)), (4, 2, (.t 24))], none⟩,
  ⟨(some 26), .call 80 [(.t 25)], none⟩,
  ⟨(some 15), .mv (.t 26), none⟩,
  ⟨(some 27), .ext (.t 15) 0, none⟩,
  ⟨(some 28), .ext (.t 15) 1, none⟩,
  ⟨(some 7), .mv (.t 27), none⟩,
  ⟨(some 8), .mv (.t 28), none⟩])
  (.seq (.reg [⟨(some 30), .fa (.t 5) 3, none⟩,
  ⟨(some 31), .ld (.t 30) none, none⟩,
  ⟨(some 32), .build [.i .i64 0, .i .i64 0] [(0, 1, (.k (.s (.i .i64 28)))), (1, 1, (.t 31))], none⟩,
  ⟨(some 33), .fa (.t 5) 4, none⟩,
  ⟨(some 34), .ld (.t 33) none, none⟩,
  ⟨(some 35), .build [.i .i64 0, .i .i64 0] [(0, 1, (.k (.s (.i .i64 16)))), (1, 1, (.t 34))], none⟩,
  ⟨(some 36), .bsl 2 [.i .i64 0, .i .i64 0, .i .i64 0, .i .i64 0] [(0, 2, (.t 32)), (2, 2, (.t 35))], none⟩,
  ⟨(some 37), .call 80 [(.t 36)], none⟩,
  ⟨(some 29), .mv (.t 37), none⟩,
  ⟨(some 38), .ext (.t 29) 0, none⟩,
  ⟨(some 39), .ext (.t 29) 1, none⟩,
  ⟨(some 9), .mv (.t 38), none⟩,
  ⟨(some 10), .mv (.t 39), none⟩])
  (.seq (.seq (.reg [⟨(some 40), .mv (.t 8), none⟩,
  ⟨(some 41), .un .not (.t 40), none⟩,
  ⟨(some 42), .mv (.t 41), none⟩,
  ⟨(some 43), .mv (.t 10), (some (42, false))⟩,
  ⟨(some 44), .un .not (.t 43), (some (42, false))⟩,
  ⟨(some 45), .pick (.t 42) (.k (.s (.b true))) (.t 44), none⟩,
  ⟨(some 46), .mv (.t 45), none⟩,
  ⟨(some 47), .ld (.t 5) (some 5), (some (46, false))⟩,
  ⟨(some 48), .call 73 [(.t 47)], (some (46, false))⟩,
  ⟨(some 49), .un .not (.t 48), (some (46, false))⟩,
  ⟨(some 50), .pick (.t 46) (.k (.s (.b true))) (.t 49), none⟩])
  (.cond (.t 50)
  (.seq (.reg [⟨(some 6), .mv (.k (.s (.i .i64 90))), none⟩])
  (.ret))
  (.skip)))
  (.seq (.reg [⟨(some 51), .mv (.t 0), none⟩,
  ⟨(some 52), .mv (.t 1), none⟩,
  ⟨(some 53), .mv (.t 7), none⟩,
  ⟨(some 54), .call 78 [(.t 51), (.t 52), (.t 53)], none⟩])
  (.seq (.reg [⟨(some 55), .mv (.t 0), none⟩,
  ⟨(some 56), .mv (.t 1), none⟩,
  ⟨(some 57), .bin .add (.t 56) (.k (.s (.i .i64 1))), none⟩,
  ⟨(some 58), .mv (.t 9), none⟩,
  ⟨(some 59), .call 78 [(.t 55), (.t 57), (.t 58)], none⟩,
  ⟨(some 6), .mv (.t 59), none⟩])
  (.ret))))))), [.t 6]⟩
theorem dc43 : compF Try.prog Try.f43 = some df43 := by kernel_rfl
theorem ok43 : FnOk Try.prog 43 := ⟨Try.f43, Try.func43, by kernel_rfl, by kernel_rfl⟩

/-- citadel/objs.SetEntry -/
def df44 : DF :=
  ⟨33, .seq (.reg [⟨(some 7), .box (.t 3), none⟩,
  ⟨(some 8), .mv (.k (.s (.i .i64 0))), none⟩])
  (.seq (.reg [⟨(some 13), .mv (.t 0), none⟩,
  ⟨(some 14), .mv (.t 1), none⟩,
  ⟨(some 15), .mv (.t 2), none⟩,
  ⟨(some 16), .call 74 [(.t 13), (.t 14), (.t 15)], none⟩,
  ⟨(some 12), .mv (.t 16), none⟩,
  ⟨(some 17), .ext (.t 12) 0, none⟩,
  ⟨(some 18), .ext (.t 12) 1, none⟩,
  ⟨(some 9), .mv (.t 17), none⟩,
  ⟨(some 10), .mv (.t 18), none⟩])
  (.seq (.seq (.reg [⟨(some 19), .mv (.t 10), none⟩,
  ⟨(some 20), .bin .neq (.t 19) (.k (.s (.i .i64 0))), none⟩])
  (.cond (.t 20)
  (.seq (.reg [⟨(some 21), .mv (.t 10), none⟩,
  ⟨(some 8), .mv (.t 21), none⟩])
  (.ret))
  (.skip)))
  (.seq (.reg [⟨(some 23), .ld (.t 7) (some 4), none⟩,
  ⟨(some 24), .call 81 [(.t 23)], none⟩,
  ⟨(some 22), .mv (.t 24), none⟩,
  ⟨(some 25), .ext (.t 22) 0, none⟩,
  ⟨(some 26), .ext (.t 22) 1, none⟩,
  ⟨(some 11), .mv (.t 25), none⟩,
  ⟨(some 10), .mv (.t 26), none⟩])
  (.seq (.seq (.reg [⟨(some 27), .mv (.t 10), none⟩,
  ⟨(some 28), .bin .neq (.t 27) (.k (.s (.i .i64 0))), none⟩])
  (.cond (.t 28)
  (.seq (.reg [⟨(some 8), .mv (.k (.s (.i .i64 90))), none⟩])
  (.ret))
  (.skip)))
  (.seq (.reg [⟨(some 29), .mv (.t 0), none⟩,
  ⟨(some 30), .mv (.t 9), none⟩,
  ⟨(some 31), .mv (.t 11), none⟩,
  ⟨(some 32), .call 78 [(.t 29), (.t 30), (.t 31)], none⟩,
  ⟨(some 8), .mv (.t 32), none⟩])
  (.ret)))))), [.t 8]⟩
theorem dc44 : compF Try.prog Try.f44 = some df44 := by kernel_rfl
theorem ok44 : FnOk Try.prog 44 := ⟨Try.f44, Try.func44, by kernel_rfl, by kernel_rfl⟩

/-- citadel/objs.SetRoot -/
def df45 : DF :=
  ⟨29, .seq (.reg [⟨(some 8), .mv (.k (.s (.i .i64 0))), none⟩])
  (.seq (.reg [⟨(some 12), .mv (.t 0), none⟩,
  ⟨(some 13), .mv (.t 1), none⟩,
  ⟨(some 14), .mv (.t 2), none⟩,
  ⟨(some 15), .call 74 [(.t 12), (.t 13), (.t 14)], none⟩,
  ⟨(some 11), .mv (.t 15), none⟩,
  ⟨(some 16), .ext (.t 11) 0, none⟩,
  ⟨(some 17), .ext (.t 11) 1, none⟩,
  ⟨(some 9), .mv (.t 16), none⟩,
  ⟨(some 10), .mv (.t 17), none⟩])
  (.seq (.seq (.reg [⟨(some 18), .mv (.t 10), none⟩,
  ⟨(some 19), .bin .neq (.t 18) (.k (.s (.i .i64 0))), none⟩])
  (.cond (.t 19)
  (.seq (.reg [⟨(some 20), .mv (.t 10), none⟩,
  ⟨(some 8), .mv (.t 20), none⟩])
  (.ret))
  (.skip)))
  (.seq (.seq (.reg [⟨(some 21), .mv (.t 3), none⟩,
  ⟨(some 22), .call 76 [(.t 21)], none⟩,
  ⟨(some 23), .un .not (.t 22), none⟩])
  (.cond (.t 23)
  (.seq (.reg [⟨(some 8), .mv (.k (.s (.i .i64 90))), none⟩])
  (.ret))
  (.skip)))
  (.seq (.reg [⟨(some 24), .mv (.t 0), none⟩,
  ⟨(some 25), .mv (.t 9), none⟩,
  ⟨(some 26), .mv (.t 3), none⟩,
  ⟨(some 27), .conv .u64 (.t 26), none⟩,
  ⟨(some 28), .call 78 [(.t 24), (.t 25), (.t 27)], none⟩,
  ⟨(some 8), .mv (.t 28), none⟩])
  (.ret))))), [.t 8]⟩
theorem dc45 : compF Try.prog Try.f45 = some df45 := by kernel_rfl
theorem ok45 : FnOk Try.prog 45 := ⟨Try.f45, Try.func45, by kernel_rfl, by kernel_rfl⟩

/-- (*citadel/mem.Memory).span -/
def df60 : DF :=
  ⟨43, .seq (.reg [⟨(some 6), .mv (.k (.s (.ns))), none⟩,
  ⟨(some 7), .mv (.k (.s (.b false))), none⟩])
  (.seq (.seq (.reg [⟨(some 8), .mv (.t 1), none⟩,
  ⟨(some 9), .bin .lss (.t 8) (.k (.s (.i .i64 0))), none⟩,
  ⟨(some 10), .mv (.t 9), none⟩,
  ⟨(some 11), .mv (.t 2), (some (10, false))⟩,
  ⟨(some 12), .bin .lss (.t 11) (.k (.s (.i .i64 0))), (some (10, false))⟩,
  ⟨(some 13), .pick (.t 10) (.k (.s (.b true))) (.t 12), none⟩,
  ⟨(some 14), .mv (.t 13), none⟩,
  ⟨(some 15), .mv (.t 1), (some (14, false))⟩,
  ⟨(some 16), .mv (.t 0), (some (14, false))⟩,
  ⟨(some 17), .nil (.t 16), (some (14, false))⟩,
  ⟨(some 18), .fa (.t 17) 0, (some (14, false))⟩,
  ⟨(some 19), .ld (.t 18) none, (some (14, false))⟩,
  ⟨(some 20), .len (.t 19), (some (14, false))⟩,
  ⟨(some 21), .bin .gtr (.t 15) (.t 20), (some (14, false))⟩,
  ⟨(some 22), .pick (.t 14) (.k (.s (.b true))) (.t 21), none⟩,
  ⟨(some 23), .mv (.t 22), none⟩,
  ⟨(some 24), .mv (.t 2), (some (23, false))⟩,
  ⟨(some 25), .mv (.t 0), (some (23, false))⟩,
  ⟨(some 26), .nil (.t 25), (some (23, false))⟩,
  ⟨(some 27), .fa (.t 26) 0, (some (23, false))⟩,
  ⟨(some 28), .ld (.t 27) none, (some (23, false))⟩,
  ⟨(some 29), .len (.t 28), (some (23, false))⟩,
  ⟨(some 30), .mv (.t 1), (some (23, false))⟩,
  ⟨(some 31), .bin .sub (.t 29) (.t 30), (some (23, false))⟩,
  ⟨(some 32), .bin .gtr (.t 24) (.t 31), (some (23, false))⟩,
  ⟨(some 33), .pick (.t 23) (.k (.s (.b true))) (.t 32), none⟩])
  (.cond (.t 33)
  (.seq (.reg [⟨(some 6), .mv (.k (.s (.ns))), none⟩,
  ⟨(some 7), .mv (.k (.s (.b false))), none⟩])
  (.ret))
  (.skip)))
  (.seq (.reg [⟨(some 34), .mv (.t 0), none⟩,
  ⟨(some 35), .nil (.t 34), none⟩,
  ⟨(some 36), .fa (.t 35) 0, none⟩,
  ⟨(some 37), .ld (.t 36) none, none⟩,
  ⟨(some 38), .mv (.t 1), none⟩,
  ⟨(some 39), .mv (.t 1), none⟩,
  ⟨(some 40), .mv (.t 2), none⟩,
  ⟨(some 41), .bin .add (.t 39) (.t 40), none⟩,
  ⟨(some 42), .slc none 1 (.t 37) (some (.t 38)) (some (.t 41)), none⟩,
  ⟨(some 6), .mv (.t 42), none⟩,
  ⟨(some 7), .mv (.k (.s (.b true))), none⟩])
  (.ret))), [.t 6, .t 7]⟩
theorem dc60 : compF Try.prog Try.f60 = some df60 := by kernel_rfl
theorem ok60 : FnOk Try.prog 60 := ⟨Try.f60, Try.func60, by kernel_rfl, by kernel_rfl⟩

/-- slices.Clone[[]uint64,uint64] -/
def df61 : DF :=
  ⟨8, .seq (.reg [⟨(some 2), .mv (.k (.s (.ns))), none⟩])
  (.seq (.seq (.reg [⟨(some 3), .mv (.t 0), none⟩,
  ⟨(some 4), .eqn true false (.t 3), none⟩])
  (.cond (.t 4)
  (.seq (.reg [⟨(some 2), .mv (.k (.s (.ns))), none⟩])
  (.ret))
  (.skip)))
  (.seq (.reg [⟨(some 5), .bsl 0 [] [], none⟩,
  ⟨(some 6), .mv (.t 0), none⟩,
  ⟨(some 7), .app 1 8 (.t 5) (.t 6), none⟩,
  ⟨(some 2), .mv (.t 7), none⟩])
  (.ret))), [.t 2]⟩
theorem dc61 : compF Try.prog Try.f61 = some df61 := by kernel_rfl
theorem ok61 : FnOk Try.prog 61 := ⟨Try.f61, Try.func61, by kernel_rfl, by kernel_rfl⟩

/-- citadel/objs.there -/
def df69 : DF :=
  ⟨23, .seq (.reg [⟨(some 6), .mv (.k (.s (.b false))), none⟩])
  (.seq (.reg [⟨(some 7), .mv (.t 1), none⟩,
  ⟨(some 8), .bin .geq (.t 7) (.k (.s (.i .i64 1024))), none⟩,
  ⟨(some 9), .mv (.t 8), none⟩,
  ⟨(some 10), .mv (.t 1), (some (9, true))⟩,
  ⟨(some 11), .mv (.t 2), (some (9, true))⟩,
  ⟨(some 12), .bin .rem (.t 10) (.t 11), (some (9, true))⟩,
  ⟨(some 13), .bin .eql (.t 12) (.k (.s (.i .i64 0))), (some (9, true))⟩,
  ⟨(some 14), .pick (.t 9) (.t 13) (.k (.s (.b false))), none⟩,
  ⟨(some 15), .mv (.t 14), none⟩,
  ⟨(some 16), .mv (.t 1), (some (15, true))⟩,
  ⟨(some 17), .mv (.t 0), (some (15, true))⟩,
  ⟨(some 18), .call 111 [(.t 17)], (some (15, true))⟩,
  ⟨(some 19), .mv (.t 2), (some (15, true))⟩,
  ⟨(some 20), .bin .sub (.t 18) (.t 19), (some (15, true))⟩,
  ⟨(some 21), .bin .leq (.t 16) (.t 20), (some (15, true))⟩,
  ⟨(some 22), .pick (.t 15) (.t 21) (.k (.s (.b false))), none⟩,
  ⟨(some 6), .mv (.t 22), none⟩])
  (.ret)), [.t 6]⟩
theorem dc69 : compF Try.prog Try.f69 = some df69 := by kernel_rfl
theorem ok69 : FnOk Try.prog 69 := ⟨Try.f69, Try.func69, by kernel_rfl, by kernel_rfl⟩

/-- (*citadel/mem.Memory).Read -/
def df70 : DF :=
  ⟨26, .seq (.reg [⟨(some 4), .mv (.k (.s (.i .u64 0))), none⟩,
  ⟨(some 5), .mv (.k (.s (.i .i64 0))), none⟩])
  (.seq (.reg [⟨(some 9), .mv (.t 0), none⟩,
  ⟨(some 10), .mv (.t 1), none⟩,
  ⟨(some 11), .call 60 [(.t 9), (.t 10), (.k (.s (.i .i64 1)))], none⟩,
  ⟨(some 8), .mv (.t 11), none⟩,
  ⟨(some 12), .ext (.t 8) 0, none⟩,
  ⟨(some 13), .ext (.t 8) 1, none⟩,
  ⟨(some 6), .mv (.t 12), none⟩,
  ⟨(some 7), .mv (.t 13), none⟩])
  (.seq (.seq (.reg [⟨(some 14), .mv (.t 7), none⟩,
  ⟨(some 15), .un .not (.t 14), none⟩])
  (.cond (.t 15)
  (.seq (.reg [⟨(some 4), .mv (.k (.s (.i .u64 0))), none⟩,
  ⟨(some 5), .mv (.k (.s (.i .i64 20))), none⟩])
  (.ret))
  (.skip)))
  (.seq (.reg [⟨(some 16), .mv (.t 0), none⟩,
  ⟨(some 17), .nil (.t 16), none⟩,
  ⟨(some 18), .fa (.t 17) 1, none⟩,
  ⟨(some 19), .ld (.t 18) none, none⟩,
  ⟨(some 20), .bin .add (.t 19) (.k (.s (.i .i64 1))), none⟩,
  ⟨(some 21), .nil (.t 16), none⟩,
  ⟨(some 22), .fa (.t 21) 1, none⟩,
  ⟨none, .st (.t 22) (.t 20) 1, none⟩])
  (.seq (.reg [⟨(some 23), .mv (.t 6), none⟩,
  ⟨(some 24), .ia none 1 (.t 23) (.k (.s (.i .i64 0))), none⟩,
  ⟨(some 25), .ld (.t 24) none, none⟩,
  ⟨(some 4), .mv (.t 25), none⟩,
  ⟨(some 5), .mv (.k (.s (.i .i64 0))), none⟩])
  (.ret))))), [.t 4, .t 5]⟩
theorem dc70 : compF Try.prog Try.f70 = some df70 := by kernel_rfl
theorem ok70 : FnOk Try.prog 70 := ⟨Try.f70, Try.func70, by kernel_rfl, by kernel_rfl⟩

/-- citadel/objs.unpack -/
def df71 : DF :=
  ⟨36, .seq (.reg [⟨(some 4), .mv (.k (.s (.ns))), none⟩,
  ⟨(some 5), .mv (.k (.s (.b false))), none⟩])
  (.seq (.reg [⟨(some 12), .mv (.t 0), none⟩,
  ⟨(some 13), .mv (.t 1), none⟩,
  ⟨(some 14), .call 98 [(.t 12), (.t 13)], none⟩,
  ⟨(some 11), .mv (.t 14), none⟩,
  ⟨(some 15), .ext (.t 11) 0, none⟩,
  ⟨(some 16), .ext (.t 11) 1, none⟩,
  ⟨(some 6), .mv (.t 15), none⟩,
  ⟨(some 7), .mv (.t 16), none⟩])
  (.seq (.reg [⟨(some 17), .mv (.t 1), none⟩,
  ⟨(some 18), .len (.t 17), none⟩,
  ⟨(some 19), .mks 1 8 [.i .i64 0] (.t 18) (.t 18), none⟩,
  ⟨(some 8), .mv (.t 19), none⟩])
  (.seq (.seq (.reg [⟨(some 20), .mv (.t 6), none⟩,
  ⟨(some 21), .len (.t 20), none⟩,
  ⟨(some 22), .mv (.k (.s (.i .i64 0))), none⟩])
  (.block 0 (.loop (.seq (.reg [⟨(some 23), .bin .lss (.t 22) (.t 21), none⟩])
  (.seq (.cond (.t 23)
  (.skip)
  (.exit 0))
  (.seq (.block 1 (.seq (.reg [⟨(some 24), .mv (.t 22), none⟩,
  ⟨(some 25), .ia none 1 (.t 20) (.t 22), none⟩,
  ⟨(some 26), .ld (.t 25) none, none⟩,
  ⟨(some 9), .mv (.t 24), none⟩,
  ⟨(some 10), .mv (.t 26), none⟩])
  (.reg [⟨(some 27), .mv (.t 8), none⟩,
  ⟨(some 28), .mv (.t 9), none⟩,
  ⟨(some 29), .mv (.t 10), none⟩,
  ⟨(some 30), .conv .i64 (.t 29), none⟩,
  ⟨(some 31), .ia none 1 (.t 27) (.t 28), none⟩,
  ⟨none, .st (.t 31) (.t 30) 1, none⟩])))
  (.reg [⟨(some 32), .bin .add (.t 22) (.k (.s (.i .i64 1))), none⟩,
  ⟨(some 22), .mv (.t 32), none⟩])))))))
  (.seq (.reg [⟨(some 33), .mv (.t 8), none⟩,
  ⟨(some 34), .mv (.t 7), none⟩,
  ⟨(some 35), .bin .eql (.t 34) (.k (.s (.i .i64 0))), none⟩,
  ⟨(some 4), .mv (.t 33), none⟩,
  ⟨(some 5), .mv (.t 35), none⟩])
  (.ret))))), [.t 4, .t 5]⟩
theorem dc71 : compF Try.prog Try.f71 = some df71 := by kernel_rfl
theorem ok71 : FnOk Try.prog 71 := ⟨Try.f71, Try.func71, by kernel_rfl, by kernel_rfl⟩

/-- citadel/objs.rightQueue -/
def df72 : DF :=
  ⟨22, .seq (.reg [⟨(some 1), .box (.t 0), none⟩,
  ⟨(some 2), .mv (.k (.s (.b false))), none⟩])
  (.seq (.seq (.reg [⟨(some 3), .fa (.t 1) 0, none⟩,
  ⟨(some 4), .ld (.t 3) none, none⟩,
  ⟨(some 5), .bin .eql (.t 4) (.k (.s (.i .i64 0))), none⟩])
  (.cond (.t 5)
  (.seq (.reg [⟨(some 6), .ld (.t 1) (some 3), none⟩,
  ⟨(some 7), .build [.i .i64 0, .i .i64 0, .i .i64 0] [], none⟩,
  ⟨(some 8), .eqa false [true, true, true] (.t 6) (.t 7), none⟩,
  ⟨(some 2), .mv (.t 8), none⟩])
  (.ret))
  (.skip)))
  (.seq (.reg [⟨(some 9), .fa (.t 1) 0, none⟩,
  ⟨(some 10), .ld (.t 9) none, none⟩,
  ⟨(some 11), .bin .leq (.t 10) (.k (.s (.i .i64 2))), none⟩,
  ⟨(some 12), .mv (.t 11), none⟩,
  ⟨(some 13), .fa (.t 1) 1, (some (12, true))⟩,
  ⟨(some 14), .ld (.t 13) none, (some (12, true))⟩,
  ⟨(some 15), .bin .gtr (.t 14) (.k (.s (.i .i64 0))), (some (12, true))⟩,
  ⟨(some 16), .pick (.t 12) (.t 15) (.k (.s (.b false))), none⟩,
  ⟨(some 17), .mv (.t 16), none⟩,
  ⟨(some 18), .fa (.t 1) 2, (some (17, true))⟩,
  ⟨(some 19), .ld (.t 18) none, (some (17, true))⟩,
  ⟨(some 20), .bin .gtr (.t 19) (.k (.s (.i .i64 0))), (some (17, true))⟩,
  ⟨(some 21), .pick (.t 17) (.t 20) (.k (.s (.b false))), none⟩,
  ⟨(some 2), .mv (.t 21), none⟩])
  (.ret))), [.t 2]⟩
theorem dc72 : compF Try.prog Try.f72 = some df72 := by kernel_rfl
theorem ok72 : FnOk Try.prog 72 := ⟨Try.f72, Try.func72, by kernel_rfl, by kernel_rfl⟩

/-- citadel/objs.rightSignal -/
def df73 : DF :=
  ⟨44, .seq (.reg [⟨(some 1), .box (.t 0), none⟩,
  ⟨(some 2), .mv (.k (.s (.b false))), none⟩])
  (.seq (.drq [⟨(some 6), .fa (.t 1) 1, none⟩,
  ⟨(some 7), .ld (.t 6) none, none⟩,
  ⟨(some 8), .bin .gtr (.t 7) (.k (.s (.i .i64 0))), none⟩,
  ⟨(some 9), .mv (.t 8), none⟩,
  ⟨(some 10), .fa (.t 1) 2, (some (9, true))⟩,
  ⟨(some 11), .ld (.t 10) none, (some (9, true))⟩,
  ⟨(some 12), .bin .gtr (.t 11) (.k (.s (.i .i64 0))), (some (9, true))⟩,
  ⟨(some 13), .pick (.t 9) (.t 12) (.k (.s (.b false))), none⟩,
  ⟨(some 14), .fa (.t 1) 3, none⟩,
  ⟨(some 15), .ld (.t 14) none, none⟩,
  ⟨(some 16), .bin .gtr (.t 15) (.k (.s (.i .i64 0))), none⟩,
  ⟨(some 3), .mv (.t 13), none⟩,
  ⟨(some 4), .mv (.t 16), none⟩])
  (.seq (.reg [⟨(some 17), .fa (.t 1) 1, none⟩,
  ⟨(some 18), .ld (.t 17) none, none⟩,
  ⟨(some 19), .bin .eql (.t 18) (.k (.s (.i .i64 0))), none⟩,
  ⟨(some 20), .mv (.t 19), none⟩,
  ⟨(some 21), .fa (.t 1) 2, (some (20, true))⟩,
  ⟨(some 22), .ld (.t 21) none, (some (20, true))⟩,
  ⟨(some 23), .bin .eql (.t 22) (.k (.s (.i .i64 0))), (some (20, true))⟩,
  ⟨(some 24), .pick (.t 20) (.t 23) (.k (.s (.b false))), none⟩,
  ⟨(some 5), .mv (.t 24), none⟩])
  (.seq (.seq (.reg [⟨(some 25), .fa (.t 1) 0, none⟩,
  ⟨(some 26), .ld (.t 25) none, none⟩])
  (.block 0 (.seq (.reg [⟨(some 28), .bin .eql (.t 26) (.k (.s (.i .i64 0))), none⟩,
  ⟨(some 27), .mv (.t 28), none⟩])
  (.cond (.t 27)
  (.seq (.reg [⟨(some 29), .mv (.t 5), none⟩,
  ⟨(some 30), .mv (.t 29), none⟩,
  ⟨(some 31), .mv (.t 4), (some (30, true))⟩,
  ⟨(some 32), .un .not (.t 31), (some (30, true))⟩,
  ⟨(some 33), .pick (.t 30) (.t 32) (.k (.s (.b false))), none⟩,
  ⟨(some 2), .mv (.t 33), none⟩])
  (.ret))
  (.seq (.reg [⟨(some 35), .bin .eql (.t 26) (.k (.s (.i .i64 1))), none⟩,
  ⟨(some 34), .mv (.t 35), none⟩])
  (.cond (.t 34)
  (.seq (.reg [⟨(some 36), .mv (.t 3), none⟩,
  ⟨(some 37), .mv (.t 36), none⟩,
  ⟨(some 38), .mv (.t 4), (some (37, true))⟩,
  ⟨(some 39), .un .not (.t 38), (some (37, true))⟩,
  ⟨(some 40), .pick (.t 37) (.t 39) (.k (.s (.b false))), none⟩,
  ⟨(some 2), .mv (.t 40), none⟩])
  (.ret))
  (.seq (.reg [⟨(some 42), .bin .eql (.t 26) (.k (.s (.i .i64 2))), none⟩,
  ⟨(some 41), .mv (.t 42), none⟩])
  (.cond (.t 41)
  (.seq (.reg [⟨(some 43), .mv (.t 5), none⟩,
  ⟨(some 2), .mv (.t 43), none⟩])
  (.ret))
  (.skip)))))))))
  (.seq (.reg [⟨(some 2), .mv (.k (.s (.b false))), none⟩])
  (.ret))))), [.t 2]⟩
theorem dc73 : compF Try.prog Try.f73 = some df73 := by kernel_rfl
theorem ok73 : FnOk Try.prog 73 := ⟨Try.f73, Try.func73, by kernel_rfl, by kernel_rfl⟩

/-- citadel/objs.place -/
def df74 : DF :=
  ⟨20, .seq (.reg [⟨(some 6), .mv (.k (.s (.i .i64 0))), none⟩,
  ⟨(some 7), .mv (.k (.s (.i .i64 0))), none⟩])
  (.seq (.block 0 (.seq (.reg [⟨(some 9), .mv (.t 0), none⟩,
  ⟨(some 10), .mv (.t 1), none⟩,
  ⟨(some 11), .call 69 [(.t 9), (.t 10), (.k (.s (.i .i64 8)))], none⟩,
  ⟨(some 12), .un .not (.t 11), none⟩,
  ⟨(some 8), .mv (.t 12), none⟩])
  (.cond (.t 8)
  (.seq (.reg [⟨(some 6), .mv (.k (.s (.i .i64 0))), none⟩,
  ⟨(some 7), .mv (.k (.s (.i .i64 20))), none⟩])
  (.ret))
  (.seq (.reg [⟨(some 14), .mv (.t 2), none⟩,
  ⟨(some 15), .call 112 [(.t 14), (.k (.s (.i .i64 7)))], none⟩,
  ⟨(some 16), .un .not (.t 15), none⟩,
  ⟨(some 13), .mv (.t 16), none⟩])
  (.cond (.t 13)
  (.seq (.reg [⟨(some 6), .mv (.k (.s (.i .i64 0))), none⟩,
  ⟨(some 7), .mv (.k (.s (.i .i64 1))), none⟩])
  (.ret))
  (.skip))))))
  (.seq (.reg [⟨(some 17), .mv (.t 1), none⟩,
  ⟨(some 18), .mv (.t 2), none⟩,
  ⟨(some 19), .bin .add (.t 17) (.t 18), none⟩,
  ⟨(some 6), .mv (.t 19), none⟩,
  ⟨(some 7), .mv (.k (.s (.i .i64 0))), none⟩])
  (.ret))), [.t 6, .t 7]⟩
theorem dc74 : compF Try.prog Try.f74 = some df74 := by kernel_rfl
theorem ok74 : FnOk Try.prog 74 := ⟨Try.f74, Try.func74, by kernel_rfl, by kernel_rfl⟩

/-- citadel/walk.Decode -/
def df75 : DF :=
  ⟨36, .seq (.reg [⟨(some 2), .new [.b false, .b false, .i .i64 0, .i .i64 0], none⟩,
  ⟨(some 3), .mv (.k (.s (.i .i64 0))), none⟩])
  (.seq (.reg [⟨(some 7), .mv (.t 0), none⟩,
  ⟨(some 8), .bin .and (.t 7) (.k (.s (.i .u64 1))), none⟩,
  ⟨(some 9), .bin .neq (.t 8) (.k (.s (.i .u64 0))), none⟩,
  ⟨(some 10), .mv (.t 0), none⟩,
  ⟨(some 11), .bin .and (.t 10) (.k (.s (.i .u64 2))), none⟩,
  ⟨(some 12), .bin .neq (.t 11) (.k (.s (.i .u64 0))), none⟩,
  ⟨(some 13), .mv (.t 0), none⟩,
  ⟨(some 14), .bin .shr (.t 13) (.k (.s (.i .u64 2))), none⟩,
  ⟨(some 15), .bin .and (.t 14) (.k (.s (.i .u64 3))), none⟩,
  ⟨(some 16), .conv .i64 (.t 15), none⟩,
  ⟨(some 17), .mv (.t 0), none⟩,
  ⟨(some 18), .bin .shr (.t 17) (.k (.s (.i .u64 16))), none⟩,
  ⟨(some 19), .bin .and (.t 18) (.k (.s (.i .u64 65535))), none⟩,
  ⟨(some 20), .conv .i64 (.t 19), none⟩,
  ⟨(some 21), .build [.b false, .b false, .i .i64 0, .i .i64 0] [(0, 1, (.t 9)), (1, 1, (.t 12)), (3, 1, (.t 16)), (2, 1, (.t 20))], none⟩,
  ⟨(some 4), .new [.b false, .b false, .i .i64 0, .i .i64 0], none⟩,
  ⟨none, .st (.t 4) (.t 21) 4, none⟩])
  (.seq (.seq (.reg [⟨(some 23), .ld (.t 4) (some 4), none⟩,
  ⟨(some 24), .call 81 [(.t 23)], none⟩,
  ⟨(some 22), .mv (.t 24), none⟩,
  ⟨(some 25), .ext (.t 22) 0, none⟩,
  ⟨(some 26), .ext (.t 22) 1, none⟩,
  ⟨(some 5), .mv (.t 25), none⟩,
  ⟨(some 6), .mv (.t 26), none⟩])
  (.seq (.reg [⟨(some 27), .mv (.t 6), none⟩,
  ⟨(some 28), .bin .neq (.t 27) (.k (.s (.i .i64 0))), none⟩,
  ⟨(some 29), .mv (.t 28), none⟩,
  ⟨(some 30), .mv (.t 5), (some (29, false))⟩,
  ⟨(some 31), .mv (.t 0), (some (29, false))⟩,
  ⟨(some 32), .bin .neq (.t 30) (.t 31), (some (29, false))⟩,
  ⟨(some 33), .pick (.t 29) (.k (.s (.b true))) (.t 32), none⟩])
  (.cond (.t 33)
  (.seq (.reg [⟨(some 34), .build [.b false, .b false, .i .i64 0, .i .i64 0] [], none⟩,
  ⟨none, .st (.t 2) (.t 34) 4, none⟩,
  ⟨(some 3), .mv (.k (.s (.i .i64 10))), none⟩])
  (.ret))
  (.skip))))
  (.seq (.reg [⟨(some 35), .ld (.t 4) (some 4), none⟩,
  ⟨none, .st (.t 2) (.t 35) 4, none⟩,
  ⟨(some 3), .mv (.k (.s (.i .i64 0))), none⟩])
  (.ret)))), [.c 2 (some 4), .t 3]⟩
theorem dc75 : compF Try.prog Try.f75 = some df75 := by kernel_rfl
theorem ok75 : FnOk Try.prog 75 := ⟨Try.f75, Try.func75, by kernel_rfl, by kernel_rfl⟩

/-- citadel/objs.rooted -/
def df76 : DF :=
  ⟨18, .seq (.reg [⟨(some 2), .mv (.k (.s (.b false))), none⟩])
  (.seq (.reg [⟨(some 3), .mv (.t 0), none⟩,
  ⟨(some 4), .bin .eql (.t 3) (.k (.s (.i .i64 0))), none⟩,
  ⟨(some 5), .mv (.t 4), none⟩,
  ⟨(some 6), .mv (.t 0), (some (5, false))⟩,
  ⟨(some 7), .bin .geq (.t 6) (.k (.s (.i .i64 1024))), (some (5, false))⟩,
  ⟨(some 8), .mv (.t 7), (some (5, false))⟩,
  ⟨(some 9), .mv (.t 0), (some (8, true))⟩,
  ⟨(some 10), .bin .leq (.t 9) (.k (.s (.i .i64 65528))), (some (8, true))⟩,
  ⟨(some 11), .pick (.t 8) (.t 10) (.k (.s (.b false))), (some (5, false))⟩,
  ⟨(some 12), .mv (.t 11), (some (5, false))⟩,
  ⟨(some 13), .mv (.t 0), (some (12, true))⟩,
  ⟨(some 14), .bin .rem (.t 13) (.k (.s (.i .i64 8))), (some (12, true))⟩,
  ⟨(some 15), .bin .eql (.t 14) (.k (.s (.i .i64 0))), (some (12, true))⟩,
  ⟨(some 16), .pick (.t 12) (.t 15) (.k (.s (.b false))), (some (5, false))⟩,
  ⟨(some 17), .pick (.t 5) (.k (.s (.b true))) (.t 16), none⟩,
  ⟨(some 2), .mv (.t 17), none⟩])
  (.ret)), [.t 2]⟩
theorem dc76 : compF Try.prog Try.f76 = some df76 := by kernel_rfl
theorem ok76 : FnOk Try.prog 76 := ⟨Try.f76, Try.func76, by kernel_rfl, by kernel_rfl⟩

/-- citadel/objs.head -/
def df77 : DF :=
  ⟨90, .seq (.reg [⟨(some 1), .box (.t 0), none⟩,
  ⟨(some 2), .new [.i .u64 0, .i .u64 0, .i .u64 0, .i .u64 0], none⟩,
  ⟨(some 3), .mv (.k (.s (.b false))), none⟩])
  (.seq (.reg [⟨(some 4), .new [.i .u64 0, .i .u64 0, .i .u64 0, .i .u64 0], none⟩])
  (.seq (.reg [⟨(some 5), .new [.b false, .b false, .b false, .b false], none⟩])
  (.seq (.drx (.tk true ⟨(some 7), .fa (.t 1) 0, none⟩
  (.tk true ⟨(some 10), .fa (.t 1) 1, none⟩
  (.tk true ⟨(some 13), .fa (.t 1) 2, none⟩
  (.tk true ⟨(some 16), .fa (.t 1) 3, none⟩
  (.tk true ⟨(some 19), .fa (.t 1) 8, none⟩
  (.tk true ⟨(some 22), .fa (.t 1) 9, none⟩
  (.tk true ⟨(some 25), .fa (.t 1) 12, none⟩
  (.tk true ⟨(some 8), .ld (.t 7) none, none⟩
  (.tk true ⟨(some 9), .build [.i .i64 0, .i .i64 0] [(0, 1, (.k (.s (.i .i64 3)))), (1, 1, (.t 8))], none⟩
  (.tk true ⟨(some 11), .ld (.t 10) none, none⟩
  (.tk true ⟨(some 12), .build [.i .i64 0, .i .i64 0] [(0, 1, (.k (.s (.i .i64 8)))), (1, 1, (.t 11))], none⟩
  (.tk true ⟨(some 14), .ld (.t 13) none, none⟩
  (.tk true ⟨(some 15), .build [.i .i64 0, .i .i64 0] [(0, 1, (.k (.s (.i .i64 3)))), (1, 1, (.t 14))], none⟩
  (.tk true ⟨(some 17), .ld (.t 16) none, none⟩
  (.tk true ⟨(some 18), .call 113 [(.t 17)], none⟩
  (.tk true ⟨(some 20), .ld (.t 19) none, none⟩
  (.tk true ⟨(some 21), .call 113 [(.t 20)], none⟩
  (.tk true ⟨(some 23), .ld (.t 22) none, none⟩
  (.tk true ⟨(some 24), .call 113 [(.t 23)], none⟩
  (.tk true ⟨(some 26), .ld (.t 25) none, none⟩
  (.tk true ⟨(some 27), .build [.i .i64 0, .i .i64 0] [(0, 1, (.k (.s (.i .i64 2)))), (1, 1, (.t 26))], none⟩
  (.tk false ⟨(some 28), .bsl 7 [.i .i64 0, .i .i64 0, .i .i64 0, .i .i64 0, .i .i64 0, .i .i64 0, .i .i64 0, .i .i64 0, .i .i64 0, .i .i64 0, .i .i64 0, .i .i64 0, .i .i64 0, .i .i64 0] [(0, 2, (.t 9)), (2, 2, (.t 12)), (4, 2, (.t 15)), (6, 2, (.t 18)), (8, 2, (.t 21)), (10, 2, (.t 24)), (12, 2, (.t 27))], none⟩
  (.tk false ⟨(some 29), .call 80 [(.t 28)], none⟩
  (.tk true ⟨(some 6), .mv (.t 29), none⟩
  (.tk true ⟨(some 30), .ext (.t 6) 0, none⟩
  (.tk true ⟨(some 31), .ext (.t 6) 1, none⟩
  (.tk true ⟨(some 32), .ia (some 4) 1 (.t 4) (.k (.s (.i .i64 0))), none⟩
  (.tk false ⟨none, .st (.t 32) (.t 30) 1, none⟩
  (.tk true ⟨(some 33), .ia (some 4) 1 (.t 5) (.k (.s (.i .i64 0))), none⟩
  (.tk false ⟨none, .st (.t 33) (.t 31) 1, none⟩
  .done)))))))))))))))))))))))))))))))
  (.seq (.reg [⟨(some 35), .fa (.t 1) 4, none⟩,
  ⟨(some 36), .ld (.t 35) none, none⟩,
  ⟨(some 37), .build [.i .i64 0, .i .i64 0] [(0, 1, (.k (.s (.i .i64 16)))), (1, 1, (.t 36))], none⟩,
  ⟨(some 38), .fa (.t 1) 5, none⟩,
  ⟨(some 39), .ld (.t 38) none, none⟩,
  ⟨(some 40), .build [.i .i64 0, .i .i64 0] [(0, 1, (.k (.s (.i .i64 16)))), (1, 1, (.t 39))], none⟩,
  ⟨(some 41), .fa (.t 1) 6, none⟩,
  ⟨(some 42), .ld (.t 41) none, none⟩,
  ⟨(some 43), .build [.i .i64 0, .i .i64 0] [(0, 1, (.k (.s (.i .i64 16)))), (1, 1, (.t 42))], none⟩,
  ⟨(some 44), .fa (.t 1) 10, none⟩,
  ⟨(some 45), .ld (.t 44) none, none⟩,
  ⟨(some 46), .build [.i .i64 0, .i .i64 0] [(0, 1, (.k (.s (.i .i64 16)))), (1, 1, (.t 45))], none⟩,
  ⟨(some 47), .bsl 4 [.i .i64 0, .i .i64 0, .i .i64 0, .i .i64 0, .i .i64 0, .i .i64 0, .i .i64 0, .i .i64 0] [(0, 2, (.t 37)), (2, 2, (.t 40)), (4, 2, (.t 43)), (6, 2, (.t 46))], none⟩,
  ⟨(some 48), .call 80 [(.t 47)], none⟩,
  ⟨(some 34), .mv (.t 48), none⟩,
  ⟨(some 49), .ext (.t 34) 0, none⟩,
  ⟨(some 50), .ext (.t 34) 1, none⟩,
  ⟨(some 51), .ia (some 4) 1 (.t 4) (.k (.s (.i .i64 1))), none⟩,
  ⟨none, .st (.t 51) (.t 49) 1, none⟩,
  ⟨(some 52), .ia (some 4) 1 (.t 5) (.k (.s (.i .i64 1))), none⟩,
  ⟨none, .st (.t 52) (.t 50) 1, none⟩])
  (.seq (.reg [⟨(some 54), .fa (.t 1) 7, none⟩,
  ⟨(some 55), .ld (.t 54) none, none⟩,
  ⟨(some 56), .build [.i .i64 0, .i .i64 0] [(0, 1, (.k (.s (.i .i64 28)))), (1, 1, (.t 55))], none⟩,
  ⟨(some 57), .bsl 1 [.i .i64 0, .i .i64 0] [(0, 2, (.t 56))], none⟩,
  ⟨(some 58), .call 80 [(.t 57)], none⟩,
  ⟨(some 53), .mv (.t 58), none⟩,
  ⟨(some 59), .ext (.t 53) 0, none⟩,
  ⟨(some 60), .ext (.t 53) 1, none⟩,
  ⟨(some 61), .ia (some 4) 1 (.t 4) (.k (.s (.i .i64 2))), none⟩,
  ⟨none, .st (.t 61) (.t 59) 1, none⟩,
  ⟨(some 62), .ia (some 4) 1 (.t 5) (.k (.s (.i .i64 2))), none⟩,
  ⟨none, .st (.t 62) (.t 60) 1, none⟩])
  (.seq (.reg [⟨(some 64), .fa (.t 1) 11, none⟩,
  ⟨(some 65), .ld (.t 64) none, none⟩,
  ⟨(some 66), .build [.i .i64 0, .i .i64 0] [(0, 1, (.k (.s (.i .i64 32)))), (1, 1, (.t 65))], none⟩,
  ⟨(some 67), .fa (.t 1) 13, none⟩,
  ⟨(some 68), .ld (.t 67) none, none⟩,
  ⟨(some 69), .build [.i .i64 0, .i .i64 0] [(0, 1, (.k (.s (.i .i64 32)))), (1, 1, (.t 68))], none⟩,
  ⟨(some 70), .bsl 2 [.i .i64 0, .i .i64 0, .i .i64 0, .i .i64 0] [(0, 2, (.t 66)), (2, 2, (.t 69))], none⟩,
  ⟨(some 71), .call 80 [(.t 70)], none⟩,
  ⟨(some 63), .mv (.t 71), none⟩,
  ⟨(some 72), .ext (.t 63) 0, none⟩,
  ⟨(some 73), .ext (.t 63) 1, none⟩,
  ⟨(some 74), .ia (some 4) 1 (.t 4) (.k (.s (.i .i64 3))), none⟩,
  ⟨none, .st (.t 74) (.t 72) 1, none⟩,
  ⟨(some 75), .ia (some 4) 1 (.t 5) (.k (.s (.i .i64 3))), none⟩,
  ⟨none, .st (.t 75) (.t 73) 1, none⟩])
  (.seq (.drx (.tk true ⟨(some 78), .build [.b false, .b false, .b false, .b false] [(0, 1, (.k (.s (.b true)))), (1, 1, (.k (.s (.b true)))), (2, 1, (.k (.s (.b true)))), (3, 1, (.k (.s (.b true))))], none⟩
  (.tk true ⟨(some 76), .ld (.t 4) (some 4), none⟩
  (.tk true ⟨(some 77), .ld (.t 5) (some 4), none⟩
  (.tk true ⟨(some 79), .eqa false [false, false, false, false] (.t 77) (.t 78), none⟩
  (.tk true ⟨(some 80), .mv (.t 79), none⟩
  (.tk true ⟨(some 81), .fa (.t 1) 0, (some (80, true))⟩
  (.tk true ⟨(some 82), .ld (.t 81) none, (some (80, true))⟩
  (.tk true ⟨(some 83), .bin .leq (.t 82) (.k (.s (.i .i64 5))), (some (80, true))⟩
  (.tk true ⟨(some 84), .pick (.t 80) (.t 83) (.k (.s (.b false))), none⟩
  (.tk true ⟨(some 85), .mv (.t 84), none⟩
  (.tk true ⟨(some 86), .fa (.t 1) 2, (some (85, true))⟩
  (.both (.tk true ⟨(some 87), .ld (.t 86) none, (some (85, true))⟩
  (.tk true ⟨(some 88), .bin .leq (.t 87) (.k (.s (.i .i64 5))), (some (85, true))⟩
  (.tk true ⟨(some 89), .pick (.t 85) (.t 88) (.k (.s (.b false))), none⟩
  (.tk false ⟨none, .st (.t 2) (.t 76) 4, none⟩
  (.tk true ⟨(some 3), .mv (.t 89), none⟩
  .done)))))
  (.tk false ⟨none, .st (.t 2) (.t 76) 4, none⟩
  (.tk true ⟨(some 87), .ld (.t 86) none, (some (85, true))⟩
  (.tk true ⟨(some 88), .bin .leq (.t 87) (.k (.s (.i .i64 5))), (some (85, true))⟩
  (.tk true ⟨(some 89), .pick (.t 85) (.t 88) (.k (.s (.b false))), none⟩
  (.tk true ⟨(some 3), .mv (.t 89), none⟩
  .done))))))))))))))))))
  (.ret)))))))), [.c 2 (some 4), .t 3]⟩
theorem dc77 : compF Try.prog Try.f77 = some df77 := by kernel_rfl
theorem ok77 : FnOk Try.prog 77 := ⟨Try.f77, Try.func77, by kernel_rfl, by kernel_rfl⟩

/-- (*citadel/mem.Memory).Write -/
def df78 : DF :=
  ⟨11, .seq (.reg [⟨(some 6), .mv (.k (.s (.i .i64 0))), none⟩])
  (.seq (.reg [⟨(some 7), .mv (.t 0), none⟩,
  ⟨(some 8), .mv (.t 1), none⟩,
  ⟨(some 9), .mv (.t 2), none⟩,
  ⟨(some 10), .call 38 [(.t 7), (.t 8), (.k (.s (.i .i64 1))), (.t 9)], none⟩,
  ⟨(some 6), .mv (.t 10), none⟩])
  (.ret)), [.t 6]⟩
theorem dc78 : compF Try.prog Try.f78 = some df78 := by kernel_rfl
theorem ok78 : FnOk Try.prog 78 := ⟨Try.f78, Try.func78, by kernel_rfl, by kernel_rfl⟩

/-- citadel/objs.register -/
def df79 : DF :=
  ⟨21, .seq (.reg [⟨(some 6), .mv (.k (.s (.i .i64 0))), none⟩,
  ⟨(some 7), .mv (.k (.s (.i .i64 0))), none⟩])
  (.seq (.block 0 (.seq (.reg [⟨(some 9), .mv (.t 0), none⟩,
  ⟨(some 10), .mv (.t 1), none⟩,
  ⟨(some 11), .call 69 [(.t 9), (.t 10), (.k (.s (.i .i64 64)))], none⟩,
  ⟨(some 12), .un .not (.t 11), none⟩,
  ⟨(some 8), .mv (.t 12), none⟩])
  (.cond (.t 8)
  (.seq (.reg [⟨(some 6), .mv (.k (.s (.i .i64 0))), none⟩,
  ⟨(some 7), .mv (.k (.s (.i .i64 20))), none⟩])
  (.ret))
  (.seq (.reg [⟨(some 14), .mv (.t 2), none⟩,
  ⟨(some 15), .call 112 [(.t 14), (.k (.s (.i .i64 15)))], none⟩,
  ⟨(some 16), .un .not (.t 15), none⟩,
  ⟨(some 13), .mv (.t 16), none⟩])
  (.cond (.t 13)
  (.seq (.reg [⟨(some 6), .mv (.k (.s (.i .i64 0))), none⟩,
  ⟨(some 7), .mv (.k (.s (.i .i64 1))), none⟩])
  (.ret))
  (.skip))))))
  (.seq (.reg [⟨(some 17), .mv (.t 1), none⟩,
  ⟨(some 18), .bin .add (.t 17) (.k (.s (.i .i64 32))), none⟩,
  ⟨(some 19), .mv (.t 2), none⟩,
  ⟨(some 20), .bin .add (.t 18) (.t 19), none⟩,
  ⟨(some 6), .mv (.t 20), none⟩,
  ⟨(some 7), .mv (.k (.s (.i .i64 0))), none⟩])
  (.ret))), [.t 6, .t 7]⟩
theorem dc79 : compF Try.prog Try.f79 = some df79 := by kernel_rfl
theorem ok79 : FnOk Try.prog 79 := ⟨Try.f79, Try.func79, by kernel_rfl, by kernel_rfl⟩

/-- citadel/objs.pack -/
def df80 : DF :=
  ⟨36, .seq (.reg [⟨(some 2), .mv (.k (.s (.i .u64 0))), none⟩,
  ⟨(some 3), .mv (.k (.s (.b false))), none⟩])
  (.seq (.reg [⟨(some 4), .mv (.k (.s (.ns))), none⟩])
  (.seq (.seq (.reg [⟨(some 9), .mv (.t 0), none⟩,
  ⟨(some 10), .len (.t 9), none⟩,
  ⟨(some 11), .mv (.k (.s (.i .i64 0))), none⟩])
  (.block 0 (.loop (.seq (.reg [⟨(some 12), .bin .lss (.t 11) (.t 10), none⟩])
  (.seq (.cond (.t 12)
  (.skip)
  (.exit 0))
  (.seq (.block 1 (.seq (.reg [⟨(some 13), .ia none 2 (.t 9) (.t 11), none⟩,
  ⟨(some 14), .ld (.t 13) (some 2), none⟩,
  ⟨(some 6), .new [.i .i64 0, .i .i64 0], none⟩,
  ⟨none, .st (.t 6) (.t 14) 2, none⟩])
  (.seq (.seq (.reg [⟨(some 15), .fa (.t 6) 1, none⟩,
  ⟨(some 16), .ld (.t 15) none, none⟩,
  ⟨(some 17), .bin .lss (.t 16) (.k (.s (.i .i64 0))), none⟩])
  (.cond (.t 17)
  (.seq (.reg [⟨(some 2), .mv (.k (.s (.i .u64 0))), none⟩,
  ⟨(some 3), .mv (.k (.s (.b false))), none⟩])
  (.ret))
  (.skip)))
  (.reg [⟨(some 18), .mv (.t 4), none⟩,
  ⟨(some 19), .fa (.t 6) 0, none⟩,
  ⟨(some 20), .ld (.t 19) none, none⟩,
  ⟨(some 21), .fa (.t 6) 1, none⟩,
  ⟨(some 22), .ld (.t 21) none, none⟩,
  ⟨(some 23), .conv .u64 (.t 22), none⟩,
  ⟨(some 24), .build [.i .i64 0, .i .u64 0] [(0, 1, (.t 20)), (1, 1, (.t 23))], none⟩,
  ⟨(some 25), .bsl 1 [.i .i64 0, .i .u64 0] [(0, 2, (.t 24))], none⟩,
  ⟨(some 26), .app 2 16 (.t 18) (.t 25), none⟩,
  ⟨(some 4), .mv (.t 26), none⟩]))))
  (.reg [⟨(some 27), .bin .add (.t 11) (.k (.s (.i .i64 1))), none⟩,
  ⟨(some 11), .mv (.t 27), none⟩])))))))
  (.seq (.reg [⟨(some 29), .mv (.t 4), none⟩,
  ⟨(some 30), .call 114 [(.t 29)], none⟩,
  ⟨(some 28), .mv (.t 30), none⟩,
  ⟨(some 31), .ext (.t 28) 0, none⟩,
  ⟨(some 32), .ext (.t 28) 1, none⟩,
  ⟨(some 7), .mv (.t 31), none⟩,
  ⟨(some 8), .mv (.t 32), none⟩])
  (.seq (.reg [⟨(some 33), .mv (.t 7), none⟩,
  ⟨(some 34), .mv (.t 8), none⟩,
  ⟨(some 35), .bin .eql (.t 34) (.k (.s (.i .i64 0))), none⟩,
  ⟨(some 2), .mv (.t 33), none⟩,
  ⟨(some 3), .mv (.t 35), none⟩])
  (.ret))))), [.t 2, .t 3]⟩
theorem dc80 : compF Try.prog Try.f80 = some df80 := by kernel_rfl
theorem ok80 : FnOk Try.prog 80 := ⟨Try.f80, Try.func80, by kernel_rfl, by kernel_rfl⟩

/-- citadel/walk.Encode -/
def df81 : DF :=
  ⟨26, .seq (.reg [⟨(some 1), .box (.t 0), none⟩,
  ⟨(some 2), .mv (.k (.s (.i .u64 0))), none⟩,
  ⟨(some 3), .mv (.k (.s (.i .i64 0))), none⟩])
  (.seq (.seq (.reg [⟨(some 5), .ld (.t 1) (some 4), none⟩,
  ⟨(some 6), .call 115 [(.t 5)], none⟩,
  ⟨(some 7), .un .not (.t 6), none⟩])
  (.cond (.t 7)
  (.seq (.reg [⟨(some 2), .mv (.k (.s (.i .u64 0))), none⟩,
  ⟨(some 3), .mv (.k (.s (.i .i64 10))), none⟩])
  (.ret))
  (.skip)))
  (.seq (.reg [⟨(some 8), .fa (.t 1) 2, none⟩,
  ⟨(some 9), .ld (.t 8) none, none⟩,
  ⟨(some 10), .conv .u64 (.t 9), none⟩,
  ⟨(some 11), .bin .shl (.t 10) (.k (.s (.i .u64 16))), none⟩,
  ⟨(some 12), .fa (.t 1) 3, none⟩,
  ⟨(some 13), .ld (.t 12) none, none⟩,
  ⟨(some 14), .conv .u64 (.t 13), none⟩,
  ⟨(some 15), .bin .shl (.t 14) (.k (.s (.i .u64 2))), none⟩,
  ⟨(some 16), .bin .or (.t 11) (.t 15), none⟩,
  ⟨(some 4), .mv (.t 16), none⟩])
  (.seq (.seq (.reg [⟨(some 17), .fa (.t 1) 0, none⟩,
  ⟨(some 18), .ld (.t 17) none, none⟩])
  (.cond (.t 18)
  (.reg [⟨(some 19), .mv (.t 4), none⟩,
  ⟨(some 20), .bin .or (.t 19) (.k (.s (.i .u64 1))), none⟩,
  ⟨(some 4), .mv (.t 20), none⟩])
  (.skip)))
  (.seq (.seq (.reg [⟨(some 21), .fa (.t 1) 1, none⟩,
  ⟨(some 22), .ld (.t 21) none, none⟩])
  (.cond (.t 22)
  (.reg [⟨(some 23), .mv (.t 4), none⟩,
  ⟨(some 24), .bin .or (.t 23) (.k (.s (.i .u64 2))), none⟩,
  ⟨(some 4), .mv (.t 24), none⟩])
  (.skip)))
  (.seq (.reg [⟨(some 25), .mv (.t 4), none⟩,
  ⟨(some 2), .mv (.t 25), none⟩,
  ⟨(some 3), .mv (.k (.s (.i .i64 0))), none⟩])
  (.ret)))))), [.t 2, .t 3]⟩
theorem dc81 : compF Try.prog Try.f81 = some df81 := by kernel_rfl
theorem ok81 : FnOk Try.prog 81 := ⟨Try.f81, Try.func81, by kernel_rfl, by kernel_rfl⟩

/-- (*citadel/citadelref02.Memory).Write -/
def df91 : DF :=
  ⟨28, .seq (.reg [⟨(some 6), .mv (.k (.s (.i .i64 0))), none⟩])
  (.seq (.reg [⟨(some 8), .mv (.t 0), none⟩,
  ⟨(some 9), .mv (.t 1), none⟩,
  ⟨(some 10), .call 110 [(.t 8), (.t 9), (.k (.s (.i .i64 1)))], none⟩,
  ⟨(some 7), .mv (.t 10), none⟩])
  (.seq (.seq (.reg [⟨(some 11), .mv (.t 7), none⟩,
  ⟨(some 12), .un .not (.t 11), none⟩])
  (.cond (.t 12)
  (.seq (.reg [⟨(some 6), .mv (.k (.s (.i .i64 20))), none⟩])
  (.ret))
  (.skip)))
  (.seq (.reg [⟨(some 13), .mv (.t 0), none⟩,
  ⟨(some 14), .mv (.t 0), none⟩,
  ⟨(some 15), .nil (.t 14), none⟩,
  ⟨(some 16), .fa (.t 15) 1, none⟩,
  ⟨(some 17), .ld (.t 16) none, none⟩,
  ⟨(some 18), .bin .add (.t 17) (.k (.s (.i .i64 1))), none⟩,
  ⟨(some 19), .nil (.t 13), none⟩,
  ⟨(some 20), .fa (.t 19) 1, none⟩,
  ⟨none, .st (.t 20) (.t 18) 1, none⟩])
  (.seq (.reg [⟨(some 21), .mv (.t 0), none⟩,
  ⟨(some 22), .nil (.t 21), none⟩,
  ⟨(some 23), .fa (.t 22) 0, none⟩,
  ⟨(some 24), .ld (.t 23) none, none⟩,
  ⟨(some 25), .mv (.t 1), none⟩,
  ⟨(some 26), .mv (.t 2), none⟩,
  ⟨(some 27), .ia none 1 (.t 24) (.t 25), none⟩,
  ⟨none, .st (.t 27) (.t 26) 1, none⟩])
  (.seq (.reg [⟨(some 6), .mv (.k (.s (.i .i64 0))), none⟩])
  (.ret)))))), [.t 6]⟩
theorem dc91 : compF Try.prog Try.f91 = some df91 := by kernel_rfl
theorem ok91 : FnOk Try.prog 91 := ⟨Try.f91, Try.func91, by kernel_rfl, by kernel_rfl⟩

/-- citadel/word.Unpack -/
def df98 : DF :=
  ⟨41, .seq (.reg [⟨(some 4), .mv (.k (.s (.ns))), none⟩,
  ⟨(some 5), .mv (.k (.s (.i .i64 0))), none⟩])
  (.seq (.reg [⟨(some 6), .mv (.k (.s (.ns))), none⟩])
  (.seq (.reg [⟨(some 7), .mv (.k (.s (.i .i64 0))), none⟩])
  (.seq (.seq (.reg [⟨(some 12), .mv (.t 1), none⟩,
  ⟨(some 13), .len (.t 12), none⟩,
  ⟨(some 14), .mv (.k (.s (.i .i64 0))), none⟩])
  (.block 0 (.loop (.seq (.reg [⟨(some 15), .bin .lss (.t 14) (.t 13), none⟩])
  (.seq (.cond (.t 15)
  (.skip)
  (.exit 0))
  (.seq (.block 1 (.seq (.reg [⟨(some 16), .ia none 1 (.t 12) (.t 14), none⟩,
  ⟨(some 17), .ld (.t 16) none, none⟩,
  ⟨(some 9), .mv (.t 17), none⟩])
  (.seq (.reg [⟨(some 19), .mv (.t 0), none⟩,
  ⟨(some 20), .mv (.t 7), none⟩,
  ⟨(some 21), .mv (.t 9), none⟩,
  ⟨(some 22), .call 119 [(.t 19), (.t 20), (.t 21)], none⟩,
  ⟨(some 18), .mv (.t 22), none⟩,
  ⟨(some 23), .ext (.t 18) 0, none⟩,
  ⟨(some 24), .ext (.t 18) 1, none⟩,
  ⟨(some 10), .mv (.t 23), none⟩,
  ⟨(some 11), .mv (.t 24), none⟩])
  (.seq (.seq (.reg [⟨(some 25), .mv (.t 11), none⟩,
  ⟨(some 26), .bin .neq (.t 25) (.k (.s (.i .i64 0))), none⟩])
  (.cond (.t 26)
  (.seq (.reg [⟨(some 27), .mv (.t 11), none⟩,
  ⟨(some 4), .mv (.k (.s (.ns))), none⟩,
  ⟨(some 5), .mv (.t 27), none⟩])
  (.ret))
  (.skip)))
  (.seq (.reg [⟨(some 28), .mv (.t 6), none⟩,
  ⟨(some 29), .mv (.t 10), none⟩,
  ⟨(some 30), .bsl 1 [.i .u64 0] [(0, 1, (.t 29))], none⟩,
  ⟨(some 31), .app 1 8 (.t 28) (.t 30), none⟩,
  ⟨(some 6), .mv (.t 31), none⟩])
  (.reg [⟨(some 32), .mv (.t 7), none⟩,
  ⟨(some 33), .mv (.t 9), none⟩,
  ⟨(some 34), .bin .add (.t 32) (.t 33), none⟩,
  ⟨(some 7), .mv (.t 34), none⟩]))))))
  (.reg [⟨(some 35), .bin .add (.t 14) (.k (.s (.i .i64 1))), none⟩,
  ⟨(some 14), .mv (.t 35), none⟩])))))))
  (.seq (.seq (.reg [⟨(some 36), .mv (.t 0), none⟩,
  ⟨(some 37), .mv (.t 7), none⟩,
  ⟨(some 38), .bin .shr (.t 36) (.t 37), none⟩,
  ⟨(some 39), .bin .neq (.t 38) (.k (.s (.i .u64 0))), none⟩])
  (.cond (.t 39)
  (.seq (.reg [⟨(some 4), .mv (.k (.s (.ns))), none⟩,
  ⟨(some 5), .mv (.k (.s (.i .i64 10))), none⟩])
  (.ret))
  (.skip)))
  (.seq (.reg [⟨(some 40), .mv (.t 6), none⟩,
  ⟨(some 4), .mv (.t 40), none⟩,
  ⟨(some 5), .mv (.k (.s (.i .i64 0))), none⟩])
  (.ret)))))), [.t 4, .t 5]⟩
theorem dc98 : compF Try.prog Try.f98 = some df98 := by kernel_rfl
theorem ok98 : FnOk Try.prog 98 := ⟨Try.f98, Try.func98, by kernel_rfl, by kernel_rfl⟩

/-- (*citadel/citadelref02.Memory).Read -/
def df100 : DF :=
  ⟨27, .seq (.reg [⟨(some 4), .mv (.k (.s (.i .u64 0))), none⟩,
  ⟨(some 5), .mv (.k (.s (.i .i64 0))), none⟩])
  (.seq (.reg [⟨(some 7), .mv (.t 0), none⟩,
  ⟨(some 8), .mv (.t 1), none⟩,
  ⟨(some 9), .call 110 [(.t 7), (.t 8), (.k (.s (.i .i64 1)))], none⟩,
  ⟨(some 6), .mv (.t 9), none⟩])
  (.seq (.seq (.reg [⟨(some 10), .mv (.t 6), none⟩,
  ⟨(some 11), .un .not (.t 10), none⟩])
  (.cond (.t 11)
  (.seq (.reg [⟨(some 4), .mv (.k (.s (.i .u64 0))), none⟩,
  ⟨(some 5), .mv (.k (.s (.i .i64 20))), none⟩])
  (.ret))
  (.skip)))
  (.seq (.reg [⟨(some 12), .mv (.t 0), none⟩,
  ⟨(some 13), .mv (.t 0), none⟩,
  ⟨(some 14), .nil (.t 13), none⟩,
  ⟨(some 15), .fa (.t 14) 1, none⟩,
  ⟨(some 16), .ld (.t 15) none, none⟩,
  ⟨(some 17), .bin .add (.t 16) (.k (.s (.i .i64 1))), none⟩,
  ⟨(some 18), .nil (.t 12), none⟩,
  ⟨(some 19), .fa (.t 18) 1, none⟩,
  ⟨none, .st (.t 19) (.t 17) 1, none⟩])
  (.seq (.reg [⟨(some 20), .mv (.t 0), none⟩,
  ⟨(some 21), .nil (.t 20), none⟩,
  ⟨(some 22), .fa (.t 21) 0, none⟩,
  ⟨(some 23), .ld (.t 22) none, none⟩,
  ⟨(some 24), .mv (.t 1), none⟩,
  ⟨(some 25), .ia none 1 (.t 23) (.t 24), none⟩,
  ⟨(some 26), .ld (.t 25) none, none⟩,
  ⟨(some 4), .mv (.t 26), none⟩,
  ⟨(some 5), .mv (.k (.s (.i .i64 0))), none⟩])
  (.ret))))), [.t 4, .t 5]⟩
theorem dc100 : compF Try.prog Try.f100 = some df100 := by kernel_rfl
theorem ok100 : FnOk Try.prog 100 := ⟨Try.f100, Try.func100, by kernel_rfl, by kernel_rfl⟩

/-- citadel/citadelref08.There -/
def df102 : DF :=
  ⟨23, .seq (.reg [⟨(some 6), .mv (.k (.s (.b false))), none⟩])
  (.seq (.reg [⟨(some 8), .mv (.t 0), none⟩,
  ⟨(some 9), .mv (.t 1), none⟩,
  ⟨(some 10), .mv (.t 2), none⟩,
  ⟨(some 11), .call 110 [(.t 8), (.t 9), (.t 10)], none⟩,
  ⟨(some 7), .mv (.t 11), none⟩])
  (.seq (.reg [⟨(some 12), .mv (.t 7), none⟩,
  ⟨(some 13), .mv (.t 12), none⟩,
  ⟨(some 14), .mv (.t 1), (some (13, true))⟩,
  ⟨(some 15), .bin .geq (.t 14) (.k (.s (.i .i64 1024))), (some (13, true))⟩,
  ⟨(some 16), .pick (.t 13) (.t 15) (.k (.s (.b false))), none⟩,
  ⟨(some 17), .mv (.t 16), none⟩,
  ⟨(some 18), .mv (.t 1), (some (17, true))⟩,
  ⟨(some 19), .mv (.t 2), (some (17, true))⟩,
  ⟨(some 20), .bin .rem (.t 18) (.t 19), (some (17, true))⟩,
  ⟨(some 21), .bin .eql (.t 20) (.k (.s (.i .i64 0))), (some (17, true))⟩,
  ⟨(some 22), .pick (.t 17) (.t 21) (.k (.s (.b false))), none⟩,
  ⟨(some 6), .mv (.t 22), none⟩])
  (.ret))), [.t 6]⟩
theorem dc102 : compF Try.prog Try.f102 = some df102 := by kernel_rfl
theorem ok102 : FnOk Try.prog 102 := ⟨Try.f102, Try.func102, by kernel_rfl, by kernel_rfl⟩

/-- citadel/citadelref08.RightQueue -/
def df105 : DF :=
  ⟨22, .seq (.reg [⟨(some 1), .box (.t 0), none⟩,
  ⟨(some 2), .mv (.k (.s (.b false))), none⟩])
  (.seq (.seq (.reg [⟨(some 3), .fa (.t 1) 0, none⟩,
  ⟨(some 4), .ld (.t 3) none, none⟩,
  ⟨(some 5), .bin .eql (.t 4) (.k (.s (.i .i64 0))), none⟩])
  (.cond (.t 5)
  (.seq (.reg [⟨(some 6), .ld (.t 1) (some 3), none⟩,
  ⟨(some 7), .build [.i .i64 0, .i .i64 0, .i .i64 0] [], none⟩,
  ⟨(some 8), .eqa false [true, true, true] (.t 6) (.t 7), none⟩,
  ⟨(some 2), .mv (.t 8), none⟩])
  (.ret))
  (.skip)))
  (.seq (.reg [⟨(some 9), .fa (.t 1) 0, none⟩,
  ⟨(some 10), .ld (.t 9) none, none⟩,
  ⟨(some 11), .call 121 [(.t 10), (.k (.s (.i .i64 1))), (.k (.s (.i .i64 2)))], none⟩,
  ⟨(some 12), .mv (.t 11), none⟩,
  ⟨(some 13), .fa (.t 1) 1, (some (12, true))⟩,
  ⟨(some 14), .ld (.t 13) none, (some (12, true))⟩,
  ⟨(some 15), .call 121 [(.t 14), (.k (.s (.i .i64 1))), (.k (.s (.i .i64 65535)))], (some (12, true))⟩,
  ⟨(some 16), .pick (.t 12) (.t 15) (.k (.s (.b false))), none⟩,
  ⟨(some 17), .mv (.t 16), none⟩,
  ⟨(some 18), .fa (.t 1) 2, (some (17, true))⟩,
  ⟨(some 19), .ld (.t 18) none, (some (17, true))⟩,
  ⟨(some 20), .call 121 [(.t 19), (.k (.s (.i .i64 1))), (.k (.s (.i .i64 65535)))], (some (17, true))⟩,
  ⟨(some 21), .pick (.t 17) (.t 20) (.k (.s (.b false))), none⟩,
  ⟨(some 2), .mv (.t 21), none⟩])
  (.ret))), [.t 2]⟩
theorem dc105 : compF Try.prog Try.f105 = some df105 := by kernel_rfl
theorem ok105 : FnOk Try.prog 105 := ⟨Try.f105, Try.func105, by kernel_rfl, by kernel_rfl⟩

/-- citadel/citadelref08.queued -/
def df106 : DF :=
  ⟨17, .seq (.reg [⟨(some 6), .mv (.k (.s (.i .u64 0))), none⟩])
  (.seq (.reg [⟨(some 7), .mv (.t 0), none⟩,
  ⟨(some 8), .conv .u64 (.t 7), none⟩,
  ⟨(some 9), .mv (.t 1), none⟩,
  ⟨(some 10), .conv .u64 (.t 9), none⟩,
  ⟨(some 11), .bin .shl (.t 10) (.k (.s (.i .u64 2))), none⟩,
  ⟨(some 12), .bin .add (.t 8) (.t 11), none⟩,
  ⟨(some 13), .mv (.t 2), none⟩,
  ⟨(some 14), .conv .u64 (.t 13), none⟩,
  ⟨(some 15), .bin .shl (.t 14) (.k (.s (.i .u64 18))), none⟩,
  ⟨(some 16), .bin .add (.t 12) (.t 15), none⟩,
  ⟨(some 6), .mv (.t 16), none⟩])
  (.ret)), [.t 6]⟩
theorem dc106 : compF Try.prog Try.f106 = some df106 := by kernel_rfl
theorem ok106 : FnOk Try.prog 106 := ⟨Try.f106, Try.func106, by kernel_rfl, by kernel_rfl⟩

/-- citadel/citadelref08.RightSignal -/
def df107 : DF :=
  ⟨55, .seq (.reg [⟨(some 1), .box (.t 0), none⟩,
  ⟨(some 2), .mv (.k (.s (.b false))), none⟩])
  (.seq (.seq (.reg [⟨(some 3), .fa (.t 1) 4, none⟩,
  ⟨(some 4), .ld (.t 3) none, none⟩,
  ⟨(some 5), .call 121 [(.t 4), (.k (.s (.i .i64 0))), (.k (.s (.i .i64 65535)))], none⟩,
  ⟨(some 6), .un .not (.t 5), none⟩,
  ⟨(some 7), .mv (.t 6), none⟩,
  ⟨(some 8), .fa (.t 1) 3, (some (7, false))⟩,
  ⟨(some 9), .ld (.t 8) none, (some (7, false))⟩,
  ⟨(some 10), .call 121 [(.t 9), (.k (.s (.i .i64 0))), (.k (.s (.i .i64 268435455)))], (some (7, false))⟩,
  ⟨(some 11), .un .not (.t 10), (some (7, false))⟩,
  ⟨(some 12), .pick (.t 7) (.k (.s (.b true))) (.t 11), none⟩])
  (.cond (.t 12)
  (.seq (.reg [⟨(some 2), .mv (.k (.s (.b false))), none⟩])
  (.ret))
  (.skip)))
  (.seq (.seq (.reg [⟨(some 13), .fa (.t 1) 0, none⟩,
  ⟨(some 14), .ld (.t 13) none, none⟩])
  (.block 0 (.seq (.reg [⟨(some 16), .bin .eql (.t 14) (.k (.s (.i .i64 0))), none⟩,
  ⟨(some 15), .mv (.t 16), none⟩])
  (.cond (.t 15)
  (.seq (.reg [⟨(some 17), .fa (.t 1) 1, none⟩,
  ⟨(some 18), .ld (.t 17) none, none⟩,
  ⟨(some 19), .bin .eql (.t 18) (.k (.s (.i .i64 0))), none⟩,
  ⟨(some 20), .mv (.t 19), none⟩,
  ⟨(some 21), .fa (.t 1) 2, (some (20, true))⟩,
  ⟨(some 22), .ld (.t 21) none, (some (20, true))⟩,
  ⟨(some 23), .bin .eql (.t 22) (.k (.s (.i .i64 0))), (some (20, true))⟩,
  ⟨(some 24), .pick (.t 20) (.t 23) (.k (.s (.b false))), none⟩,
  ⟨(some 25), .mv (.t 24), none⟩,
  ⟨(some 26), .fa (.t 1) 3, (some (25, true))⟩,
  ⟨(some 27), .ld (.t 26) none, (some (25, true))⟩,
  ⟨(some 28), .bin .eql (.t 27) (.k (.s (.i .i64 0))), (some (25, true))⟩,
  ⟨(some 29), .pick (.t 25) (.t 28) (.k (.s (.b false))), none⟩,
  ⟨(some 2), .mv (.t 29), none⟩])
  (.ret))
  (.seq (.reg [⟨(some 31), .bin .eql (.t 14) (.k (.s (.i .i64 1))), none⟩,
  ⟨(some 30), .mv (.t 31), none⟩])
  (.cond (.t 30)
  (.seq (.reg [⟨(some 32), .fa (.t 1) 1, none⟩,
  ⟨(some 33), .ld (.t 32) none, none⟩,
  ⟨(some 34), .call 121 [(.t 33), (.k (.s (.i .i64 1))), (.k (.s (.i .i64 65535)))], none⟩,
  ⟨(some 35), .mv (.t 34), none⟩,
  ⟨(some 36), .fa (.t 1) 2, (some (35, true))⟩,
  ⟨(some 37), .ld (.t 36) none, (some (35, true))⟩,
  ⟨(some 38), .call 121 [(.t 37), (.k (.s (.i .i64 1))), (.k (.s (.i .i64 65535)))], (some (35, true))⟩,
  ⟨(some 39), .pick (.t 35) (.t 38) (.k (.s (.b false))), none⟩,
  ⟨(some 40), .mv (.t 39), none⟩,
  ⟨(some 41), .fa (.t 1) 3, (some (40, true))⟩,
  ⟨(some 42), .ld (.t 41) none, (some (40, true))⟩,
  ⟨(some 43), .bin .eql (.t 42) (.k (.s (.i .i64 0))), (some (40, true))⟩,
  ⟨(some 44), .pick (.t 40) (.t 43) (.k (.s (.b false))), none⟩,
  ⟨(some 2), .mv (.t 44), none⟩])
  (.ret))
  (.seq (.reg [⟨(some 46), .bin .eql (.t 14) (.k (.s (.i .i64 2))), none⟩,
  ⟨(some 45), .mv (.t 46), none⟩])
  (.cond (.t 45)
  (.seq (.reg [⟨(some 47), .fa (.t 1) 1, none⟩,
  ⟨(some 48), .ld (.t 47) none, none⟩,
  ⟨(some 49), .bin .eql (.t 48) (.k (.s (.i .i64 0))), none⟩,
  ⟨(some 50), .mv (.t 49), none⟩,
  ⟨(some 51), .fa (.t 1) 2, (some (50, true))⟩,
  ⟨(some 52), .ld (.t 51) none, (some (50, true))⟩,
  ⟨(some 53), .bin .eql (.t 52) (.k (.s (.i .i64 0))), (some (50, true))⟩,
  ⟨(some 54), .pick (.t 50) (.t 53) (.k (.s (.b false))), none⟩,
  ⟨(some 2), .mv (.t 54), none⟩])
  (.ret))
  (.skip)))))))))
  (.seq (.reg [⟨(some 2), .mv (.k (.s (.b false))), none⟩])
  (.ret)))), [.t 2]⟩
theorem dc107 : compF Try.prog Try.f107 = some df107 := by kernel_rfl
theorem ok107 : FnOk Try.prog 107 := ⟨Try.f107, Try.func107, by kernel_rfl, by kernel_rfl⟩

/-- (*citadel/citadelref02.Memory).There -/
def df110 : DF :=
  ⟨33, .seq (.reg [⟨(some 6), .mv (.k (.s (.b false))), none⟩])
  (.seq (.reg [⟨(some 7), .mv (.t 1), none⟩,
  ⟨(some 8), .bin .geq (.t 7) (.k (.s (.i .i64 0))), none⟩,
  ⟨(some 9), .mv (.t 8), none⟩,
  ⟨(some 10), .mv (.t 2), (some (9, true))⟩,
  ⟨(some 11), .bin .geq (.t 10) (.k (.s (.i .i64 0))), (some (9, true))⟩,
  ⟨(some 12), .pick (.t 9) (.t 11) (.k (.s (.b false))), none⟩,
  ⟨(some 13), .mv (.t 12), none⟩,
  ⟨(some 14), .mv (.t 1), (some (13, true))⟩,
  ⟨(some 15), .mv (.t 0), (some (13, true))⟩,
  ⟨(some 16), .nil (.t 15), (some (13, true))⟩,
  ⟨(some 17), .fa (.t 16) 0, (some (13, true))⟩,
  ⟨(some 18), .ld (.t 17) none, (some (13, true))⟩,
  ⟨(some 19), .len (.t 18), (some (13, true))⟩,
  ⟨(some 20), .bin .leq (.t 14) (.t 19), (some (13, true))⟩,
  ⟨(some 21), .pick (.t 13) (.t 20) (.k (.s (.b false))), none⟩,
  ⟨(some 22), .mv (.t 21), none⟩,
  ⟨(some 23), .mv (.t 2), (some (22, true))⟩,
  ⟨(some 24), .mv (.t 0), (some (22, true))⟩,
  ⟨(some 25), .nil (.t 24), (some (22, true))⟩,
  ⟨(some 26), .fa (.t 25) 0, (some (22, true))⟩,
  ⟨(some 27), .ld (.t 26) none, (some (22, true))⟩,
  ⟨(some 28), .len (.t 27), (some (22, true))⟩,
  ⟨(some 29), .mv (.t 1), (some (22, true))⟩,
  ⟨(some 30), .bin .sub (.t 28) (.t 29), (some (22, true))⟩,
  ⟨(some 31), .bin .leq (.t 23) (.t 30), (some (22, true))⟩,
  ⟨(some 32), .pick (.t 22) (.t 31) (.k (.s (.b false))), none⟩,
  ⟨(some 6), .mv (.t 32), none⟩])
  (.ret)), [.t 6]⟩
theorem dc110 : compF Try.prog Try.f110 = some df110 := by kernel_rfl
theorem ok110 : FnOk Try.prog 110 := ⟨Try.f110, Try.func110, by kernel_rfl, by kernel_rfl⟩

/-- (*citadel/mem.Memory).Words -/
def df111 : DF :=
  ⟨8, .seq (.reg [⟨(some 2), .mv (.k (.s (.i .i64 0))), none⟩])
  (.seq (.reg [⟨(some 3), .mv (.t 0), none⟩,
  ⟨(some 4), .nil (.t 3), none⟩,
  ⟨(some 5), .fa (.t 4) 0, none⟩,
  ⟨(some 6), .ld (.t 5) none, none⟩,
  ⟨(some 7), .len (.t 6), none⟩,
  ⟨(some 2), .mv (.t 7), none⟩])
  (.ret)), [.t 2]⟩
theorem dc111 : compF Try.prog Try.f111 = some df111 := by kernel_rfl
theorem ok111 : FnOk Try.prog 111 := ⟨Try.f111, Try.func111, by kernel_rfl, by kernel_rfl⟩

/-- citadel/objs.in -/
def df112 : DF :=
  ⟨12, .seq (.reg [⟨(some 4), .mv (.k (.s (.b false))), none⟩])
  (.seq (.reg [⟨(some 5), .mv (.t 0), none⟩,
  ⟨(some 6), .bin .geq (.t 5) (.k (.s (.i .i64 0))), none⟩,
  ⟨(some 7), .mv (.t 6), none⟩,
  ⟨(some 8), .mv (.t 0), (some (7, true))⟩,
  ⟨(some 9), .mv (.t 1), (some (7, true))⟩,
  ⟨(some 10), .bin .leq (.t 8) (.t 9), (some (7, true))⟩,
  ⟨(some 11), .pick (.t 7) (.t 10) (.k (.s (.b false))), none⟩,
  ⟨(some 4), .mv (.t 11), none⟩])
  (.ret)), [.t 4]⟩
theorem dc112 : compF Try.prog Try.f112 = some df112 := by kernel_rfl
theorem ok112 : FnOk Try.prog 112 := ⟨Try.f112, Try.func112, by kernel_rfl, by kernel_rfl⟩

/-- citadel/objs.flag -/
def df113 : DF :=
  ⟨6, .seq (.reg [⟨(some 2), .new [.i .i64 0, .i .i64 0], none⟩])
  (.seq (.seq (.reg [⟨(some 3), .mv (.t 0), none⟩])
  (.cond (.t 3)
  (.seq (.reg [⟨(some 4), .build [.i .i64 0, .i .i64 0] [(0, 1, (.k (.s (.i .i64 1)))), (1, 1, (.k (.s (.i .i64 1))))], none⟩,
  ⟨none, .st (.t 2) (.t 4) 2, none⟩])
  (.ret))
  (.skip)))
  (.seq (.reg [⟨(some 5), .build [.i .i64 0, .i .i64 0] [(0, 1, (.k (.s (.i .i64 1)))), (1, 1, (.k (.s (.i .i64 0))))], none⟩,
  ⟨none, .st (.t 2) (.t 5) 2, none⟩])
  (.ret))), [.c 2 (some 2)]⟩
theorem dc113 : compF Try.prog Try.f113 = some df113 := by kernel_rfl
theorem ok113 : FnOk Try.prog 113 := ⟨Try.f113, Try.func113, by kernel_rfl, by kernel_rfl⟩

/-- citadel/word.Pack -/
def df114 : DF :=
  ⟨34, .seq (.reg [⟨(some 2), .mv (.k (.s (.i .u64 0))), none⟩,
  ⟨(some 3), .mv (.k (.s (.i .i64 0))), none⟩])
  (.seq (.reg [⟨(some 4), .mv (.k (.s (.i .u64 0))), none⟩,
  ⟨(some 5), .mv (.k (.s (.i .i64 0))), none⟩])
  (.seq (.seq (.reg [⟨(some 9), .mv (.t 0), none⟩,
  ⟨(some 10), .len (.t 9), none⟩,
  ⟨(some 11), .mv (.k (.s (.i .i64 0))), none⟩])
  (.block 0 (.loop (.seq (.reg [⟨(some 12), .bin .lss (.t 11) (.t 10), none⟩])
  (.seq (.cond (.t 12)
  (.skip)
  (.exit 0))
  (.seq (.block 1 (.seq (.reg [⟨(some 13), .ia none 2 (.t 9) (.t 11), none⟩,
  ⟨(some 14), .ld (.t 13) (some 2), none⟩,
  ⟨(some 7), .new [.i .i64 0, .i .u64 0], none⟩,
  ⟨none, .st (.t 7) (.t 14) 2, none⟩])
  (.seq (.reg [⟨(some 8), .mv (.k (.s (.i .i64 0))), none⟩])
  (.seq (.seq (.reg [⟨(some 16), .mv (.t 4), none⟩,
  ⟨(some 17), .mv (.t 5), none⟩,
  ⟨(some 18), .fa (.t 7) 0, none⟩,
  ⟨(some 19), .ld (.t 18) none, none⟩,
  ⟨(some 20), .fa (.t 7) 1, none⟩,
  ⟨(some 21), .ld (.t 20) none, none⟩,
  ⟨(some 22), .call 124 [(.t 16), (.t 17), (.t 19), (.t 21)], none⟩,
  ⟨(some 15), .mv (.t 22), none⟩,
  ⟨(some 23), .ext (.t 15) 0, none⟩,
  ⟨(some 24), .ext (.t 15) 1, none⟩,
  ⟨(some 4), .mv (.t 23), none⟩,
  ⟨(some 8), .mv (.t 24), none⟩])
  (.seq (.reg [⟨(some 25), .mv (.t 8), none⟩,
  ⟨(some 26), .bin .neq (.t 25) (.k (.s (.i .i64 0))), none⟩])
  (.cond (.t 26)
  (.seq (.reg [⟨(some 27), .mv (.t 8), none⟩,
  ⟨(some 2), .mv (.k (.s (.i .u64 0))), none⟩,
  ⟨(some 3), .mv (.t 27), none⟩])
  (.ret))
  (.skip))))
  (.reg [⟨(some 28), .mv (.t 5), none⟩,
  ⟨(some 29), .fa (.t 7) 0, none⟩,
  ⟨(some 30), .ld (.t 29) none, none⟩,
  ⟨(some 31), .bin .add (.t 28) (.t 30), none⟩,
  ⟨(some 5), .mv (.t 31), none⟩])))))
  (.reg [⟨(some 32), .bin .add (.t 11) (.k (.s (.i .i64 1))), none⟩,
  ⟨(some 11), .mv (.t 32), none⟩])))))))
  (.seq (.reg [⟨(some 33), .mv (.t 4), none⟩,
  ⟨(some 2), .mv (.t 33), none⟩,
  ⟨(some 3), .mv (.k (.s (.i .i64 0))), none⟩])
  (.ret)))), [.t 2, .t 3]⟩
theorem dc114 : compF Try.prog Try.f114 = some df114 := by kernel_rfl
theorem ok114 : FnOk Try.prog 114 := ⟨Try.f114, Try.func114, by kernel_rfl, by kernel_rfl⟩

/-- citadel/walk.may -/
def df115 : DF :=
  ⟨29, .seq (.reg [⟨(some 1), .box (.t 0), none⟩,
  ⟨(some 2), .mv (.k (.s (.b false))), none⟩])
  (.seq (.block 0 (.seq (.reg [⟨(some 4), .fa (.t 1) 0, none⟩,
  ⟨(some 5), .ld (.t 4) none, none⟩,
  ⟨(some 6), .un .not (.t 5), none⟩,
  ⟨(some 3), .mv (.t 6), none⟩])
  (.cond (.t 3)
  (.seq (.reg [⟨(some 7), .ld (.t 1) (some 4), none⟩,
  ⟨(some 8), .build [.b false, .b false, .i .i64 0, .i .i64 0] [], none⟩,
  ⟨(some 9), .eqa false [false, false, true, true] (.t 7) (.t 8), none⟩,
  ⟨(some 2), .mv (.t 9), none⟩])
  (.ret))
  (.seq (.reg [⟨(some 11), .fa (.t 1) 1, none⟩,
  ⟨(some 12), .ld (.t 11) none, none⟩,
  ⟨(some 10), .mv (.t 12), none⟩])
  (.cond (.t 10)
  (.seq (.reg [⟨(some 13), .fa (.t 1) 2, none⟩,
  ⟨(some 14), .ld (.t 13) none, none⟩,
  ⟨(some 15), .call 125 [(.t 14), (.k (.s (.i .i64 16))), (.k (.s (.i .i64 65520))), (.k (.s (.i .i64 16)))], none⟩,
  ⟨(some 16), .mv (.t 15), none⟩,
  ⟨(some 17), .fa (.t 1) 3, (some (16, true))⟩,
  ⟨(some 18), .ld (.t 17) none, (some (16, true))⟩,
  ⟨(some 19), .call 125 [(.t 18), (.k (.s (.i .i64 0))), (.k (.s (.i .i64 3))), (.k (.s (.i .i64 1)))], (some (16, true))⟩,
  ⟨(some 20), .pick (.t 16) (.t 19) (.k (.s (.b false))), none⟩,
  ⟨(some 2), .mv (.t 20), none⟩])
  (.ret))
  (.skip))))))
  (.seq (.reg [⟨(some 21), .fa (.t 1) 2, none⟩,
  ⟨(some 22), .ld (.t 21) none, none⟩,
  ⟨(some 23), .call 125 [(.t 22), (.k (.s (.i .i64 8))), (.k (.s (.i .i64 65528))), (.k (.s (.i .i64 8)))], none⟩,
  ⟨(some 24), .mv (.t 23), none⟩,
  ⟨(some 25), .fa (.t 1) 3, (some (24, true))⟩,
  ⟨(some 26), .ld (.t 25) none, (some (24, true))⟩,
  ⟨(some 27), .bin .eql (.t 26) (.k (.s (.i .i64 0))), (some (24, true))⟩,
  ⟨(some 28), .pick (.t 24) (.t 27) (.k (.s (.b false))), none⟩,
  ⟨(some 2), .mv (.t 28), none⟩])
  (.ret))), [.t 2]⟩
theorem dc115 : compF Try.prog Try.f115 = some df115 := by kernel_rfl
theorem ok115 : FnOk Try.prog 115 := ⟨Try.f115, Try.func115, by kernel_rfl, by kernel_rfl⟩

/-- citadel/word.Get -/
def df119 : DF :=
  ⟨23, .seq (.reg [⟨(some 6), .mv (.k (.s (.i .u64 0))), none⟩,
  ⟨(some 7), .mv (.k (.s (.i .i64 0))), none⟩])
  (.seq (.reg [⟨(some 11), .mv (.t 1), none⟩,
  ⟨(some 12), .mv (.t 2), none⟩,
  ⟨(some 13), .call 126 [(.t 11), (.t 12)], none⟩,
  ⟨(some 10), .mv (.t 13), none⟩,
  ⟨(some 14), .ext (.t 10) 0, none⟩,
  ⟨(some 15), .ext (.t 10) 1, none⟩,
  ⟨(some 8), .mv (.t 14), none⟩,
  ⟨(some 9), .mv (.t 15), none⟩])
  (.seq (.seq (.reg [⟨(some 16), .mv (.t 9), none⟩,
  ⟨(some 17), .un .not (.t 16), none⟩])
  (.cond (.t 17)
  (.seq (.reg [⟨(some 6), .mv (.k (.s (.i .u64 0))), none⟩,
  ⟨(some 7), .mv (.k (.s (.i .i64 10))), none⟩])
  (.ret))
  (.skip)))
  (.seq (.reg [⟨(some 18), .mv (.t 0), none⟩,
  ⟨(some 19), .mv (.t 8), none⟩,
  ⟨(some 20), .bin .and (.t 18) (.t 19), none⟩,
  ⟨(some 21), .mv (.t 1), none⟩,
  ⟨(some 22), .bin .shr (.t 20) (.t 21), none⟩,
  ⟨(some 6), .mv (.t 22), none⟩,
  ⟨(some 7), .mv (.k (.s (.i .i64 0))), none⟩])
  (.ret)))), [.t 6, .t 7]⟩
theorem dc119 : compF Try.prog Try.f119 = some df119 := by kernel_rfl
theorem ok119 : FnOk Try.prog 119 := ⟨Try.f119, Try.func119, by kernel_rfl, by kernel_rfl⟩

/-- citadel/citadelref08.in -/
def df121 : DF :=
  ⟨15, .seq (.reg [⟨(some 6), .mv (.k (.s (.b false))), none⟩])
  (.seq (.reg [⟨(some 7), .mv (.t 0), none⟩,
  ⟨(some 8), .mv (.t 1), none⟩,
  ⟨(some 9), .bin .geq (.t 7) (.t 8), none⟩,
  ⟨(some 10), .mv (.t 9), none⟩,
  ⟨(some 11), .mv (.t 0), (some (10, true))⟩,
  ⟨(some 12), .mv (.t 2), (some (10, true))⟩,
  ⟨(some 13), .bin .leq (.t 11) (.t 12), (some (10, true))⟩,
  ⟨(some 14), .pick (.t 10) (.t 13) (.k (.s (.b false))), none⟩,
  ⟨(some 6), .mv (.t 14), none⟩])
  (.ret)), [.t 6]⟩
theorem dc121 : compF Try.prog Try.f121 = some df121 := by kernel_rfl
theorem ok121 : FnOk Try.prog 121 := ⟨Try.f121, Try.func121, by kernel_rfl, by kernel_rfl⟩

/-- citadel/word.Set -/
def df124 : DF :=
  ⟨44, .seq (.reg [⟨(some 8), .mv (.k (.s (.i .u64 0))), none⟩,
  ⟨(some 9), .mv (.k (.s (.i .i64 0))), none⟩])
  (.seq (.reg [⟨(some 13), .mv (.t 1), none⟩,
  ⟨(some 14), .mv (.t 2), none⟩,
  ⟨(some 15), .call 126 [(.t 13), (.t 14)], none⟩,
  ⟨(some 12), .mv (.t 15), none⟩,
  ⟨(some 16), .ext (.t 12) 0, none⟩,
  ⟨(some 17), .ext (.t 12) 1, none⟩,
  ⟨(some 10), .mv (.t 16), none⟩,
  ⟨(some 11), .mv (.t 17), none⟩])
  (.seq (.seq (.reg [⟨(some 18), .mv (.t 11), none⟩,
  ⟨(some 19), .un .not (.t 18), none⟩,
  ⟨(some 20), .mv (.t 19), none⟩,
  ⟨(some 21), .mv (.t 3), (some (20, false))⟩,
  ⟨(some 22), .mv (.t 1), (some (20, false))⟩,
  ⟨(some 23), .bin .shl (.t 21) (.t 22), (some (20, false))⟩,
  ⟨(some 24), .mv (.t 1), (some (20, false))⟩,
  ⟨(some 25), .bin .shr (.t 23) (.t 24), (some (20, false))⟩,
  ⟨(some 26), .mv (.t 3), (some (20, false))⟩,
  ⟨(some 27), .bin .neq (.t 25) (.t 26), (some (20, false))⟩,
  ⟨(some 28), .pick (.t 20) (.k (.s (.b true))) (.t 27), none⟩,
  ⟨(some 29), .mv (.t 28), none⟩,
  ⟨(some 30), .mv (.t 3), (some (29, false))⟩,
  ⟨(some 31), .mv (.t 1), (some (29, false))⟩,
  ⟨(some 32), .bin .shl (.t 30) (.t 31), (some (29, false))⟩,
  ⟨(some 33), .mv (.t 10), (some (29, false))⟩,
  ⟨(some 34), .bin .andNot (.t 32) (.t 33), (some (29, false))⟩,
  ⟨(some 35), .bin .neq (.t 34) (.k (.s (.i .u64 0))), (some (29, false))⟩,
  ⟨(some 36), .pick (.t 29) (.k (.s (.b true))) (.t 35), none⟩])
  (.cond (.t 36)
  (.seq (.reg [⟨(some 8), .mv (.k (.s (.i .u64 0))), none⟩,
  ⟨(some 9), .mv (.k (.s (.i .i64 10))), none⟩])
  (.ret))
  (.skip)))
  (.seq (.reg [⟨(some 37), .mv (.t 0), none⟩,
  ⟨(some 38), .mv (.t 10), none⟩,
  ⟨(some 39), .bin .andNot (.t 37) (.t 38), none⟩,
  ⟨(some 40), .mv (.t 3), none⟩,
  ⟨(some 41), .mv (.t 1), none⟩,
  ⟨(some 42), .bin .shl (.t 40) (.t 41), none⟩,
  ⟨(some 43), .bin .or (.t 39) (.t 42), none⟩,
  ⟨(some 8), .mv (.t 43), none⟩,
  ⟨(some 9), .mv (.k (.s (.i .i64 0))), none⟩])
  (.ret)))), [.t 8, .t 9]⟩
theorem dc124 : compF Try.prog Try.f124 = some df124 := by kernel_rfl
theorem ok124 : FnOk Try.prog 124 := ⟨Try.f124, Try.func124, by kernel_rfl, by kernel_rfl⟩

/-- citadel/walk.in -/
def df125 : DF :=
  ⟨23, .seq (.reg [⟨(some 8), .mv (.k (.s (.b false))), none⟩])
  (.seq (.reg [⟨(some 9), .mv (.t 0), none⟩,
  ⟨(some 10), .mv (.t 1), none⟩,
  ⟨(some 11), .bin .geq (.t 9) (.t 10), none⟩,
  ⟨(some 12), .mv (.t 11), none⟩,
  ⟨(some 13), .mv (.t 0), (some (12, true))⟩,
  ⟨(some 14), .mv (.t 2), (some (12, true))⟩,
  ⟨(some 15), .bin .leq (.t 13) (.t 14), (some (12, true))⟩,
  ⟨(some 16), .pick (.t 12) (.t 15) (.k (.s (.b false))), none⟩,
  ⟨(some 17), .mv (.t 16), none⟩,
  ⟨(some 18), .mv (.t 0), (some (17, true))⟩,
  ⟨(some 19), .mv (.t 3), (some (17, true))⟩,
  ⟨(some 20), .bin .rem (.t 18) (.t 19), (some (17, true))⟩,
  ⟨(some 21), .bin .eql (.t 20) (.k (.s (.i .i64 0))), (some (17, true))⟩,
  ⟨(some 22), .pick (.t 17) (.t 21) (.k (.s (.b false))), none⟩,
  ⟨(some 8), .mv (.t 22), none⟩])
  (.ret)), [.t 8]⟩
theorem dc125 : compF Try.prog Try.f125 = some df125 := by kernel_rfl
theorem ok125 : FnOk Try.prog 125 := ⟨Try.f125, Try.func125, by kernel_rfl, by kernel_rfl⟩

/-- citadel/word.mask -/
def df126 : DF :=
  ⟨27, .seq (.reg [⟨(some 4), .mv (.k (.s (.i .u64 0))), none⟩,
  ⟨(some 5), .mv (.k (.s (.b false))), none⟩])
  (.seq (.seq (.reg [⟨(some 6), .mv (.t 0), none⟩,
  ⟨(some 7), .bin .lss (.t 6) (.k (.s (.i .i64 0))), none⟩,
  ⟨(some 8), .mv (.t 7), none⟩,
  ⟨(some 9), .mv (.t 0), (some (8, false))⟩,
  ⟨(some 10), .bin .gtr (.t 9) (.k (.s (.i .i64 63))), (some (8, false))⟩,
  ⟨(some 11), .pick (.t 8) (.k (.s (.b true))) (.t 10), none⟩,
  ⟨(some 12), .mv (.t 11), none⟩,
  ⟨(some 13), .mv (.t 1), (some (12, false))⟩,
  ⟨(some 14), .bin .lss (.t 13) (.k (.s (.i .i64 1))), (some (12, false))⟩,
  ⟨(some 15), .pick (.t 12) (.k (.s (.b true))) (.t 14), none⟩,
  ⟨(some 16), .mv (.t 15), none⟩,
  ⟨(some 17), .mv (.t 1), (some (16, false))⟩,
  ⟨(some 18), .mv (.t 0), (some (16, false))⟩,
  ⟨(some 19), .bin .sub (.k (.s (.i .i64 64))) (.t 18), (some (16, false))⟩,
  ⟨(some 20), .bin .gtr (.t 17) (.t 19), (some (16, false))⟩,
  ⟨(some 21), .pick (.t 16) (.k (.s (.b true))) (.t 20), none⟩])
  (.cond (.t 21)
  (.seq (.reg [⟨(some 4), .mv (.k (.s (.i .u64 0))), none⟩,
  ⟨(some 5), .mv (.k (.s (.b false))), none⟩])
  (.ret))
  (.skip)))
  (.seq (.reg [⟨(some 22), .mv (.t 1), none⟩,
  ⟨(some 23), .bin .sub (.k (.s (.i .i64 64))) (.t 22), none⟩,
  ⟨(some 24), .bin .shr (.k (.s (.i .u64 18446744073709551615))) (.t 23), none⟩,
  ⟨(some 25), .mv (.t 0), none⟩,
  ⟨(some 26), .bin .shl (.t 24) (.t 25), none⟩,
  ⟨(some 4), .mv (.t 26), none⟩,
  ⟨(some 5), .mv (.k (.s (.b true))), none⟩])
  (.ret))), [.t 4, .t 5]⟩
theorem dc126 : compF Try.prog Try.f126 = some df126 := by kernel_rfl
theorem ok126 : FnOk Try.prog 126 := ⟨Try.f126, Try.func126, by kernel_rfl, by kernel_rfl⟩

theorem mixed : Try.prog.follows .mixedOrders = true := by kernel_rfl
end Go.Proofs.Ytdlloccodmdnnaa

