/- The small code of the functions of this seat, printed by a program, and that the model's code compiles to it. -/
import Derived.Test.YtmchhjjdlcmhoaaDoorProg
import Derived.Test.YtmchhjjdlcmhoaaDoorZ8
import Derived.Lib.TrailingZeros
import Derived.KernelRfl
/- The small code of the functions of this seat, printed by a program, and that the model's code compiles to it. -/
namespace Go.Proofs.YtmchhjjdlcmhoaaDoor
open Go.D
set_option linter.all false
set_option maxRecDepth 100000


/-- The cells of math/bits.deBruijn64tab. -/
instance tabs : Tabs := ⟨(List.range 64).map fun j => (0, j, .int .u8 ((Go.Lib.deBruijn64tab.getD j 0 : Nat) : Int))⟩

/-- citadel/citadellaw01.WordFields -/
def df3 : DF :=
  ⟨76, .seq (.reg [⟨(some 1), .box (.t 0), none⟩,
  ⟨(some 2), .mv (.k (.s (.b false))), none⟩])
  (.seq (.reg [⟨(some 16), .call 8 [], none⟩,
  ⟨(some 3), .mv (.t 16), none⟩])
  (.seq (.reg [⟨(some 17), .fa (.t 1) 0, none⟩,
  ⟨(some 18), .ld (.t 17) none, none⟩,
  ⟨(some 4), .mv (.t 18), none⟩])
  (.seq (.reg [⟨(some 19), .fa (.t 1) 1, none⟩,
  ⟨(some 20), .ld (.t 19) none, none⟩,
  ⟨(some 5), .mv (.t 20), none⟩])
  (.seq (.reg [⟨(some 21), .fa (.t 1) 2, none⟩,
  ⟨(some 22), .ld (.t 21) none, none⟩,
  ⟨(some 6), .mv (.t 22), none⟩])
  (.seq (.reg [⟨(some 23), .fa (.t 1) 3, none⟩,
  ⟨(some 24), .ld (.t 23) none, none⟩,
  ⟨(some 7), .mv (.t 24), none⟩])
  (.seq (.reg [⟨(some 26), .mv (.t 4), none⟩,
  ⟨(some 27), .mv (.t 5), none⟩,
  ⟨(some 28), .mv (.t 6), none⟩,
  ⟨(some 29), .call 9 [(.t 26), (.t 27), (.t 28)], none⟩,
  ⟨(some 25), .mv (.t 29), none⟩,
  ⟨(some 30), .ext (.t 25) 0, none⟩,
  ⟨(some 31), .ext (.t 25) 1, none⟩,
  ⟨(some 8), .mv (.t 30), none⟩,
  ⟨(some 9), .mv (.t 31), none⟩])
  (.seq (.reg [⟨(some 33), .mv (.t 4), none⟩,
  ⟨(some 34), .mv (.t 5), none⟩,
  ⟨(some 35), .mv (.t 6), none⟩,
  ⟨(some 36), .call 10 [(.t 33), (.t 34), (.t 35)], none⟩,
  ⟨(some 32), .mv (.t 36), none⟩,
  ⟨(some 37), .ext (.t 32) 0, none⟩,
  ⟨(some 38), .ext (.t 32) 1, none⟩,
  ⟨(some 10), .mv (.t 37), none⟩,
  ⟨(some 11), .mv (.t 38), none⟩])
  (.seq (.reg [⟨(some 40), .mv (.t 4), none⟩,
  ⟨(some 41), .mv (.t 5), none⟩,
  ⟨(some 42), .mv (.t 6), none⟩,
  ⟨(some 43), .mv (.t 7), none⟩,
  ⟨(some 44), .call 11 [(.t 40), (.t 41), (.t 42), (.t 43)], none⟩,
  ⟨(some 39), .mv (.t 44), none⟩,
  ⟨(some 45), .ext (.t 39) 0, none⟩,
  ⟨(some 46), .ext (.t 39) 1, none⟩,
  ⟨(some 12), .mv (.t 45), none⟩,
  ⟨(some 13), .mv (.t 46), none⟩])
  (.seq (.reg [⟨(some 48), .mv (.t 4), none⟩,
  ⟨(some 49), .mv (.t 5), none⟩,
  ⟨(some 50), .mv (.t 6), none⟩,
  ⟨(some 51), .mv (.t 7), none⟩,
  ⟨(some 52), .call 12 [(.t 48), (.t 49), (.t 50), (.t 51)], none⟩,
  ⟨(some 47), .mv (.t 52), none⟩,
  ⟨(some 53), .ext (.t 47) 0, none⟩,
  ⟨(some 54), .ext (.t 47) 1, none⟩,
  ⟨(some 14), .mv (.t 53), none⟩,
  ⟨(some 15), .mv (.t 54), none⟩])
  (.seq (.reg [⟨(some 55), .mv (.t 3), none⟩,
  ⟨(some 56), .mv (.t 55), none⟩,
  ⟨(some 57), .mv (.t 8), (some (56, true))⟩,
  ⟨(some 58), .mv (.t 10), (some (56, true))⟩,
  ⟨(some 59), .bin .eql (.t 57) (.t 58), (some (56, true))⟩,
  ⟨(some 60), .pick (.t 56) (.t 59) (.k (.s (.b false))), none⟩,
  ⟨(some 61), .mv (.t 60), none⟩,
  ⟨(some 62), .mv (.t 9), (some (61, true))⟩,
  ⟨(some 63), .mv (.t 11), (some (61, true))⟩,
  ⟨(some 64), .bin .eql (.t 62) (.t 63), (some (61, true))⟩,
  ⟨(some 65), .pick (.t 61) (.t 64) (.k (.s (.b false))), none⟩,
  ⟨(some 66), .mv (.t 65), none⟩,
  ⟨(some 67), .mv (.t 12), (some (66, true))⟩,
  ⟨(some 68), .mv (.t 14), (some (66, true))⟩,
  ⟨(some 69), .bin .eql (.t 67) (.t 68), (some (66, true))⟩,
  ⟨(some 70), .pick (.t 66) (.t 69) (.k (.s (.b false))), none⟩,
  ⟨(some 71), .mv (.t 70), none⟩,
  ⟨(some 72), .mv (.t 13), (some (71, true))⟩,
  ⟨(some 73), .mv (.t 15), (some (71, true))⟩,
  ⟨(some 74), .bin .eql (.t 72) (.t 73), (some (71, true))⟩,
  ⟨(some 75), .pick (.t 71) (.t 74) (.k (.s (.b false))), none⟩,
  ⟨(some 2), .mv (.t 75), none⟩])
  (.ret))))))))))), [.t 2]⟩
theorem dc3 : compF Tryd.prog Tryd.f3 = some df3 := by kernel_rfl
/-- citadel/citadellaw01.WordPacks -/
def df4 : DF :=
  ⟨149, .seq (.reg [⟨(some 6), .mv (.k (.s (.b false))), none⟩])
  (.seq (.seq (.reg [⟨(some 24), .mv (.t 0), none⟩,
  ⟨(some 25), .len (.t 24), none⟩,
  ⟨(some 26), .bin .gtr (.t 25) (.k (.s (.i .i64 2147483647))), none⟩,
  ⟨(some 27), .mv (.t 26), none⟩,
  ⟨(some 28), .mv (.t 2), (some (27, false))⟩,
  ⟨(some 29), .len (.t 28), (some (27, false))⟩,
  ⟨(some 30), .bin .gtr (.t 29) (.k (.s (.i .i64 2147483647))), (some (27, false))⟩,
  ⟨(some 31), .pick (.t 27) (.k (.s (.b true))) (.t 30), none⟩])
  (.cond (.t 31)
  (.seq (.reg [⟨(some 6), .mv (.k (.s (.b true))), none⟩])
  (.ret))
  (.skip)))
  (.seq (.reg [⟨(some 32), .call 8 [], none⟩,
  ⟨(some 7), .mv (.t 32), none⟩])
  (.seq (.reg [⟨(some 8), .mv (.k (.s (.ns))), none⟩])
  (.seq (.reg [⟨(some 9), .mv (.k (.s (.ns))), none⟩])
  (.seq (.reg [⟨(some 33), .mv (.t 0), none⟩,
  ⟨(some 34), .len (.t 33), none⟩,
  ⟨(some 35), .bin .add (.t 34) (.k (.s (.i .i64 1))), none⟩,
  ⟨(some 36), .mks 2 16 [.i .i64 0, .i .u64 0] (.t 35) (.t 35), none⟩,
  ⟨(some 10), .mv (.t 36), none⟩])
  (.seq (.reg [⟨(some 37), .mv (.t 10), none⟩,
  ⟨(some 38), .mv (.t 0), none⟩,
  ⟨(some 39), .cpy 2 (.t 37) (.t 38), none⟩])
  (.seq (.seq (.reg [⟨(some 11), .mv (.k (.s (.i .i64 0))), none⟩])
  (.block 0 (.loop (.seq (.seq (.reg [⟨(some 40), .mv (.t 11), none⟩,
  ⟨(some 41), .mv (.t 0), none⟩,
  ⟨(some 42), .len (.t 41), none⟩,
  ⟨(some 43), .bin .lss (.t 40) (.t 42), none⟩])
  (.cond (.t 43)
  (.skip)
  (.exit 0)))
  (.seq (.block 1 (.seq (.reg [⟨(some 46), .mv (.t 8), none⟩,
  ⟨(some 47), .mv (.t 0), none⟩,
  ⟨(some 48), .mv (.t 11), none⟩,
  ⟨(some 49), .ia none 2 (.t 47) (.t 48), none⟩,
  ⟨(some 50), .fa (.t 49) 0, none⟩,
  ⟨(some 51), .ld (.t 50) none, none⟩,
  ⟨(some 52), .bsl 1 [.i .i64 0] [(0, 1, (.t 51))], none⟩,
  ⟨(some 53), .app 1 8 (.t 46) (.t 52), none⟩,
  ⟨(some 8), .mv (.t 53), none⟩])
  (.reg [⟨(some 54), .mv (.t 9), none⟩,
  ⟨(some 55), .mv (.t 0), none⟩,
  ⟨(some 56), .mv (.t 11), none⟩,
  ⟨(some 57), .ia none 2 (.t 55) (.t 56), none⟩,
  ⟨(some 58), .fa (.t 57) 1, none⟩,
  ⟨(some 59), .ld (.t 58) none, none⟩,
  ⟨(some 60), .bsl 1 [.i .u64 0] [(0, 1, (.t 59))], none⟩,
  ⟨(some 61), .app 1 8 (.t 54) (.t 60), none⟩,
  ⟨(some 9), .mv (.t 61), none⟩])))
  (.reg [⟨(some 44), .mv (.t 11), none⟩,
  ⟨(some 45), .bin .add (.t 44) (.k (.s (.i .i64 1))), none⟩,
  ⟨(some 11), .mv (.t 45), none⟩]))))))
  (.seq (.reg [⟨(some 63), .mv (.t 10), none⟩,
  ⟨(some 64), .mv (.t 0), none⟩,
  ⟨(some 65), .len (.t 64), none⟩,
  ⟨(some 66), .slc none 2 (.t 63) none (some (.t 65)), none⟩,
  ⟨(some 67), .call 13 [(.t 66)], none⟩,
  ⟨(some 62), .mv (.t 67), none⟩,
  ⟨(some 68), .ext (.t 62) 0, none⟩,
  ⟨(some 69), .ext (.t 62) 1, none⟩,
  ⟨(some 12), .mv (.t 68), none⟩,
  ⟨(some 13), .mv (.t 69), none⟩])
  (.seq (.reg [⟨(some 71), .mv (.t 8), none⟩,
  ⟨(some 72), .mv (.t 9), none⟩,
  ⟨(some 73), .call 14 [(.t 71), (.t 72)], none⟩,
  ⟨(some 70), .mv (.t 73), none⟩,
  ⟨(some 74), .ext (.t 70) 0, none⟩,
  ⟨(some 75), .ext (.t 70) 1, none⟩,
  ⟨(some 14), .mv (.t 74), none⟩,
  ⟨(some 15), .mv (.t 75), none⟩])
  (.seq (.seq (.reg [⟨(some 16), .mv (.k (.s (.i .i64 0))), none⟩])
  (.block 2 (.loop (.seq (.seq (.reg [⟨(some 76), .mv (.t 16), none⟩,
  ⟨(some 77), .mv (.t 0), none⟩,
  ⟨(some 78), .len (.t 77), none⟩,
  ⟨(some 79), .bin .lss (.t 76) (.t 78), none⟩])
  (.cond (.t 79)
  (.skip)
  (.exit 2)))
  (.seq (.block 3 (.seq (.drq [⟨(some 82), .mv (.t 10), none⟩,
  ⟨(some 83), .mv (.t 16), none⟩,
  ⟨(some 84), .ia none 2 (.t 82) (.t 83), none⟩,
  ⟨(some 85), .ld (.t 84) (some 2), none⟩,
  ⟨(some 86), .mv (.t 0), none⟩,
  ⟨(some 87), .mv (.t 16), none⟩,
  ⟨(some 88), .ia none 2 (.t 86) (.t 87), none⟩,
  ⟨(some 89), .ld (.t 88) (some 2), none⟩,
  ⟨(some 90), .eqa true [true, true] (.t 85) (.t 89), none⟩])
  (.cond (.t 90)
  (.seq (.reg [⟨(some 6), .mv (.k (.s (.b false))), none⟩])
  (.ret))
  (.skip))))
  (.reg [⟨(some 80), .mv (.t 16), none⟩,
  ⟨(some 81), .bin .add (.t 80) (.k (.s (.i .i64 1))), none⟩,
  ⟨(some 16), .mv (.t 81), none⟩]))))))
  (.seq (.reg [⟨(some 92), .mv (.t 1), none⟩,
  ⟨(some 93), .mv (.t 2), none⟩,
  ⟨(some 94), .call 15 [(.t 92), (.t 93)], none⟩,
  ⟨(some 91), .mv (.t 94), none⟩,
  ⟨(some 95), .ext (.t 91) 0, none⟩,
  ⟨(some 96), .ext (.t 91) 1, none⟩,
  ⟨(some 17), .mv (.t 95), none⟩,
  ⟨(some 18), .mv (.t 96), none⟩])
  (.seq (.seq (.reg [⟨(some 19), .mv (.k (.s (.i .i64 0))), none⟩])
  (.block 4 (.loop (.seq (.seq (.reg [⟨(some 97), .mv (.t 19), none⟩,
  ⟨(some 98), .bin .lss (.t 97) (.k (.s (.i .i64 2))), none⟩])
  (.cond (.t 98)
  (.skip)
  (.exit 4)))
  (.seq (.block 5 (.seq (.reg [⟨(some 102), .mv (.t 1), none⟩,
  ⟨(some 103), .mv (.t 2), none⟩,
  ⟨(some 104), .call 16 [(.t 102), (.t 103)], none⟩,
  ⟨(some 101), .mv (.t 104), none⟩,
  ⟨(some 105), .ext (.t 101) 0, none⟩,
  ⟨(some 106), .ext (.t 101) 1, none⟩,
  ⟨(some 20), .mv (.t 105), none⟩,
  ⟨(some 21), .mv (.t 106), none⟩])
  (.seq (.reg [⟨(some 107), .mv (.t 20), none⟩,
  ⟨(some 108), .mv (.t 17), none⟩,
  ⟨(some 109), .call 17 [(.t 107), (.t 108)], none⟩,
  ⟨(some 22), .mv (.t 109), none⟩])
  (.seq (.seq (.reg [⟨(some 110), .mv (.t 22), none⟩,
  ⟨(some 111), .un .not (.t 110), none⟩,
  ⟨(some 112), .mv (.t 111), none⟩,
  ⟨(some 113), .mv (.t 21), (some (112, false))⟩,
  ⟨(some 114), .mv (.t 18), (some (112, false))⟩,
  ⟨(some 115), .bin .neq (.t 113) (.t 114), (some (112, false))⟩,
  ⟨(some 116), .pick (.t 112) (.k (.s (.b true))) (.t 115), none⟩])
  (.cond (.t 116)
  (.seq (.reg [⟨(some 6), .mv (.k (.s (.b false))), none⟩])
  (.ret))
  (.skip)))
  (.seq (.seq (.reg [⟨(some 23), .mv (.k (.s (.i .i64 0))), none⟩])
  (.block 6 (.loop (.seq (.seq (.reg [⟨(some 117), .mv (.t 23), none⟩,
  ⟨(some 118), .mv (.t 20), none⟩,
  ⟨(some 119), .len (.t 118), none⟩,
  ⟨(some 120), .bin .lss (.t 117) (.t 119), none⟩])
  (.cond (.t 120)
  (.skip)
  (.exit 6)))
  (.seq (.block 7 (.reg [⟨(some 123), .mv (.t 20), none⟩,
  ⟨(some 124), .mv (.t 23), none⟩,
  ⟨(some 125), .ia none 1 (.t 123) (.t 124), none⟩,
  ⟨none, .st (.t 125) (.k (.s (.i .u64 77))) 1, none⟩]))
  (.reg [⟨(some 121), .mv (.t 23), none⟩,
  ⟨(some 122), .bin .add (.t 121) (.k (.s (.i .i64 1))), none⟩,
  ⟨(some 23), .mv (.t 122), none⟩]))))))
  (.reg [⟨(some 126), .mv (.t 20), none⟩,
  ⟨(some 127), .bsl 1 [.i .u64 0] [(0, 1, (.k (.s (.i .u64 7))))], none⟩,
  ⟨(some 128), .app 1 8 (.t 126) (.t 127), none⟩,
  ⟨(some 20), .mv (.t 128), none⟩]))))))
  (.reg [⟨(some 99), .mv (.t 19), none⟩,
  ⟨(some 100), .bin .add (.t 99) (.k (.s (.i .i64 1))), none⟩,
  ⟨(some 19), .mv (.t 100), none⟩]))))))
  (.seq (.reg [⟨(some 129), .mv (.t 7), none⟩,
  ⟨(some 130), .mv (.t 129), none⟩,
  ⟨(some 131), .mv (.t 10), (some (130, true))⟩,
  ⟨(some 132), .mv (.t 0), (some (130, true))⟩,
  ⟨(some 133), .len (.t 132), (some (130, true))⟩,
  ⟨(some 134), .ia none 2 (.t 131) (.t 133), (some (130, true))⟩,
  ⟨(some 135), .ld (.t 134) (some 2), (some (130, true))⟩,
  ⟨(some 136), .build [.i .i64 0, .i .u64 0] [], (some (130, true))⟩,
  ⟨(some 137), .eqa false [true, true] (.t 135) (.t 136), (some (130, true))⟩,
  ⟨(some 138), .pick (.t 130) (.t 137) (.k (.s (.b false))), none⟩,
  ⟨(some 139), .mv (.t 138), none⟩,
  ⟨(some 140), .mv (.t 12), (some (139, true))⟩,
  ⟨(some 141), .mv (.t 14), (some (139, true))⟩,
  ⟨(some 142), .bin .eql (.t 140) (.t 141), (some (139, true))⟩,
  ⟨(some 143), .pick (.t 139) (.t 142) (.k (.s (.b false))), none⟩,
  ⟨(some 144), .mv (.t 143), none⟩,
  ⟨(some 145), .mv (.t 13), (some (144, true))⟩,
  ⟨(some 146), .mv (.t 15), (some (144, true))⟩,
  ⟨(some 147), .bin .eql (.t 145) (.t 146), (some (144, true))⟩,
  ⟨(some 148), .pick (.t 144) (.t 147) (.k (.s (.b false))), none⟩,
  ⟨(some 6), .mv (.t 148), none⟩])
  (.ret)))))))))))))), [.t 6]⟩
theorem dc4 : compF Tryd.prog Tryd.f4 = some df4 := by kernel_rfl
/-- citadel/citadellaw01.WordBits -/
def df5 : DF :=
  ⟨56, .seq (.reg [⟨(some 6), .mv (.k (.s (.b false))), none⟩])
  (.seq (.reg [⟨(some 16), .call 8 [], none⟩,
  ⟨(some 7), .mv (.t 16), none⟩])
  (.seq (.reg [⟨(some 17), .mv (.t 0), none⟩,
  ⟨(some 18), .call 18 [(.t 17)], none⟩,
  ⟨(some 8), .mv (.t 18), none⟩])
  (.seq (.reg [⟨(some 19), .mv (.t 0), none⟩,
  ⟨(some 20), .call 19 [(.t 19)], none⟩,
  ⟨(some 9), .mv (.t 20), none⟩])
  (.seq (.reg [⟨(some 21), .mv (.t 0), none⟩,
  ⟨(some 22), .call 20 [(.t 21)], none⟩,
  ⟨(some 10), .mv (.t 22), none⟩])
  (.seq (.reg [⟨(some 23), .mv (.t 0), none⟩,
  ⟨(some 24), .call 21 [(.t 23)], none⟩,
  ⟨(some 11), .mv (.t 24), none⟩])
  (.seq (.reg [⟨(some 25), .mv (.t 0), none⟩,
  ⟨(some 26), .call 22 [(.t 25)], none⟩,
  ⟨(some 12), .mv (.t 26), none⟩])
  (.seq (.reg [⟨(some 27), .mv (.t 0), none⟩,
  ⟨(some 28), .call 23 [(.t 27)], none⟩,
  ⟨(some 13), .mv (.t 28), none⟩])
  (.seq (.reg [⟨(some 29), .mv (.t 1), none⟩,
  ⟨(some 30), .mv (.t 2), none⟩,
  ⟨(some 31), .call 24 [(.t 29), (.t 30)], none⟩,
  ⟨(some 14), .mv (.t 31), none⟩])
  (.seq (.reg [⟨(some 32), .mv (.t 1), none⟩,
  ⟨(some 33), .mv (.t 2), none⟩,
  ⟨(some 34), .call 25 [(.t 32), (.t 33)], none⟩,
  ⟨(some 15), .mv (.t 34), none⟩])
  (.seq (.reg [⟨(some 35), .mv (.t 7), none⟩,
  ⟨(some 36), .mv (.t 35), none⟩,
  ⟨(some 37), .mv (.t 8), (some (36, true))⟩,
  ⟨(some 38), .mv (.t 9), (some (36, true))⟩,
  ⟨(some 39), .bin .eql (.t 37) (.t 38), (some (36, true))⟩,
  ⟨(some 40), .pick (.t 36) (.t 39) (.k (.s (.b false))), none⟩,
  ⟨(some 41), .mv (.t 40), none⟩,
  ⟨(some 42), .mv (.t 10), (some (41, true))⟩,
  ⟨(some 43), .mv (.t 11), (some (41, true))⟩,
  ⟨(some 44), .bin .eql (.t 42) (.t 43), (some (41, true))⟩,
  ⟨(some 45), .pick (.t 41) (.t 44) (.k (.s (.b false))), none⟩,
  ⟨(some 46), .mv (.t 45), none⟩,
  ⟨(some 47), .mv (.t 12), (some (46, true))⟩,
  ⟨(some 48), .mv (.t 13), (some (46, true))⟩,
  ⟨(some 49), .bin .eql (.t 47) (.t 48), (some (46, true))⟩,
  ⟨(some 50), .pick (.t 46) (.t 49) (.k (.s (.b false))), none⟩,
  ⟨(some 51), .mv (.t 50), none⟩,
  ⟨(some 52), .mv (.t 14), (some (51, true))⟩,
  ⟨(some 53), .mv (.t 15), (some (51, true))⟩,
  ⟨(some 54), .eqb false (.t 52) (.t 53), (some (51, true))⟩,
  ⟨(some 55), .pick (.t 51) (.t 54) (.k (.s (.b false))), none⟩,
  ⟨(some 6), .mv (.t 55), none⟩])
  (.ret))))))))))), [.t 6]⟩
theorem dc5 : compF Tryd.prog Tryd.f5 = some df5 := by kernel_rfl
/-- citadel/citadellaw01.WordKeeps -/
def df6 : DF :=
  ⟨106, .seq (.reg [⟨(some 1), .box (.t 0), none⟩,
  ⟨(some 2), .mv (.k (.s (.b false))), none⟩])
  (.seq (.reg [⟨(some 12), .call 8 [], none⟩,
  ⟨(some 3), .mv (.t 12), none⟩])
  (.seq (.reg [⟨(some 14), .fa (.t 1) 0, none⟩,
  ⟨(some 15), .ld (.t 14) none, none⟩,
  ⟨(some 16), .fa (.t 1) 1, none⟩,
  ⟨(some 17), .ld (.t 16) none, none⟩,
  ⟨(some 18), .fa (.t 1) 2, none⟩,
  ⟨(some 19), .ld (.t 18) none, none⟩,
  ⟨(some 20), .fa (.t 1) 3, none⟩,
  ⟨(some 21), .ld (.t 20) none, none⟩,
  ⟨(some 22), .call 11 [(.t 15), (.t 17), (.t 19), (.t 21)], none⟩,
  ⟨(some 13), .mv (.t 22), none⟩,
  ⟨(some 23), .ext (.t 13) 0, none⟩,
  ⟨(some 24), .ext (.t 13) 1, none⟩,
  ⟨(some 4), .mv (.t 23), none⟩,
  ⟨(some 5), .mv (.t 24), none⟩])
  (.seq (.seq (.reg [⟨(some 25), .mv (.t 5), none⟩,
  ⟨(some 26), .bin .neq (.t 25) (.k (.s (.i .i64 0))), none⟩])
  (.cond (.t 26)
  (.seq (.reg [⟨(some 27), .mv (.t 3), none⟩,
  ⟨(some 28), .mv (.t 27), none⟩,
  ⟨(some 29), .mv (.t 5), (some (28, true))⟩,
  ⟨(some 30), .bin .eql (.t 29) (.k (.s (.i .i64 10))), (some (28, true))⟩,
  ⟨(some 31), .pick (.t 28) (.t 30) (.k (.s (.b false))), none⟩,
  ⟨(some 32), .mv (.t 31), none⟩,
  ⟨(some 33), .mv (.t 4), (some (32, true))⟩,
  ⟨(some 34), .bin .eql (.t 33) (.k (.s (.i .u64 0))), (some (32, true))⟩,
  ⟨(some 35), .pick (.t 32) (.t 34) (.k (.s (.b false))), none⟩,
  ⟨(some 2), .mv (.t 35), none⟩])
  (.ret))
  (.skip)))
  (.seq (.reg [⟨(some 37), .mv (.t 4), none⟩,
  ⟨(some 38), .fa (.t 1) 1, none⟩,
  ⟨(some 39), .ld (.t 38) none, none⟩,
  ⟨(some 40), .fa (.t 1) 2, none⟩,
  ⟨(some 41), .ld (.t 40) none, none⟩,
  ⟨(some 42), .call 9 [(.t 37), (.t 39), (.t 41)], none⟩,
  ⟨(some 36), .mv (.t 42), none⟩,
  ⟨(some 43), .ext (.t 36) 0, none⟩,
  ⟨(some 44), .ext (.t 36) 1, none⟩,
  ⟨(some 6), .mv (.t 43), none⟩,
  ⟨(some 7), .mv (.t 44), none⟩])
  (.seq (.reg [⟨(some 46), .fa (.t 1) 0, none⟩,
  ⟨(some 47), .ld (.t 46) none, none⟩,
  ⟨(some 48), .fa (.t 1) 4, none⟩,
  ⟨(some 49), .ld (.t 48) none, none⟩,
  ⟨(some 50), .fa (.t 1) 5, none⟩,
  ⟨(some 51), .ld (.t 50) none, none⟩,
  ⟨(some 52), .call 9 [(.t 47), (.t 49), (.t 51)], none⟩,
  ⟨(some 45), .mv (.t 52), none⟩,
  ⟨(some 53), .ext (.t 45) 0, none⟩,
  ⟨(some 54), .ext (.t 45) 1, none⟩,
  ⟨(some 8), .mv (.t 53), none⟩,
  ⟨(some 9), .mv (.t 54), none⟩])
  (.seq (.reg [⟨(some 56), .mv (.t 4), none⟩,
  ⟨(some 57), .fa (.t 1) 4, none⟩,
  ⟨(some 58), .ld (.t 57) none, none⟩,
  ⟨(some 59), .fa (.t 1) 5, none⟩,
  ⟨(some 60), .ld (.t 59) none, none⟩,
  ⟨(some 61), .call 9 [(.t 56), (.t 58), (.t 60)], none⟩,
  ⟨(some 55), .mv (.t 61), none⟩,
  ⟨(some 62), .ext (.t 55) 0, none⟩,
  ⟨(some 63), .ext (.t 55) 1, none⟩,
  ⟨(some 10), .mv (.t 62), none⟩,
  ⟨(some 11), .mv (.t 63), none⟩])
  (.seq (.seq (.reg [⟨(some 64), .mv (.t 7), none⟩,
  ⟨(some 65), .bin .neq (.t 64) (.k (.s (.i .i64 0))), none⟩,
  ⟨(some 66), .mv (.t 65), none⟩,
  ⟨(some 67), .mv (.t 6), (some (66, false))⟩,
  ⟨(some 68), .fa (.t 1) 3, (some (66, false))⟩,
  ⟨(some 69), .ld (.t 68) none, (some (66, false))⟩,
  ⟨(some 70), .bin .neq (.t 67) (.t 69), (some (66, false))⟩,
  ⟨(some 71), .pick (.t 66) (.k (.s (.b true))) (.t 70), none⟩,
  ⟨(some 72), .mv (.t 71), none⟩,
  ⟨(some 73), .mv (.t 9), (some (72, false))⟩,
  ⟨(some 74), .mv (.t 11), (some (72, false))⟩,
  ⟨(some 75), .bin .neq (.t 73) (.t 74), (some (72, false))⟩,
  ⟨(some 76), .pick (.t 72) (.k (.s (.b true))) (.t 75), none⟩])
  (.cond (.t 76)
  (.seq (.reg [⟨(some 2), .mv (.k (.s (.b false))), none⟩])
  (.ret))
  (.skip)))
  (.seq (.seq (.reg [⟨(some 77), .mv (.t 9), none⟩,
  ⟨(some 78), .bin .eql (.t 77) (.k (.s (.i .i64 0))), none⟩,
  ⟨(some 79), .mv (.t 78), none⟩,
  ⟨(some 80), .fa (.t 1) 4, (some (79, true))⟩,
  ⟨(some 81), .ld (.t 80) none, (some (79, true))⟩,
  ⟨(some 82), .fa (.t 1) 1, (some (79, true))⟩,
  ⟨(some 83), .ld (.t 82) none, (some (79, true))⟩,
  ⟨(some 84), .fa (.t 1) 2, (some (79, true))⟩,
  ⟨(some 85), .ld (.t 84) none, (some (79, true))⟩,
  ⟨(some 86), .bin .add (.t 83) (.t 85), (some (79, true))⟩,
  ⟨(some 87), .bin .geq (.t 81) (.t 86), (some (79, true))⟩,
  ⟨(some 88), .mv (.t 87), (some (79, true))⟩,
  ⟨(some 89), .fa (.t 1) 1, (some (88, false))⟩,
  ⟨(some 90), .ld (.t 89) none, (some (88, false))⟩,
  ⟨(some 91), .fa (.t 1) 4, (some (88, false))⟩,
  ⟨(some 92), .ld (.t 91) none, (some (88, false))⟩,
  ⟨(some 93), .fa (.t 1) 5, (some (88, false))⟩,
  ⟨(some 94), .ld (.t 93) none, (some (88, false))⟩,
  ⟨(some 95), .bin .add (.t 92) (.t 94), (some (88, false))⟩,
  ⟨(some 96), .bin .geq (.t 90) (.t 95), (some (88, false))⟩,
  ⟨(some 97), .pick (.t 88) (.k (.s (.b true))) (.t 96), (some (79, true))⟩,
  ⟨(some 98), .pick (.t 79) (.t 97) (.k (.s (.b false))), none⟩])
  (.cond (.t 98)
  (.seq (.reg [⟨(some 99), .mv (.t 3), none⟩,
  ⟨(some 100), .mv (.t 99), none⟩,
  ⟨(some 101), .mv (.t 8), (some (100, true))⟩,
  ⟨(some 102), .mv (.t 10), (some (100, true))⟩,
  ⟨(some 103), .bin .eql (.t 101) (.t 102), (some (100, true))⟩,
  ⟨(some 104), .pick (.t 100) (.t 103) (.k (.s (.b false))), none⟩,
  ⟨(some 2), .mv (.t 104), none⟩])
  (.ret))
  (.skip)))
  (.seq (.reg [⟨(some 105), .mv (.t 3), none⟩,
  ⟨(some 2), .mv (.t 105), none⟩])
  (.ret)))))))))), [.t 2]⟩
theorem dc6 : compF Tryd.prog Tryd.f6 = some df6 := by kernel_rfl
/-- citadel/citadellaw01.WordBack -/
def df7 : DF :=
  ⟨161, .seq (.reg [⟨(some 6), .mv (.k (.s (.b false))), none⟩])
  (.seq (.seq (.reg [⟨(some 22), .mv (.t 0), none⟩,
  ⟨(some 23), .len (.t 22), none⟩,
  ⟨(some 24), .bin .gtr (.t 23) (.k (.s (.i .i64 2147483647))), none⟩,
  ⟨(some 25), .mv (.t 24), none⟩,
  ⟨(some 26), .mv (.t 2), (some (25, false))⟩,
  ⟨(some 27), .len (.t 26), (some (25, false))⟩,
  ⟨(some 28), .bin .gtr (.t 27) (.k (.s (.i .i64 2147483647))), (some (25, false))⟩,
  ⟨(some 29), .pick (.t 25) (.k (.s (.b true))) (.t 28), none⟩])
  (.cond (.t 29)
  (.seq (.reg [⟨(some 6), .mv (.k (.s (.b true))), none⟩])
  (.ret))
  (.skip)))
  (.seq (.reg [⟨(some 30), .call 8 [], none⟩,
  ⟨(some 7), .mv (.t 30), none⟩])
  (.seq (.reg [⟨(some 32), .mv (.t 0), none⟩,
  ⟨(some 33), .call 13 [(.t 32)], none⟩,
  ⟨(some 31), .mv (.t 33), none⟩,
  ⟨(some 34), .ext (.t 31) 0, none⟩,
  ⟨(some 35), .ext (.t 31) 1, none⟩,
  ⟨(some 8), .mv (.t 34), none⟩,
  ⟨(some 9), .mv (.t 35), none⟩])
  (.seq (.seq (.reg [⟨(some 36), .mv (.t 9), none⟩,
  ⟨(some 37), .bin .eql (.t 36) (.k (.s (.i .i64 0))), none⟩])
  (.cond (.t 37)
  (.seq (.reg [⟨(some 10), .mv (.k (.s (.ns))), none⟩])
  (.seq (.reg [⟨(some 11), .mv (.k (.s (.i .i64 0))), none⟩])
  (.seq (.seq (.reg [⟨(some 12), .mv (.k (.s (.i .i64 0))), none⟩])
  (.block 0 (.loop (.seq (.seq (.reg [⟨(some 38), .mv (.t 12), none⟩,
  ⟨(some 39), .mv (.t 0), none⟩,
  ⟨(some 40), .len (.t 39), none⟩,
  ⟨(some 41), .bin .lss (.t 38) (.t 40), none⟩])
  (.cond (.t 41)
  (.skip)
  (.exit 0)))
  (.seq (.block 1 (.seq (.reg [⟨(some 44), .mv (.t 10), none⟩,
  ⟨(some 45), .mv (.t 0), none⟩,
  ⟨(some 46), .mv (.t 12), none⟩,
  ⟨(some 47), .ia none 2 (.t 45) (.t 46), none⟩,
  ⟨(some 48), .fa (.t 47) 0, none⟩,
  ⟨(some 49), .ld (.t 48) none, none⟩,
  ⟨(some 50), .bsl 1 [.i .i64 0] [(0, 1, (.t 49))], none⟩,
  ⟨(some 51), .app 1 8 (.t 44) (.t 50), none⟩,
  ⟨(some 10), .mv (.t 51), none⟩])
  (.reg [⟨(some 52), .mv (.t 11), none⟩,
  ⟨(some 53), .mv (.t 0), none⟩,
  ⟨(some 54), .mv (.t 12), none⟩,
  ⟨(some 55), .ia none 2 (.t 53) (.t 54), none⟩,
  ⟨(some 56), .fa (.t 55) 1, none⟩,
  ⟨(some 57), .ld (.t 56) none, none⟩,
  ⟨(some 58), .call 22 [(.t 57)], none⟩,
  ⟨(some 59), .bin .add (.t 52) (.t 58), none⟩,
  ⟨(some 11), .mv (.t 59), none⟩])))
  (.reg [⟨(some 42), .mv (.t 12), none⟩,
  ⟨(some 43), .bin .add (.t 42) (.k (.s (.i .i64 1))), none⟩,
  ⟨(some 12), .mv (.t 43), none⟩]))))))
  (.seq (.reg [⟨(some 61), .mv (.t 8), none⟩,
  ⟨(some 62), .mv (.t 10), none⟩,
  ⟨(some 63), .call 16 [(.t 61), (.t 62)], none⟩,
  ⟨(some 60), .mv (.t 63), none⟩,
  ⟨(some 64), .ext (.t 60) 0, none⟩,
  ⟨(some 65), .ext (.t 60) 1, none⟩,
  ⟨(some 13), .mv (.t 64), none⟩,
  ⟨(some 14), .mv (.t 65), none⟩])
  (.seq (.seq (.reg [⟨(some 66), .mv (.t 14), none⟩,
  ⟨(some 67), .bin .neq (.t 66) (.k (.s (.i .i64 0))), none⟩,
  ⟨(some 68), .mv (.t 67), none⟩,
  ⟨(some 69), .mv (.t 13), (some (68, false))⟩,
  ⟨(some 70), .len (.t 69), (some (68, false))⟩,
  ⟨(some 71), .mv (.t 0), (some (68, false))⟩,
  ⟨(some 72), .len (.t 71), (some (68, false))⟩,
  ⟨(some 73), .bin .neq (.t 70) (.t 72), (some (68, false))⟩,
  ⟨(some 74), .pick (.t 68) (.k (.s (.b true))) (.t 73), none⟩,
  ⟨(some 75), .mv (.t 74), none⟩,
  ⟨(some 76), .mv (.t 8), (some (75, false))⟩,
  ⟨(some 77), .call 22 [(.t 76)], (some (75, false))⟩,
  ⟨(some 78), .mv (.t 11), (some (75, false))⟩,
  ⟨(some 79), .bin .neq (.t 77) (.t 78), (some (75, false))⟩,
  ⟨(some 80), .pick (.t 75) (.k (.s (.b true))) (.t 79), none⟩])
  (.cond (.t 80)
  (.seq (.reg [⟨(some 6), .mv (.k (.s (.b false))), none⟩])
  (.ret))
  (.skip)))
  (.seq (.reg [⟨(some 15), .mv (.k (.s (.i .i64 0))), none⟩])
  (.block 2 (.loop (.seq (.seq (.reg [⟨(some 81), .mv (.t 15), none⟩,
  ⟨(some 82), .mv (.t 13), none⟩,
  ⟨(some 83), .len (.t 82), none⟩,
  ⟨(some 84), .bin .lss (.t 81) (.t 83), none⟩])
  (.cond (.t 84)
  (.skip)
  (.exit 2)))
  (.seq (.block 3 (.seq (.drq [⟨(some 87), .mv (.t 13), none⟩,
  ⟨(some 88), .mv (.t 15), none⟩,
  ⟨(some 89), .ia none 1 (.t 87) (.t 88), none⟩,
  ⟨(some 90), .ld (.t 89) none, none⟩,
  ⟨(some 91), .mv (.t 0), none⟩,
  ⟨(some 92), .mv (.t 15), none⟩,
  ⟨(some 93), .ia none 2 (.t 91) (.t 92), none⟩,
  ⟨(some 94), .fa (.t 93) 1, none⟩,
  ⟨(some 95), .ld (.t 94) none, none⟩,
  ⟨(some 96), .bin .neq (.t 90) (.t 95), none⟩])
  (.cond (.t 96)
  (.seq (.reg [⟨(some 6), .mv (.k (.s (.b false))), none⟩])
  (.ret))
  (.skip))))
  (.reg [⟨(some 85), .mv (.t 15), none⟩,
  ⟨(some 86), .bin .add (.t 85) (.k (.s (.i .i64 1))), none⟩,
  ⟨(some 15), .mv (.t 86), none⟩])))))))))))
  (.skip)))
  (.seq (.reg [⟨(some 98), .mv (.t 1), none⟩,
  ⟨(some 99), .mv (.t 2), none⟩,
  ⟨(some 100), .call 16 [(.t 98), (.t 99)], none⟩,
  ⟨(some 97), .mv (.t 100), none⟩,
  ⟨(some 101), .ext (.t 97) 0, none⟩,
  ⟨(some 102), .ext (.t 97) 1, none⟩,
  ⟨(some 16), .mv (.t 101), none⟩,
  ⟨(some 17), .mv (.t 102), none⟩])
  (.seq (.seq (.reg [⟨(some 103), .mv (.t 17), none⟩,
  ⟨(some 104), .bin .neq (.t 103) (.k (.s (.i .i64 0))), none⟩])
  (.cond (.t 104)
  (.seq (.reg [⟨(some 105), .mv (.t 7), none⟩,
  ⟨(some 106), .mv (.t 105), none⟩,
  ⟨(some 107), .mv (.t 17), (some (106, true))⟩,
  ⟨(some 108), .bin .eql (.t 107) (.k (.s (.i .i64 10))), (some (106, true))⟩,
  ⟨(some 109), .pick (.t 106) (.t 108) (.k (.s (.b false))), none⟩,
  ⟨(some 110), .mv (.t 109), none⟩,
  ⟨(some 111), .mv (.t 16), (some (110, true))⟩,
  ⟨(some 112), .len (.t 111), (some (110, true))⟩,
  ⟨(some 113), .bin .eql (.t 112) (.k (.s (.i .i64 0))), (some (110, true))⟩,
  ⟨(some 114), .pick (.t 110) (.t 113) (.k (.s (.b false))), none⟩,
  ⟨(some 6), .mv (.t 114), none⟩])
  (.ret))
  (.skip)))
  (.seq (.reg [⟨(some 18), .mv (.k (.s (.ns))), none⟩])
  (.seq (.seq (.reg [⟨(some 19), .mv (.k (.s (.i .i64 0))), none⟩])
  (.block 4 (.loop (.seq (.seq (.reg [⟨(some 115), .mv (.t 19), none⟩,
  ⟨(some 116), .mv (.t 16), none⟩,
  ⟨(some 117), .len (.t 116), none⟩,
  ⟨(some 118), .bin .lss (.t 115) (.t 117), none⟩,
  ⟨(some 119), .mv (.t 118), none⟩,
  ⟨(some 120), .mv (.t 19), (some (119, true))⟩,
  ⟨(some 121), .mv (.t 2), (some (119, true))⟩,
  ⟨(some 122), .len (.t 121), (some (119, true))⟩,
  ⟨(some 123), .bin .lss (.t 120) (.t 122), (some (119, true))⟩,
  ⟨(some 124), .pick (.t 119) (.t 123) (.k (.s (.b false))), none⟩])
  (.cond (.t 124)
  (.skip)
  (.exit 4)))
  (.seq (.block 5 (.drm [(true, ⟨(some 127), .mv (.t 18), none⟩),
  (true, ⟨(some 128), .mv (.t 2), none⟩),
  (true, ⟨(some 129), .mv (.t 19), none⟩),
  (true, ⟨(some 130), .ia none 1 (.t 128) (.t 129), none⟩),
  (true, ⟨(some 131), .ld (.t 130) none, none⟩),
  (true, ⟨(some 132), .mv (.t 16), none⟩),
  (true, ⟨(some 133), .mv (.t 19), none⟩),
  (true, ⟨(some 134), .ia none 1 (.t 132) (.t 133), none⟩),
  (true, ⟨(some 135), .ld (.t 134) none, none⟩),
  (true, ⟨(some 136), .build [.i .i64 0, .i .u64 0] [(0, 1, (.t 131)), (1, 1, (.t 135))], none⟩),
  (false, ⟨(some 137), .bsl 1 [.i .i64 0, .i .u64 0] [(0, 2, (.t 136))], none⟩),
  (false, ⟨(some 138), .app 2 16 (.t 127) (.t 137), none⟩),
  (true, ⟨(some 18), .mv (.t 138), none⟩)]))
  (.reg [⟨(some 125), .mv (.t 19), none⟩,
  ⟨(some 126), .bin .add (.t 125) (.k (.s (.i .i64 1))), none⟩,
  ⟨(some 19), .mv (.t 126), none⟩]))))))
  (.seq (.reg [⟨(some 140), .mv (.t 18), none⟩,
  ⟨(some 141), .call 13 [(.t 140)], none⟩,
  ⟨(some 139), .mv (.t 141), none⟩,
  ⟨(some 142), .ext (.t 139) 0, none⟩,
  ⟨(some 143), .ext (.t 139) 1, none⟩,
  ⟨(some 20), .mv (.t 142), none⟩,
  ⟨(some 21), .mv (.t 143), none⟩])
  (.seq (.reg [⟨(some 144), .mv (.t 7), none⟩,
  ⟨(some 145), .mv (.t 144), none⟩,
  ⟨(some 146), .mv (.t 21), (some (145, true))⟩,
  ⟨(some 147), .bin .eql (.t 146) (.k (.s (.i .i64 0))), (some (145, true))⟩,
  ⟨(some 148), .pick (.t 145) (.t 147) (.k (.s (.b false))), none⟩,
  ⟨(some 149), .mv (.t 148), none⟩,
  ⟨(some 150), .mv (.t 20), (some (149, true))⟩,
  ⟨(some 151), .mv (.t 1), (some (149, true))⟩,
  ⟨(some 152), .bin .eql (.t 150) (.t 151), (some (149, true))⟩,
  ⟨(some 153), .pick (.t 149) (.t 152) (.k (.s (.b false))), none⟩,
  ⟨(some 154), .mv (.t 153), none⟩,
  ⟨(some 155), .mv (.t 16), (some (154, true))⟩,
  ⟨(some 156), .len (.t 155), (some (154, true))⟩,
  ⟨(some 157), .mv (.t 2), (some (154, true))⟩,
  ⟨(some 158), .len (.t 157), (some (154, true))⟩,
  ⟨(some 159), .bin .eql (.t 156) (.t 158), (some (154, true))⟩,
  ⟨(some 160), .pick (.t 154) (.t 159) (.k (.s (.b false))), none⟩,
  ⟨(some 6), .mv (.t 160), none⟩])
  (.ret))))))))))), [.t 6]⟩
theorem dc7 : compF Tryd.prog Tryd.f7 = some df7 := by kernel_rfl
/-- citadel/citadellaw01.awake -/
def df8 : DF :=
  ⟨99, .seq (.reg [⟨(some 0), .mv (.k (.s (.b false))), none⟩])
  (.seq (.reg [⟨(some 16), .call 9 [(.k (.s (.i .u64 43981))), (.k (.s (.i .i64 4))), (.k (.s (.i .i64 8)))], none⟩,
  ⟨(some 15), .mv (.t 16), none⟩,
  ⟨(some 17), .ext (.t 15) 0, none⟩,
  ⟨(some 18), .ext (.t 15) 1, none⟩,
  ⟨(some 1), .mv (.t 17), none⟩,
  ⟨(some 2), .mv (.t 18), none⟩])
  (.seq (.reg [⟨(some 20), .call 11 [(.k (.s (.i .u64 65535))), (.k (.s (.i .i64 4))), (.k (.s (.i .i64 8))), (.k (.s (.i .u64 0)))], none⟩,
  ⟨(some 19), .mv (.t 20), none⟩,
  ⟨(some 21), .ext (.t 19) 0, none⟩,
  ⟨(some 22), .ext (.t 19) 1, none⟩,
  ⟨(some 3), .mv (.t 21), none⟩,
  ⟨(some 4), .mv (.t 22), none⟩])
  (.seq (.reg [⟨(some 24), .build [.i .i64 0, .i .u64 0] [(0, 1, (.k (.s (.i .i64 4)))), (1, 1, (.k (.s (.i .u64 3))))], none⟩,
  ⟨(some 25), .build [.i .i64 0, .i .u64 0] [(0, 1, (.k (.s (.i .i64 8)))), (1, 1, (.k (.s (.i .u64 1))))], none⟩,
  ⟨(some 26), .bsl 2 [.i .i64 0, .i .u64 0, .i .i64 0, .i .u64 0] [(0, 2, (.t 24)), (2, 2, (.t 25))], none⟩,
  ⟨(some 27), .call 13 [(.t 26)], none⟩,
  ⟨(some 23), .mv (.t 27), none⟩,
  ⟨(some 28), .ext (.t 23) 0, none⟩,
  ⟨(some 29), .ext (.t 23) 1, none⟩,
  ⟨(some 5), .mv (.t 28), none⟩,
  ⟨(some 6), .mv (.t 29), none⟩])
  (.seq (.reg [⟨(some 31), .bsl 2 [.i .i64 0, .i .i64 0] [(0, 1, (.k (.s (.i .i64 4)))), (1, 1, (.k (.s (.i .i64 8))))], none⟩,
  ⟨(some 32), .call 16 [(.k (.s (.i .u64 19))), (.t 31)], none⟩,
  ⟨(some 30), .mv (.t 32), none⟩,
  ⟨(some 33), .ext (.t 30) 0, none⟩,
  ⟨(some 34), .ext (.t 30) 1, none⟩,
  ⟨(some 7), .mv (.t 33), none⟩,
  ⟨(some 8), .mv (.t 34), none⟩])
  (.seq (.reg [⟨(some 36), .call 9 [(.k (.s (.i .u64 1))), (.k (.s (.i .i64 63))), (.k (.s (.i .i64 2)))], none⟩,
  ⟨(some 35), .mv (.t 36), none⟩,
  ⟨(some 37), .ext (.t 35) 0, none⟩,
  ⟨(some 38), .ext (.t 35) 1, none⟩,
  ⟨(some 9), .mv (.t 37), none⟩,
  ⟨(some 10), .mv (.t 38), none⟩])
  (.seq (.reg [⟨(some 39), .call 18 [(.k (.s (.i .u64 144)))], none⟩,
  ⟨(some 11), .mv (.t 39), none⟩])
  (.seq (.reg [⟨(some 40), .call 20 [(.k (.s (.i .u64 144)))], none⟩,
  ⟨(some 12), .mv (.t 40), none⟩])
  (.seq (.reg [⟨(some 41), .call 22 [(.k (.s (.i .u64 144)))], none⟩,
  ⟨(some 13), .mv (.t 41), none⟩])
  (.seq (.reg [⟨(some 42), .call 24 [(.k (.s (.i .i64 48))), (.k (.s (.i .i64 4)))], none⟩,
  ⟨(some 14), .mv (.t 42), none⟩])
  (.seq (.reg [⟨(some 43), .mv (.t 1), none⟩,
  ⟨(some 44), .bin .eql (.t 43) (.k (.s (.i .u64 188))), none⟩,
  ⟨(some 45), .mv (.t 44), none⟩,
  ⟨(some 46), .mv (.t 2), (some (45, true))⟩,
  ⟨(some 47), .bin .eql (.t 46) (.k (.s (.i .i64 0))), (some (45, true))⟩,
  ⟨(some 48), .pick (.t 45) (.t 47) (.k (.s (.b false))), none⟩,
  ⟨(some 49), .mv (.t 48), none⟩,
  ⟨(some 50), .mv (.t 3), (some (49, true))⟩,
  ⟨(some 51), .bin .eql (.t 50) (.k (.s (.i .u64 61455))), (some (49, true))⟩,
  ⟨(some 52), .pick (.t 49) (.t 51) (.k (.s (.b false))), none⟩,
  ⟨(some 53), .mv (.t 52), none⟩,
  ⟨(some 54), .mv (.t 4), (some (53, true))⟩,
  ⟨(some 55), .bin .eql (.t 54) (.k (.s (.i .i64 0))), (some (53, true))⟩,
  ⟨(some 56), .pick (.t 53) (.t 55) (.k (.s (.b false))), none⟩,
  ⟨(some 57), .mv (.t 56), none⟩,
  ⟨(some 58), .mv (.t 5), (some (57, true))⟩,
  ⟨(some 59), .bin .eql (.t 58) (.k (.s (.i .u64 19))), (some (57, true))⟩,
  ⟨(some 60), .pick (.t 57) (.t 59) (.k (.s (.b false))), none⟩,
  ⟨(some 61), .mv (.t 60), none⟩,
  ⟨(some 62), .mv (.t 6), (some (61, true))⟩,
  ⟨(some 63), .bin .eql (.t 62) (.k (.s (.i .i64 0))), (some (61, true))⟩,
  ⟨(some 64), .pick (.t 61) (.t 63) (.k (.s (.b false))), none⟩,
  ⟨(some 65), .mv (.t 64), none⟩,
  ⟨(some 66), .mv (.t 7), (some (65, true))⟩,
  ⟨(some 67), .len (.t 66), (some (65, true))⟩,
  ⟨(some 68), .bin .eql (.t 67) (.k (.s (.i .i64 2))), (some (65, true))⟩,
  ⟨(some 69), .pick (.t 65) (.t 68) (.k (.s (.b false))), none⟩,
  ⟨(some 70), .mv (.t 69), none⟩,
  ⟨(some 71), .mv (.t 7), (some (70, true))⟩,
  ⟨(some 72), .ia none 1 (.t 71) (.k (.s (.i .i64 1))), (some (70, true))⟩,
  ⟨(some 73), .ld (.t 72) none, (some (70, true))⟩,
  ⟨(some 74), .bin .eql (.t 73) (.k (.s (.i .u64 1))), (some (70, true))⟩,
  ⟨(some 75), .pick (.t 70) (.t 74) (.k (.s (.b false))), none⟩,
  ⟨(some 76), .mv (.t 75), none⟩,
  ⟨(some 77), .mv (.t 8), (some (76, true))⟩,
  ⟨(some 78), .bin .eql (.t 77) (.k (.s (.i .i64 0))), (some (76, true))⟩,
  ⟨(some 79), .pick (.t 76) (.t 78) (.k (.s (.b false))), none⟩,
  ⟨(some 80), .mv (.t 79), none⟩,
  ⟨(some 81), .mv (.t 10), (some (80, true))⟩,
  ⟨(some 82), .bin .eql (.t 81) (.k (.s (.i .i64 10))), (some (80, true))⟩,
  ⟨(some 83), .pick (.t 80) (.t 82) (.k (.s (.b false))), none⟩,
  ⟨(some 84), .mv (.t 83), none⟩,
  ⟨(some 85), .mv (.t 11), (some (84, true))⟩,
  ⟨(some 86), .bin .eql (.t 85) (.k (.s (.i .i64 7))), (some (84, true))⟩,
  ⟨(some 87), .pick (.t 84) (.t 86) (.k (.s (.b false))), none⟩,
  ⟨(some 88), .mv (.t 87), none⟩,
  ⟨(some 89), .mv (.t 12), (some (88, true))⟩,
  ⟨(some 90), .bin .eql (.t 89) (.k (.s (.i .i64 4))), (some (88, true))⟩,
  ⟨(some 91), .pick (.t 88) (.t 90) (.k (.s (.b false))), none⟩,
  ⟨(some 92), .mv (.t 91), none⟩,
  ⟨(some 93), .mv (.t 13), (some (92, true))⟩,
  ⟨(some 94), .bin .eql (.t 93) (.k (.s (.i .i64 2))), (some (92, true))⟩,
  ⟨(some 95), .pick (.t 92) (.t 94) (.k (.s (.b false))), none⟩,
  ⟨(some 96), .mv (.t 95), none⟩,
  ⟨(some 97), .mv (.t 14), (some (96, true))⟩,
  ⟨(some 98), .pick (.t 96) (.t 97) (.k (.s (.b false))), none⟩,
  ⟨(some 0), .mv (.t 98), none⟩])
  (.ret))))))))))), [.t 0]⟩
theorem dc8 : compF Tryd.prog Tryd.f8 = some df8 := by kernel_rfl
theorem ok8 : FnOk Tryd.prog 8 := ⟨Tryd.f8, Tryd.func8, by kernel_rfl, by kernel_rfl⟩

/-- citadel/word.Get -/
def df9 : DF :=
  ⟨23, .seq (.reg [⟨(some 6), .mv (.k (.s (.i .u64 0))), none⟩,
  ⟨(some 7), .mv (.k (.s (.i .i64 0))), none⟩])
  (.seq (.reg [⟨(some 11), .mv (.t 1), none⟩,
  ⟨(some 12), .mv (.t 2), none⟩,
  ⟨(some 13), .call 26 [(.t 11), (.t 12)], none⟩,
  ⟨(some 10), .mv (.t 13), none⟩,
  ⟨(some 14), .ext (.t 10) 0, none⟩,
  ⟨(some 15), .ext (.t 10) 1, none⟩,
  ⟨(some 8), .mv (.t 14), none⟩,
  ⟨(some 9), .mv (.t 15), none⟩])
  (.seq (.seq (.reg [⟨(some 16), .mv (.t 9), none⟩,
  ⟨(some 17), .un .not (.t 16), none⟩])
  (.cond (.t 17)
  (.seq (.reg [⟨(some 6), .mv (.k (.s (.i .u64 0))), none⟩,
  ⟨(some 7), .mv (.k (.s (.i .i64 10))), none⟩])
  (.ret))
  (.skip)))
  (.seq (.reg [⟨(some 18), .mv (.t 0), none⟩,
  ⟨(some 19), .mv (.t 8), none⟩,
  ⟨(some 20), .bin .and (.t 18) (.t 19), none⟩,
  ⟨(some 21), .mv (.t 1), none⟩,
  ⟨(some 22), .bin .shr (.t 20) (.t 21), none⟩,
  ⟨(some 6), .mv (.t 22), none⟩,
  ⟨(some 7), .mv (.k (.s (.i .i64 0))), none⟩])
  (.ret)))), [.t 6, .t 7]⟩
theorem dc9 : compF Tryd.prog Tryd.f9 = some df9 := by kernel_rfl
theorem ok9 : FnOk Tryd.prog 9 := ⟨Tryd.f9, Tryd.func9, by kernel_rfl, by kernel_rfl⟩

/-- citadel/citadelref01.Get -/
def df10 : DF :=
  ⟨33, .seq (.reg [⟨(some 6), .mv (.k (.s (.i .u64 0))), none⟩,
  ⟨(some 7), .mv (.k (.s (.i .i64 0))), none⟩])
  (.seq (.reg [⟨(some 12), .mv (.t 1), none⟩,
  ⟨(some 13), .mv (.t 2), none⟩,
  ⟨(some 14), .call 27 [(.t 12), (.t 13)], none⟩,
  ⟨(some 8), .mv (.t 14), none⟩])
  (.seq (.seq (.reg [⟨(some 15), .mv (.t 8), none⟩,
  ⟨(some 16), .un .not (.t 15), none⟩])
  (.cond (.t 16)
  (.seq (.reg [⟨(some 6), .mv (.k (.s (.i .u64 0))), none⟩,
  ⟨(some 7), .mv (.k (.s (.i .i64 10))), none⟩])
  (.ret))
  (.skip)))
  (.seq (.reg [⟨(some 9), .mv (.k (.s (.i .u64 0))), none⟩])
  (.seq (.seq (.reg [⟨(some 10), .mv (.k (.s (.i .i64 0))), none⟩])
  (.block 0 (.loop (.seq (.seq (.reg [⟨(some 17), .mv (.t 10), none⟩,
  ⟨(some 18), .mv (.t 2), none⟩,
  ⟨(some 19), .bin .lss (.t 17) (.t 18), none⟩])
  (.cond (.t 19)
  (.skip)
  (.exit 0)))
  (.seq (.block 1 (.seq (.reg [⟨(some 22), .mv (.t 0), none⟩,
  ⟨(some 23), .mv (.t 1), none⟩,
  ⟨(some 24), .mv (.t 10), none⟩,
  ⟨(some 25), .bin .add (.t 23) (.t 24), none⟩,
  ⟨(some 26), .call 28 [(.t 22), (.t 25)], none⟩,
  ⟨(some 11), .mv (.t 26), none⟩])
  (.seq (.reg [⟨(some 27), .mv (.t 11), none⟩])
  (.cond (.t 27)
  (.reg [⟨(some 28), .mv (.t 9), none⟩,
  ⟨(some 29), .mv (.t 10), none⟩,
  ⟨(some 30), .bin .shl (.k (.s (.i .u64 1))) (.t 29), none⟩,
  ⟨(some 31), .bin .add (.t 28) (.t 30), none⟩,
  ⟨(some 9), .mv (.t 31), none⟩])
  (.skip)))))
  (.reg [⟨(some 20), .mv (.t 10), none⟩,
  ⟨(some 21), .bin .add (.t 20) (.k (.s (.i .i64 1))), none⟩,
  ⟨(some 10), .mv (.t 21), none⟩]))))))
  (.seq (.reg [⟨(some 32), .mv (.t 9), none⟩,
  ⟨(some 6), .mv (.t 32), none⟩,
  ⟨(some 7), .mv (.k (.s (.i .i64 0))), none⟩])
  (.ret)))))), [.t 6, .t 7]⟩
theorem dc10 : compF Tryd.prog Tryd.f10 = some df10 := by kernel_rfl
theorem ok10 : FnOk Tryd.prog 10 := ⟨Tryd.f10, Tryd.func10, by kernel_rfl, by kernel_rfl⟩

/-- citadel/word.Set -/
def df11 : DF :=
  ⟨44, .seq (.reg [⟨(some 8), .mv (.k (.s (.i .u64 0))), none⟩,
  ⟨(some 9), .mv (.k (.s (.i .i64 0))), none⟩])
  (.seq (.reg [⟨(some 13), .mv (.t 1), none⟩,
  ⟨(some 14), .mv (.t 2), none⟩,
  ⟨(some 15), .call 26 [(.t 13), (.t 14)], none⟩,
  ⟨(some 12), .mv (.t 15), none⟩,
  ⟨(some 16), .ext (.t 12) 0, none⟩,
  ⟨(some 17), .ext (.t 12) 1, none⟩,
  ⟨(some 10), .mv (.t 16), none⟩,
  ⟨(some 11), .mv (.t 17), none⟩])
  (.seq (.seq (.reg [⟨(some 18), .mv (.t 11), none⟩,
  ⟨(some 19), .un .not (.t 18), none⟩,
  ⟨(some 20), .mv (.t 19), none⟩,
  ⟨(some 21), .mv (.t 3), (some (20, false))⟩,
  ⟨(some 22), .mv (.t 1), (some (20, false))⟩,
  ⟨(some 23), .bin .shl (.t 21) (.t 22), (some (20, false))⟩,
  ⟨(some 24), .mv (.t 1), (some (20, false))⟩,
  ⟨(some 25), .bin .shr (.t 23) (.t 24), (some (20, false))⟩,
  ⟨(some 26), .mv (.t 3), (some (20, false))⟩,
  ⟨(some 27), .bin .neq (.t 25) (.t 26), (some (20, false))⟩,
  ⟨(some 28), .pick (.t 20) (.k (.s (.b true))) (.t 27), none⟩,
  ⟨(some 29), .mv (.t 28), none⟩,
  ⟨(some 30), .mv (.t 3), (some (29, false))⟩,
  ⟨(some 31), .mv (.t 1), (some (29, false))⟩,
  ⟨(some 32), .bin .shl (.t 30) (.t 31), (some (29, false))⟩,
  ⟨(some 33), .mv (.t 10), (some (29, false))⟩,
  ⟨(some 34), .bin .andNot (.t 32) (.t 33), (some (29, false))⟩,
  ⟨(some 35), .bin .neq (.t 34) (.k (.s (.i .u64 0))), (some (29, false))⟩,
  ⟨(some 36), .pick (.t 29) (.k (.s (.b true))) (.t 35), none⟩])
  (.cond (.t 36)
  (.seq (.reg [⟨(some 8), .mv (.k (.s (.i .u64 0))), none⟩,
  ⟨(some 9), .mv (.k (.s (.i .i64 10))), none⟩])
  (.ret))
  (.skip)))
  (.seq (.reg [⟨(some 37), .mv (.t 0), none⟩,
  ⟨(some 38), .mv (.t 10), none⟩,
  ⟨(some 39), .bin .andNot (.t 37) (.t 38), none⟩,
  ⟨(some 40), .mv (.t 3), none⟩,
  ⟨(some 41), .mv (.t 1), none⟩,
  ⟨(some 42), .bin .shl (.t 40) (.t 41), none⟩,
  ⟨(some 43), .bin .or (.t 39) (.t 42), none⟩,
  ⟨(some 8), .mv (.t 43), none⟩,
  ⟨(some 9), .mv (.k (.s (.i .i64 0))), none⟩])
  (.ret)))), [.t 8, .t 9]⟩
theorem dc11 : compF Tryd.prog Tryd.f11 = some df11 := by kernel_rfl
theorem ok11 : FnOk Tryd.prog 11 := ⟨Tryd.f11, Tryd.func11, by kernel_rfl, by kernel_rfl⟩

/-- citadel/citadelref01.Set -/
def df12 : DF :=
  ⟨53, .seq (.reg [⟨(some 8), .mv (.k (.s (.i .u64 0))), none⟩,
  ⟨(some 9), .mv (.k (.s (.i .i64 0))), none⟩])
  (.seq (.reg [⟨(some 15), .mv (.t 1), none⟩,
  ⟨(some 16), .mv (.t 2), none⟩,
  ⟨(some 17), .call 27 [(.t 15), (.t 16)], none⟩,
  ⟨(some 10), .mv (.t 17), none⟩])
  (.seq (.seq (.reg [⟨(some 18), .mv (.t 10), none⟩,
  ⟨(some 19), .un .not (.t 18), none⟩])
  (.cond (.t 19)
  (.seq (.reg [⟨(some 8), .mv (.k (.s (.i .u64 0))), none⟩,
  ⟨(some 9), .mv (.k (.s (.i .i64 10))), none⟩])
  (.ret))
  (.skip)))
  (.seq (.reg [⟨(some 20), .mv (.t 3), none⟩,
  ⟨(some 21), .mv (.t 2), none⟩,
  ⟨(some 22), .call 29 [(.t 20), (.t 21)], none⟩,
  ⟨(some 11), .mv (.t 22), none⟩])
  (.seq (.seq (.reg [⟨(some 23), .mv (.t 11), none⟩,
  ⟨(some 24), .un .not (.t 23), none⟩])
  (.cond (.t 24)
  (.seq (.reg [⟨(some 8), .mv (.k (.s (.i .u64 0))), none⟩,
  ⟨(some 9), .mv (.k (.s (.i .i64 10))), none⟩])
  (.ret))
  (.skip)))
  (.seq (.reg [⟨(some 12), .mv (.k (.s (.i .u64 0))), none⟩])
  (.seq (.seq (.reg [⟨(some 13), .mv (.k (.s (.i .i64 0))), none⟩])
  (.block 0 (.loop (.seq (.seq (.reg [⟨(some 25), .mv (.t 13), none⟩,
  ⟨(some 26), .bin .lss (.t 25) (.k (.s (.i .i64 64))), none⟩])
  (.cond (.t 26)
  (.skip)
  (.exit 0)))
  (.seq (.block 1 (.seq (.reg [⟨(some 29), .mv (.t 0), none⟩,
  ⟨(some 30), .mv (.t 13), none⟩,
  ⟨(some 31), .call 28 [(.t 29), (.t 30)], none⟩,
  ⟨(some 14), .mv (.t 31), none⟩])
  (.seq (.seq (.reg [⟨(some 32), .mv (.t 13), none⟩,
  ⟨(some 33), .mv (.t 1), none⟩,
  ⟨(some 34), .bin .geq (.t 32) (.t 33), none⟩,
  ⟨(some 35), .mv (.t 34), none⟩,
  ⟨(some 36), .mv (.t 13), (some (35, true))⟩,
  ⟨(some 37), .mv (.t 1), (some (35, true))⟩,
  ⟨(some 38), .mv (.t 2), (some (35, true))⟩,
  ⟨(some 39), .bin .add (.t 37) (.t 38), (some (35, true))⟩,
  ⟨(some 40), .bin .lss (.t 36) (.t 39), (some (35, true))⟩,
  ⟨(some 41), .pick (.t 35) (.t 40) (.k (.s (.b false))), none⟩])
  (.cond (.t 41)
  (.reg [⟨(some 42), .mv (.t 3), none⟩,
  ⟨(some 43), .mv (.t 13), none⟩,
  ⟨(some 44), .mv (.t 1), none⟩,
  ⟨(some 45), .bin .sub (.t 43) (.t 44), none⟩,
  ⟨(some 46), .call 28 [(.t 42), (.t 45)], none⟩,
  ⟨(some 14), .mv (.t 46), none⟩])
  (.skip)))
  (.seq (.reg [⟨(some 47), .mv (.t 14), none⟩])
  (.cond (.t 47)
  (.reg [⟨(some 48), .mv (.t 12), none⟩,
  ⟨(some 49), .mv (.t 13), none⟩,
  ⟨(some 50), .bin .shl (.k (.s (.i .u64 1))) (.t 49), none⟩,
  ⟨(some 51), .bin .add (.t 48) (.t 50), none⟩,
  ⟨(some 12), .mv (.t 51), none⟩])
  (.skip))))))
  (.reg [⟨(some 27), .mv (.t 13), none⟩,
  ⟨(some 28), .bin .add (.t 27) (.k (.s (.i .i64 1))), none⟩,
  ⟨(some 13), .mv (.t 28), none⟩]))))))
  (.seq (.reg [⟨(some 52), .mv (.t 12), none⟩,
  ⟨(some 8), .mv (.t 52), none⟩,
  ⟨(some 9), .mv (.k (.s (.i .i64 0))), none⟩])
  (.ret)))))))), [.t 8, .t 9]⟩
theorem dc12 : compF Tryd.prog Tryd.f12 = some df12 := by kernel_rfl
theorem ok12 : FnOk Tryd.prog 12 := ⟨Tryd.f12, Tryd.func12, by kernel_rfl, by kernel_rfl⟩

/-- citadel/word.Pack -/
def df13 : DF :=
  ⟨34, .seq (.reg [⟨(some 2), .mv (.k (.s (.i .u64 0))), none⟩,
  ⟨(some 3), .mv (.k (.s (.i .i64 0))), none⟩])
  (.seq (.reg [⟨(some 4), .mv (.k (.s (.i .u64 0))), none⟩,
  ⟨(some 5), .mv (.k (.s (.i .i64 0))), none⟩])
  (.seq (.seq (.reg [⟨(some 9), .mv (.t 0), none⟩,
  ⟨(some 10), .len (.t 9), none⟩,
  ⟨(some 11), .mv (.k (.s (.i .i64 0))), none⟩])
  (.block 0 (.loop (.seq (.reg [⟨(some 12), .bin .lss (.t 11) (.t 10), none⟩])
  (.seq (.cond (.t 12)
  (.skip)
  (.exit 0))
  (.seq (.block 1 (.seq (.reg [⟨(some 13), .ia none 2 (.t 9) (.t 11), none⟩,
  ⟨(some 14), .ld (.t 13) (some 2), none⟩,
  ⟨(some 7), .new [.i .i64 0, .i .u64 0], none⟩,
  ⟨none, .st (.t 7) (.t 14) 2, none⟩])
  (.seq (.reg [⟨(some 8), .mv (.k (.s (.i .i64 0))), none⟩])
  (.seq (.seq (.reg [⟨(some 16), .mv (.t 4), none⟩,
  ⟨(some 17), .mv (.t 5), none⟩,
  ⟨(some 18), .fa (.t 7) 0, none⟩,
  ⟨(some 19), .ld (.t 18) none, none⟩,
  ⟨(some 20), .fa (.t 7) 1, none⟩,
  ⟨(some 21), .ld (.t 20) none, none⟩,
  ⟨(some 22), .call 11 [(.t 16), (.t 17), (.t 19), (.t 21)], none⟩,
  ⟨(some 15), .mv (.t 22), none⟩,
  ⟨(some 23), .ext (.t 15) 0, none⟩,
  ⟨(some 24), .ext (.t 15) 1, none⟩,
  ⟨(some 4), .mv (.t 23), none⟩,
  ⟨(some 8), .mv (.t 24), none⟩])
  (.seq (.reg [⟨(some 25), .mv (.t 8), none⟩,
  ⟨(some 26), .bin .neq (.t 25) (.k (.s (.i .i64 0))), none⟩])
  (.cond (.t 26)
  (.seq (.reg [⟨(some 27), .mv (.t 8), none⟩,
  ⟨(some 2), .mv (.k (.s (.i .u64 0))), none⟩,
  ⟨(some 3), .mv (.t 27), none⟩])
  (.ret))
  (.skip))))
  (.reg [⟨(some 28), .mv (.t 5), none⟩,
  ⟨(some 29), .fa (.t 7) 0, none⟩,
  ⟨(some 30), .ld (.t 29) none, none⟩,
  ⟨(some 31), .bin .add (.t 28) (.t 30), none⟩,
  ⟨(some 5), .mv (.t 31), none⟩])))))
  (.reg [⟨(some 32), .bin .add (.t 11) (.k (.s (.i .i64 1))), none⟩,
  ⟨(some 11), .mv (.t 32), none⟩])))))))
  (.seq (.reg [⟨(some 33), .mv (.t 4), none⟩,
  ⟨(some 2), .mv (.t 33), none⟩,
  ⟨(some 3), .mv (.k (.s (.i .i64 0))), none⟩])
  (.ret)))), [.t 2, .t 3]⟩
theorem dc13 : compF Tryd.prog Tryd.f13 = some df13 := by kernel_rfl
theorem ok13 : FnOk Tryd.prog 13 := ⟨Tryd.f13, Tryd.func13, by kernel_rfl, by kernel_rfl⟩

/-- citadel/citadelref01.Pack -/
def df14 : DF :=
  ⟨51, .seq (.reg [⟨(some 4), .mv (.k (.s (.i .u64 0))), none⟩,
  ⟨(some 5), .mv (.k (.s (.i .i64 0))), none⟩])
  (.seq (.reg [⟨(some 6), .mv (.k (.s (.i .i64 0))), none⟩])
  (.seq (.reg [⟨(some 7), .mv (.k (.s (.i .u64 0))), none⟩])
  (.seq (.seq (.reg [⟨(some 8), .mv (.k (.s (.i .i64 0))), none⟩])
  (.block 0 (.loop (.seq (.seq (.reg [⟨(some 11), .mv (.t 8), none⟩,
  ⟨(some 12), .mv (.t 0), none⟩,
  ⟨(some 13), .len (.t 12), none⟩,
  ⟨(some 14), .bin .lss (.t 11) (.t 13), none⟩])
  (.cond (.t 14)
  (.skip)
  (.exit 0)))
  (.seq (.block 1 (.seq (.reg [⟨(some 17), .mv (.t 6), none⟩,
  ⟨(some 18), .mv (.t 0), none⟩,
  ⟨(some 19), .mv (.t 8), none⟩,
  ⟨(some 20), .ia none 1 (.t 18) (.t 19), none⟩,
  ⟨(some 21), .ld (.t 20) none, none⟩,
  ⟨(some 22), .call 27 [(.t 17), (.t 21)], none⟩,
  ⟨(some 9), .mv (.t 22), none⟩])
  (.seq (.seq (.reg [⟨(some 23), .mv (.t 9), none⟩,
  ⟨(some 24), .un .not (.t 23), none⟩])
  (.cond (.t 24)
  (.seq (.reg [⟨(some 4), .mv (.k (.s (.i .u64 0))), none⟩,
  ⟨(some 5), .mv (.k (.s (.i .i64 10))), none⟩])
  (.ret))
  (.skip)))
  (.seq (.drt 8 [⟨(some 25), .mv (.t 1), none⟩,
  ⟨(some 26), .mv (.t 8), none⟩,
  ⟨(some 27), .ia none 1 (.t 25) (.t 26), none⟩,
  ⟨(some 28), .ld (.t 27) none, none⟩,
  ⟨(some 29), .mv (.t 0), none⟩,
  ⟨(some 30), .mv (.t 8), none⟩,
  ⟨(some 31), .ia none 1 (.t 29) (.t 30), none⟩,
  ⟨(some 32), .ld (.t 31) none, none⟩,
  ⟨(some 33), .call 29 [(.t 28), (.t 32)], none⟩,
  ⟨(some 10), .mv (.t 33), none⟩])
  (.seq (.seq (.reg [⟨(some 34), .mv (.t 10), none⟩,
  ⟨(some 35), .un .not (.t 34), none⟩])
  (.cond (.t 35)
  (.seq (.reg [⟨(some 4), .mv (.k (.s (.i .u64 0))), none⟩,
  ⟨(some 5), .mv (.k (.s (.i .i64 10))), none⟩])
  (.ret))
  (.skip)))
  (.seq (.reg [⟨(some 36), .mv (.t 7), none⟩,
  ⟨(some 37), .mv (.t 1), none⟩,
  ⟨(some 38), .mv (.t 8), none⟩,
  ⟨(some 39), .ia none 1 (.t 37) (.t 38), none⟩,
  ⟨(some 40), .ld (.t 39) none, none⟩,
  ⟨(some 41), .mv (.t 6), none⟩,
  ⟨(some 42), .bin .shl (.t 40) (.t 41), none⟩,
  ⟨(some 43), .bin .add (.t 36) (.t 42), none⟩,
  ⟨(some 7), .mv (.t 43), none⟩])
  (.reg [⟨(some 44), .mv (.t 6), none⟩,
  ⟨(some 45), .mv (.t 0), none⟩,
  ⟨(some 46), .mv (.t 8), none⟩,
  ⟨(some 47), .ia none 1 (.t 45) (.t 46), none⟩,
  ⟨(some 48), .ld (.t 47) none, none⟩,
  ⟨(some 49), .bin .add (.t 44) (.t 48), none⟩,
  ⟨(some 6), .mv (.t 49), none⟩])))))))
  (.reg [⟨(some 15), .mv (.t 8), none⟩,
  ⟨(some 16), .bin .add (.t 15) (.k (.s (.i .i64 1))), none⟩,
  ⟨(some 8), .mv (.t 16), none⟩]))))))
  (.seq (.reg [⟨(some 50), .mv (.t 7), none⟩,
  ⟨(some 4), .mv (.t 50), none⟩,
  ⟨(some 5), .mv (.k (.s (.i .i64 0))), none⟩])
  (.ret))))), [.t 4, .t 5]⟩
theorem dc14 : compF Tryd.prog Tryd.f14 = some df14 := by kernel_rfl
theorem ok14 : FnOk Tryd.prog 14 := ⟨Tryd.f14, Tryd.func14, by kernel_rfl, by kernel_rfl⟩

/-- citadel/citadelref01.Unpack -/
def df15 : DF :=
  ⟨49, .seq (.reg [⟨(some 4), .mv (.k (.s (.ns))), none⟩,
  ⟨(some 5), .mv (.k (.s (.i .i64 0))), none⟩])
  (.seq (.reg [⟨(some 6), .mv (.k (.s (.ns))), none⟩])
  (.seq (.reg [⟨(some 7), .mv (.k (.s (.i .i64 0))), none⟩])
  (.seq (.seq (.reg [⟨(some 8), .mv (.k (.s (.i .i64 0))), none⟩])
  (.block 0 (.loop (.seq (.seq (.reg [⟨(some 11), .mv (.t 8), none⟩,
  ⟨(some 12), .mv (.t 1), none⟩,
  ⟨(some 13), .len (.t 12), none⟩,
  ⟨(some 14), .bin .lss (.t 11) (.t 13), none⟩])
  (.cond (.t 14)
  (.skip)
  (.exit 0)))
  (.seq (.block 1 (.seq (.reg [⟨(some 18), .mv (.t 0), none⟩,
  ⟨(some 19), .mv (.t 7), none⟩,
  ⟨(some 20), .mv (.t 1), none⟩,
  ⟨(some 21), .mv (.t 8), none⟩,
  ⟨(some 22), .ia none 1 (.t 20) (.t 21), none⟩,
  ⟨(some 23), .ld (.t 22) none, none⟩,
  ⟨(some 24), .call 10 [(.t 18), (.t 19), (.t 23)], none⟩,
  ⟨(some 17), .mv (.t 24), none⟩,
  ⟨(some 25), .ext (.t 17) 0, none⟩,
  ⟨(some 26), .ext (.t 17) 1, none⟩,
  ⟨(some 9), .mv (.t 25), none⟩,
  ⟨(some 10), .mv (.t 26), none⟩])
  (.seq (.seq (.reg [⟨(some 27), .mv (.t 10), none⟩,
  ⟨(some 28), .bin .neq (.t 27) (.k (.s (.i .i64 0))), none⟩])
  (.cond (.t 28)
  (.seq (.reg [⟨(some 29), .mv (.t 10), none⟩,
  ⟨(some 4), .mv (.k (.s (.ns))), none⟩,
  ⟨(some 5), .mv (.t 29), none⟩])
  (.ret))
  (.skip)))
  (.seq (.reg [⟨(some 30), .mv (.t 6), none⟩,
  ⟨(some 31), .mv (.t 9), none⟩,
  ⟨(some 32), .bsl 1 [.i .u64 0] [(0, 1, (.t 31))], none⟩,
  ⟨(some 33), .app 1 8 (.t 30) (.t 32), none⟩,
  ⟨(some 6), .mv (.t 33), none⟩])
  (.reg [⟨(some 34), .mv (.t 7), none⟩,
  ⟨(some 35), .mv (.t 1), none⟩,
  ⟨(some 36), .mv (.t 8), none⟩,
  ⟨(some 37), .ia none 1 (.t 35) (.t 36), none⟩,
  ⟨(some 38), .ld (.t 37) none, none⟩,
  ⟨(some 39), .bin .add (.t 34) (.t 38), none⟩,
  ⟨(some 7), .mv (.t 39), none⟩])))))
  (.reg [⟨(some 15), .mv (.t 8), none⟩,
  ⟨(some 16), .bin .add (.t 15) (.k (.s (.i .i64 1))), none⟩,
  ⟨(some 8), .mv (.t 16), none⟩]))))))
  (.seq (.seq (.reg [⟨(some 40), .mv (.t 7), none⟩,
  ⟨(some 41), .bin .lss (.t 40) (.k (.s (.i .i64 64))), none⟩,
  ⟨(some 42), .mv (.t 41), none⟩,
  ⟨(some 43), .mv (.t 0), (some (42, true))⟩,
  ⟨(some 44), .mv (.t 7), (some (42, true))⟩,
  ⟨(some 45), .bin .shr (.t 43) (.t 44), (some (42, true))⟩,
  ⟨(some 46), .bin .neq (.t 45) (.k (.s (.i .u64 0))), (some (42, true))⟩,
  ⟨(some 47), .pick (.t 42) (.t 46) (.k (.s (.b false))), none⟩])
  (.cond (.t 47)
  (.seq (.reg [⟨(some 4), .mv (.k (.s (.ns))), none⟩,
  ⟨(some 5), .mv (.k (.s (.i .i64 10))), none⟩])
  (.ret))
  (.skip)))
  (.seq (.reg [⟨(some 48), .mv (.t 6), none⟩,
  ⟨(some 4), .mv (.t 48), none⟩,
  ⟨(some 5), .mv (.k (.s (.i .i64 0))), none⟩])
  (.ret)))))), [.t 4, .t 5]⟩
theorem dc15 : compF Tryd.prog Tryd.f15 = some df15 := by kernel_rfl
theorem ok15 : FnOk Tryd.prog 15 := ⟨Tryd.f15, Tryd.func15, by kernel_rfl, by kernel_rfl⟩

/-- citadel/word.Unpack -/
def df16 : DF :=
  ⟨41, .seq (.reg [⟨(some 4), .mv (.k (.s (.ns))), none⟩,
  ⟨(some 5), .mv (.k (.s (.i .i64 0))), none⟩])
  (.seq (.reg [⟨(some 6), .mv (.k (.s (.ns))), none⟩])
  (.seq (.reg [⟨(some 7), .mv (.k (.s (.i .i64 0))), none⟩])
  (.seq (.seq (.reg [⟨(some 12), .mv (.t 1), none⟩,
  ⟨(some 13), .len (.t 12), none⟩,
  ⟨(some 14), .mv (.k (.s (.i .i64 0))), none⟩])
  (.block 0 (.loop (.seq (.reg [⟨(some 15), .bin .lss (.t 14) (.t 13), none⟩])
  (.seq (.cond (.t 15)
  (.skip)
  (.exit 0))
  (.seq (.block 1 (.seq (.reg [⟨(some 16), .ia none 1 (.t 12) (.t 14), none⟩,
  ⟨(some 17), .ld (.t 16) none, none⟩,
  ⟨(some 9), .mv (.t 17), none⟩])
  (.seq (.reg [⟨(some 19), .mv (.t 0), none⟩,
  ⟨(some 20), .mv (.t 7), none⟩,
  ⟨(some 21), .mv (.t 9), none⟩,
  ⟨(some 22), .call 9 [(.t 19), (.t 20), (.t 21)], none⟩,
  ⟨(some 18), .mv (.t 22), none⟩,
  ⟨(some 23), .ext (.t 18) 0, none⟩,
  ⟨(some 24), .ext (.t 18) 1, none⟩,
  ⟨(some 10), .mv (.t 23), none⟩,
  ⟨(some 11), .mv (.t 24), none⟩])
  (.seq (.seq (.reg [⟨(some 25), .mv (.t 11), none⟩,
  ⟨(some 26), .bin .neq (.t 25) (.k (.s (.i .i64 0))), none⟩])
  (.cond (.t 26)
  (.seq (.reg [⟨(some 27), .mv (.t 11), none⟩,
  ⟨(some 4), .mv (.k (.s (.ns))), none⟩,
  ⟨(some 5), .mv (.t 27), none⟩])
  (.ret))
  (.skip)))
  (.seq (.reg [⟨(some 28), .mv (.t 6), none⟩,
  ⟨(some 29), .mv (.t 10), none⟩,
  ⟨(some 30), .bsl 1 [.i .u64 0] [(0, 1, (.t 29))], none⟩,
  ⟨(some 31), .app 1 8 (.t 28) (.t 30), none⟩,
  ⟨(some 6), .mv (.t 31), none⟩])
  (.reg [⟨(some 32), .mv (.t 7), none⟩,
  ⟨(some 33), .mv (.t 9), none⟩,
  ⟨(some 34), .bin .add (.t 32) (.t 33), none⟩,
  ⟨(some 7), .mv (.t 34), none⟩]))))))
  (.reg [⟨(some 35), .bin .add (.t 14) (.k (.s (.i .i64 1))), none⟩,
  ⟨(some 14), .mv (.t 35), none⟩])))))))
  (.seq (.seq (.reg [⟨(some 36), .mv (.t 0), none⟩,
  ⟨(some 37), .mv (.t 7), none⟩,
  ⟨(some 38), .bin .shr (.t 36) (.t 37), none⟩,
  ⟨(some 39), .bin .neq (.t 38) (.k (.s (.i .u64 0))), none⟩])
  (.cond (.t 39)
  (.seq (.reg [⟨(some 4), .mv (.k (.s (.ns))), none⟩,
  ⟨(some 5), .mv (.k (.s (.i .i64 10))), none⟩])
  (.ret))
  (.skip)))
  (.seq (.reg [⟨(some 40), .mv (.t 6), none⟩,
  ⟨(some 4), .mv (.t 40), none⟩,
  ⟨(some 5), .mv (.k (.s (.i .i64 0))), none⟩])
  (.ret)))))), [.t 4, .t 5]⟩
theorem dc16 : compF Tryd.prog Tryd.f16 = some df16 := by kernel_rfl
theorem ok16 : FnOk Tryd.prog 16 := ⟨Tryd.f16, Tryd.func16, by kernel_rfl, by kernel_rfl⟩

/-- citadel/citadellaw01.same -/
def df17 : DF :=
  ⟨26, .seq (.reg [⟨(some 4), .mv (.k (.s (.b false))), none⟩])
  (.seq (.seq (.reg [⟨(some 6), .mv (.t 0), none⟩,
  ⟨(some 7), .len (.t 6), none⟩,
  ⟨(some 8), .mv (.t 1), none⟩,
  ⟨(some 9), .len (.t 8), none⟩,
  ⟨(some 10), .bin .neq (.t 7) (.t 9), none⟩])
  (.cond (.t 10)
  (.seq (.reg [⟨(some 4), .mv (.k (.s (.b false))), none⟩])
  (.ret))
  (.skip)))
  (.seq (.seq (.reg [⟨(some 5), .mv (.k (.s (.i .i64 0))), none⟩])
  (.block 0 (.loop (.seq (.seq (.reg [⟨(some 11), .mv (.t 5), none⟩,
  ⟨(some 12), .mv (.t 0), none⟩,
  ⟨(some 13), .len (.t 12), none⟩,
  ⟨(some 14), .bin .lss (.t 11) (.t 13), none⟩])
  (.cond (.t 14)
  (.skip)
  (.exit 0)))
  (.seq (.block 1 (.seq (.drq [⟨(some 17), .mv (.t 0), none⟩,
  ⟨(some 18), .mv (.t 5), none⟩,
  ⟨(some 19), .ia none 1 (.t 17) (.t 18), none⟩,
  ⟨(some 20), .ld (.t 19) none, none⟩,
  ⟨(some 21), .mv (.t 1), none⟩,
  ⟨(some 22), .mv (.t 5), none⟩,
  ⟨(some 23), .ia none 1 (.t 21) (.t 22), none⟩,
  ⟨(some 24), .ld (.t 23) none, none⟩,
  ⟨(some 25), .bin .neq (.t 20) (.t 24), none⟩])
  (.cond (.t 25)
  (.seq (.reg [⟨(some 4), .mv (.k (.s (.b false))), none⟩])
  (.ret))
  (.skip))))
  (.reg [⟨(some 15), .mv (.t 5), none⟩,
  ⟨(some 16), .bin .add (.t 15) (.k (.s (.i .i64 1))), none⟩,
  ⟨(some 5), .mv (.t 16), none⟩]))))))
  (.seq (.reg [⟨(some 4), .mv (.k (.s (.b true))), none⟩])
  (.ret)))), [.t 4]⟩
theorem dc17 : compF Tryd.prog Tryd.f17 = some df17 := by kernel_rfl
theorem ok17 : FnOk Tryd.prog 17 := ⟨Tryd.f17, Tryd.func17, by kernel_rfl, by kernel_rfl⟩

/-- citadel/word.High -/
def df18 : DF :=
  ⟨6, .seq (.reg [⟨(some 2), .mv (.k (.s (.i .i64 0))), none⟩])
  (.seq (.reg [⟨(some 3), .mv (.t 0), none⟩,
  ⟨(some 4), .call 30 [(.t 3)], none⟩,
  ⟨(some 5), .bin .sub (.t 4) (.k (.s (.i .i64 1))), none⟩,
  ⟨(some 2), .mv (.t 5), none⟩])
  (.ret)), [.t 2]⟩
theorem dc18 : compF Tryd.prog Tryd.f18 = some df18 := by kernel_rfl
theorem ok18 : FnOk Tryd.prog 18 := ⟨Tryd.f18, Tryd.func18, by kernel_rfl, by kernel_rfl⟩

/-- citadel/citadelref01.High -/
def df19 : DF :=
  ⟨14, .seq (.reg [⟨(some 2), .mv (.k (.s (.i .i64 0))), none⟩])
  (.seq (.seq (.reg [⟨(some 3), .mv (.k (.s (.i .i64 63))), none⟩])
  (.block 0 (.loop (.seq (.seq (.reg [⟨(some 5), .mv (.t 3), none⟩,
  ⟨(some 6), .bin .geq (.t 5) (.k (.s (.i .i64 0))), none⟩])
  (.cond (.t 6)
  (.skip)
  (.exit 0)))
  (.seq (.block 1 (.seq (.reg [⟨(some 9), .mv (.t 0), none⟩,
  ⟨(some 10), .mv (.t 3), none⟩,
  ⟨(some 11), .call 28 [(.t 9), (.t 10)], none⟩,
  ⟨(some 4), .mv (.t 11), none⟩])
  (.seq (.reg [⟨(some 12), .mv (.t 4), none⟩])
  (.cond (.t 12)
  (.seq (.reg [⟨(some 13), .mv (.t 3), none⟩,
  ⟨(some 2), .mv (.t 13), none⟩])
  (.ret))
  (.skip)))))
  (.reg [⟨(some 7), .mv (.t 3), none⟩,
  ⟨(some 8), .bin .sub (.t 7) (.k (.s (.i .i64 1))), none⟩,
  ⟨(some 3), .mv (.t 8), none⟩]))))))
  (.seq (.reg [⟨(some 2), .mv (.k (.s (.i .i64 (-1)))), none⟩])
  (.ret))), [.t 2]⟩
theorem dc19 : compF Tryd.prog Tryd.f19 = some df19 := by kernel_rfl
theorem ok19 : FnOk Tryd.prog 19 := ⟨Tryd.f19, Tryd.func19, by kernel_rfl, by kernel_rfl⟩

/-- citadel/word.Low -/
def df20 : DF :=
  ⟨7, .seq (.reg [⟨(some 2), .mv (.k (.s (.i .i64 0))), none⟩])
  (.seq (.seq (.reg [⟨(some 3), .mv (.t 0), none⟩,
  ⟨(some 4), .bin .eql (.t 3) (.k (.s (.i .u64 0))), none⟩])
  (.cond (.t 4)
  (.seq (.reg [⟨(some 2), .mv (.k (.s (.i .i64 (-1)))), none⟩])
  (.ret))
  (.skip)))
  (.seq (.reg [⟨(some 5), .mv (.t 0), none⟩,
  ⟨(some 6), .call 31 [(.t 5)], none⟩,
  ⟨(some 2), .mv (.t 6), none⟩])
  (.ret))), [.t 2]⟩
theorem dc20 : compF Tryd.prog Tryd.f20 = some df20 := by kernel_rfl
theorem ok20 : FnOk Tryd.prog 20 := ⟨Tryd.f20, Tryd.func20, by kernel_rfl, by kernel_rfl⟩

/-- citadel/citadelref01.Low -/
def df21 : DF :=
  ⟨14, .seq (.reg [⟨(some 2), .mv (.k (.s (.i .i64 0))), none⟩])
  (.seq (.seq (.reg [⟨(some 3), .mv (.k (.s (.i .i64 0))), none⟩])
  (.block 0 (.loop (.seq (.seq (.reg [⟨(some 5), .mv (.t 3), none⟩,
  ⟨(some 6), .bin .lss (.t 5) (.k (.s (.i .i64 64))), none⟩])
  (.cond (.t 6)
  (.skip)
  (.exit 0)))
  (.seq (.block 1 (.seq (.reg [⟨(some 9), .mv (.t 0), none⟩,
  ⟨(some 10), .mv (.t 3), none⟩,
  ⟨(some 11), .call 28 [(.t 9), (.t 10)], none⟩,
  ⟨(some 4), .mv (.t 11), none⟩])
  (.seq (.reg [⟨(some 12), .mv (.t 4), none⟩])
  (.cond (.t 12)
  (.seq (.reg [⟨(some 13), .mv (.t 3), none⟩,
  ⟨(some 2), .mv (.t 13), none⟩])
  (.ret))
  (.skip)))))
  (.reg [⟨(some 7), .mv (.t 3), none⟩,
  ⟨(some 8), .bin .add (.t 7) (.k (.s (.i .i64 1))), none⟩,
  ⟨(some 3), .mv (.t 8), none⟩]))))))
  (.seq (.reg [⟨(some 2), .mv (.k (.s (.i .i64 (-1)))), none⟩])
  (.ret))), [.t 2]⟩
theorem dc21 : compF Tryd.prog Tryd.f21 = some df21 := by kernel_rfl
theorem ok21 : FnOk Tryd.prog 21 := ⟨Tryd.f21, Tryd.func21, by kernel_rfl, by kernel_rfl⟩

/-- citadel/word.Count -/
def df22 : DF :=
  ⟨5, .seq (.reg [⟨(some 2), .mv (.k (.s (.i .i64 0))), none⟩])
  (.seq (.reg [⟨(some 3), .mv (.t 0), none⟩,
  ⟨(some 4), .call 32 [(.t 3)], none⟩,
  ⟨(some 2), .mv (.t 4), none⟩])
  (.ret)), [.t 2]⟩
theorem dc22 : compF Tryd.prog Tryd.f22 = some df22 := by kernel_rfl
theorem ok22 : FnOk Tryd.prog 22 := ⟨Tryd.f22, Tryd.func22, by kernel_rfl, by kernel_rfl⟩

/-- citadel/citadelref01.Count -/
def df23 : DF :=
  ⟨17, .seq (.reg [⟨(some 2), .mv (.k (.s (.i .i64 0))), none⟩])
  (.seq (.reg [⟨(some 3), .mv (.k (.s (.i .i64 0))), none⟩])
  (.seq (.seq (.reg [⟨(some 4), .mv (.k (.s (.i .i64 0))), none⟩])
  (.block 0 (.loop (.seq (.seq (.reg [⟨(some 6), .mv (.t 4), none⟩,
  ⟨(some 7), .bin .lss (.t 6) (.k (.s (.i .i64 64))), none⟩])
  (.cond (.t 7)
  (.skip)
  (.exit 0)))
  (.seq (.block 1 (.seq (.reg [⟨(some 10), .mv (.t 0), none⟩,
  ⟨(some 11), .mv (.t 4), none⟩,
  ⟨(some 12), .call 28 [(.t 10), (.t 11)], none⟩,
  ⟨(some 5), .mv (.t 12), none⟩])
  (.seq (.reg [⟨(some 13), .mv (.t 5), none⟩])
  (.cond (.t 13)
  (.reg [⟨(some 14), .mv (.t 3), none⟩,
  ⟨(some 15), .bin .add (.t 14) (.k (.s (.i .i64 1))), none⟩,
  ⟨(some 3), .mv (.t 15), none⟩])
  (.skip)))))
  (.reg [⟨(some 8), .mv (.t 4), none⟩,
  ⟨(some 9), .bin .add (.t 8) (.k (.s (.i .i64 1))), none⟩,
  ⟨(some 4), .mv (.t 9), none⟩]))))))
  (.seq (.reg [⟨(some 16), .mv (.t 3), none⟩,
  ⟨(some 2), .mv (.t 16), none⟩])
  (.ret)))), [.t 2]⟩
theorem dc23 : compF Tryd.prog Tryd.f23 = some df23 := by kernel_rfl
theorem ok23 : FnOk Tryd.prog 23 := ⟨Tryd.f23, Tryd.func23, by kernel_rfl, by kernel_rfl⟩

/-- citadel/word.Aligned -/
def df24 : DF :=
  ⟨23, .seq (.reg [⟨(some 4), .mv (.k (.s (.b false))), none⟩])
  (.seq (.reg [⟨(some 5), .mv (.t 0), none⟩,
  ⟨(some 6), .bin .geq (.t 5) (.k (.s (.i .i64 0))), none⟩,
  ⟨(some 7), .mv (.t 6), none⟩,
  ⟨(some 8), .mv (.t 1), (some (7, true))⟩,
  ⟨(some 9), .bin .geq (.t 8) (.k (.s (.i .i64 0))), (some (7, true))⟩,
  ⟨(some 10), .pick (.t 7) (.t 9) (.k (.s (.b false))), none⟩,
  ⟨(some 11), .mv (.t 10), none⟩,
  ⟨(some 12), .mv (.t 1), (some (11, true))⟩,
  ⟨(some 13), .bin .leq (.t 12) (.k (.s (.i .i64 62))), (some (11, true))⟩,
  ⟨(some 14), .pick (.t 11) (.t 13) (.k (.s (.b false))), none⟩,
  ⟨(some 15), .mv (.t 14), none⟩,
  ⟨(some 16), .mv (.t 0), (some (15, true))⟩,
  ⟨(some 17), .mv (.t 1), (some (15, true))⟩,
  ⟨(some 18), .bin .shl (.k (.s (.i .i64 1))) (.t 17), (some (15, true))⟩,
  ⟨(some 19), .bin .sub (.t 18) (.k (.s (.i .i64 1))), (some (15, true))⟩,
  ⟨(some 20), .bin .and (.t 16) (.t 19), (some (15, true))⟩,
  ⟨(some 21), .bin .eql (.t 20) (.k (.s (.i .i64 0))), (some (15, true))⟩,
  ⟨(some 22), .pick (.t 15) (.t 21) (.k (.s (.b false))), none⟩,
  ⟨(some 4), .mv (.t 22), none⟩])
  (.ret)), [.t 4]⟩
theorem dc24 : compF Tryd.prog Tryd.f24 = some df24 := by kernel_rfl
theorem ok24 : FnOk Tryd.prog 24 := ⟨Tryd.f24, Tryd.func24, by kernel_rfl, by kernel_rfl⟩

/-- citadel/citadelref01.Aligned -/
def df25 : DF :=
  ⟨22, .seq (.reg [⟨(some 4), .mv (.k (.s (.b false))), none⟩])
  (.seq (.reg [⟨(some 5), .mv (.t 0), none⟩,
  ⟨(some 6), .bin .geq (.t 5) (.k (.s (.i .i64 0))), none⟩,
  ⟨(some 7), .mv (.t 6), none⟩,
  ⟨(some 8), .mv (.t 1), (some (7, true))⟩,
  ⟨(some 9), .bin .geq (.t 8) (.k (.s (.i .i64 0))), (some (7, true))⟩,
  ⟨(some 10), .pick (.t 7) (.t 9) (.k (.s (.b false))), none⟩,
  ⟨(some 11), .mv (.t 10), none⟩,
  ⟨(some 12), .mv (.t 1), (some (11, true))⟩,
  ⟨(some 13), .bin .leq (.t 12) (.k (.s (.i .i64 62))), (some (11, true))⟩,
  ⟨(some 14), .pick (.t 11) (.t 13) (.k (.s (.b false))), none⟩,
  ⟨(some 15), .mv (.t 14), none⟩,
  ⟨(some 16), .mv (.t 0), (some (15, true))⟩,
  ⟨(some 17), .mv (.t 1), (some (15, true))⟩,
  ⟨(some 18), .bin .shl (.k (.s (.i .i64 1))) (.t 17), (some (15, true))⟩,
  ⟨(some 19), .bin .rem (.t 16) (.t 18), (some (15, true))⟩,
  ⟨(some 20), .bin .eql (.t 19) (.k (.s (.i .i64 0))), (some (15, true))⟩,
  ⟨(some 21), .pick (.t 15) (.t 20) (.k (.s (.b false))), none⟩,
  ⟨(some 4), .mv (.t 21), none⟩])
  (.ret)), [.t 4]⟩
theorem dc25 : compF Tryd.prog Tryd.f25 = some df25 := by kernel_rfl
theorem ok25 : FnOk Tryd.prog 25 := ⟨Tryd.f25, Tryd.func25, by kernel_rfl, by kernel_rfl⟩

/-- citadel/word.mask -/
def df26 : DF :=
  ⟨27, .seq (.reg [⟨(some 4), .mv (.k (.s (.i .u64 0))), none⟩,
  ⟨(some 5), .mv (.k (.s (.b false))), none⟩])
  (.seq (.seq (.reg [⟨(some 6), .mv (.t 0), none⟩,
  ⟨(some 7), .bin .lss (.t 6) (.k (.s (.i .i64 0))), none⟩,
  ⟨(some 8), .mv (.t 7), none⟩,
  ⟨(some 9), .mv (.t 0), (some (8, false))⟩,
  ⟨(some 10), .bin .gtr (.t 9) (.k (.s (.i .i64 63))), (some (8, false))⟩,
  ⟨(some 11), .pick (.t 8) (.k (.s (.b true))) (.t 10), none⟩,
  ⟨(some 12), .mv (.t 11), none⟩,
  ⟨(some 13), .mv (.t 1), (some (12, false))⟩,
  ⟨(some 14), .bin .lss (.t 13) (.k (.s (.i .i64 1))), (some (12, false))⟩,
  ⟨(some 15), .pick (.t 12) (.k (.s (.b true))) (.t 14), none⟩,
  ⟨(some 16), .mv (.t 15), none⟩,
  ⟨(some 17), .mv (.t 1), (some (16, false))⟩,
  ⟨(some 18), .mv (.t 0), (some (16, false))⟩,
  ⟨(some 19), .bin .sub (.k (.s (.i .i64 64))) (.t 18), (some (16, false))⟩,
  ⟨(some 20), .bin .gtr (.t 17) (.t 19), (some (16, false))⟩,
  ⟨(some 21), .pick (.t 16) (.k (.s (.b true))) (.t 20), none⟩])
  (.cond (.t 21)
  (.seq (.reg [⟨(some 4), .mv (.k (.s (.i .u64 0))), none⟩,
  ⟨(some 5), .mv (.k (.s (.b false))), none⟩])
  (.ret))
  (.skip)))
  (.seq (.reg [⟨(some 22), .mv (.t 1), none⟩,
  ⟨(some 23), .bin .sub (.k (.s (.i .i64 64))) (.t 22), none⟩,
  ⟨(some 24), .bin .shr (.k (.s (.i .u64 18446744073709551615))) (.t 23), none⟩,
  ⟨(some 25), .mv (.t 0), none⟩,
  ⟨(some 26), .bin .shl (.t 24) (.t 25), none⟩,
  ⟨(some 4), .mv (.t 26), none⟩,
  ⟨(some 5), .mv (.k (.s (.b true))), none⟩])
  (.ret))), [.t 4, .t 5]⟩
theorem dc26 : compF Tryd.prog Tryd.f26 = some df26 := by kernel_rfl
theorem ok26 : FnOk Tryd.prog 26 := ⟨Tryd.f26, Tryd.func26, by kernel_rfl, by kernel_rfl⟩

/-- citadel/citadelref01.field -/
def df27 : DF :=
  ⟨21, .seq (.reg [⟨(some 4), .mv (.k (.s (.b false))), none⟩])
  (.seq (.reg [⟨(some 5), .mv (.t 0), none⟩,
  ⟨(some 6), .bin .geq (.t 5) (.k (.s (.i .i64 0))), none⟩,
  ⟨(some 7), .mv (.t 6), none⟩,
  ⟨(some 8), .mv (.t 0), (some (7, true))⟩,
  ⟨(some 9), .bin .lss (.t 8) (.k (.s (.i .i64 64))), (some (7, true))⟩,
  ⟨(some 10), .pick (.t 7) (.t 9) (.k (.s (.b false))), none⟩,
  ⟨(some 11), .mv (.t 10), none⟩,
  ⟨(some 12), .mv (.t 1), (some (11, true))⟩,
  ⟨(some 13), .bin .geq (.t 12) (.k (.s (.i .i64 1))), (some (11, true))⟩,
  ⟨(some 14), .pick (.t 11) (.t 13) (.k (.s (.b false))), none⟩,
  ⟨(some 15), .mv (.t 14), none⟩,
  ⟨(some 16), .mv (.t 1), (some (15, true))⟩,
  ⟨(some 17), .mv (.t 0), (some (15, true))⟩,
  ⟨(some 18), .bin .sub (.k (.s (.i .i64 64))) (.t 17), (some (15, true))⟩,
  ⟨(some 19), .bin .leq (.t 16) (.t 18), (some (15, true))⟩,
  ⟨(some 20), .pick (.t 15) (.t 19) (.k (.s (.b false))), none⟩,
  ⟨(some 4), .mv (.t 20), none⟩])
  (.ret)), [.t 4]⟩
theorem dc27 : compF Tryd.prog Tryd.f27 = some df27 := by kernel_rfl
theorem ok27 : FnOk Tryd.prog 27 := ⟨Tryd.f27, Tryd.func27, by kernel_rfl, by kernel_rfl⟩

/-- citadel/citadelref01.Bit -/
def df28 : DF :=
  ⟨10, .seq (.reg [⟨(some 4), .mv (.k (.s (.b false))), none⟩])
  (.seq (.reg [⟨(some 5), .mv (.t 0), none⟩,
  ⟨(some 6), .mv (.t 1), none⟩,
  ⟨(some 7), .bin .shr (.t 5) (.t 6), none⟩,
  ⟨(some 8), .bin .rem (.t 7) (.k (.s (.i .u64 2))), none⟩,
  ⟨(some 9), .bin .eql (.t 8) (.k (.s (.i .u64 1))), none⟩,
  ⟨(some 4), .mv (.t 9), none⟩])
  (.ret)), [.t 4]⟩
theorem dc28 : compF Tryd.prog Tryd.f28 = some df28 := by kernel_rfl
theorem ok28 : FnOk Tryd.prog 28 := ⟨Tryd.f28, Tryd.func28, by kernel_rfl, by kernel_rfl⟩

/-- citadel/citadelref01.fits -/
def df29 : DF :=
  ⟨13, .seq (.reg [⟨(some 4), .mv (.k (.s (.b false))), none⟩])
  (.seq (.reg [⟨(some 5), .mv (.t 1), none⟩,
  ⟨(some 6), .bin .geq (.t 5) (.k (.s (.i .i64 64))), none⟩,
  ⟨(some 7), .mv (.t 6), none⟩,
  ⟨(some 8), .mv (.t 0), (some (7, false))⟩,
  ⟨(some 9), .mv (.t 1), (some (7, false))⟩,
  ⟨(some 10), .bin .shr (.t 8) (.t 9), (some (7, false))⟩,
  ⟨(some 11), .bin .eql (.t 10) (.k (.s (.i .u64 0))), (some (7, false))⟩,
  ⟨(some 12), .pick (.t 7) (.k (.s (.b true))) (.t 11), none⟩,
  ⟨(some 4), .mv (.t 12), none⟩])
  (.ret)), [.t 4]⟩
theorem dc29 : compF Tryd.prog Tryd.f29 = some df29 := by kernel_rfl
theorem ok29 : FnOk Tryd.prog 29 := ⟨Tryd.f29, Tryd.func29, by kernel_rfl, by kernel_rfl⟩

/-- math/bits.OnesCount64 -/
def df32 : DF :=
  ⟨35, .seq (.reg [⟨(some 2), .mv (.k (.s (.i .i64 0))), none⟩])
  (.seq (.reg [⟨(some 3), .mv (.t 0), none⟩,
  ⟨(some 4), .bin .shr (.t 3) (.k (.s (.i .u64 1))), none⟩,
  ⟨(some 5), .bin .and (.t 4) (.k (.s (.i .u64 6148914691236517205))), none⟩,
  ⟨(some 6), .mv (.t 0), none⟩,
  ⟨(some 7), .bin .and (.t 6) (.k (.s (.i .u64 6148914691236517205))), none⟩,
  ⟨(some 8), .bin .add (.t 5) (.t 7), none⟩,
  ⟨(some 0), .mv (.t 8), none⟩])
  (.seq (.reg [⟨(some 9), .mv (.t 0), none⟩,
  ⟨(some 10), .bin .shr (.t 9) (.k (.s (.i .u64 2))), none⟩,
  ⟨(some 11), .bin .and (.t 10) (.k (.s (.i .u64 3689348814741910323))), none⟩,
  ⟨(some 12), .mv (.t 0), none⟩,
  ⟨(some 13), .bin .and (.t 12) (.k (.s (.i .u64 3689348814741910323))), none⟩,
  ⟨(some 14), .bin .add (.t 11) (.t 13), none⟩,
  ⟨(some 0), .mv (.t 14), none⟩])
  (.seq (.reg [⟨(some 15), .mv (.t 0), none⟩,
  ⟨(some 16), .bin .shr (.t 15) (.k (.s (.i .u64 4))), none⟩,
  ⟨(some 17), .mv (.t 0), none⟩,
  ⟨(some 18), .bin .add (.t 16) (.t 17), none⟩,
  ⟨(some 19), .bin .and (.t 18) (.k (.s (.i .u64 1085102592571150095))), none⟩,
  ⟨(some 0), .mv (.t 19), none⟩])
  (.seq (.reg [⟨(some 20), .mv (.t 0), none⟩,
  ⟨(some 21), .mv (.t 0), none⟩,
  ⟨(some 22), .bin .shr (.t 21) (.k (.s (.i .u64 8))), none⟩,
  ⟨(some 23), .bin .add (.t 20) (.t 22), none⟩,
  ⟨(some 0), .mv (.t 23), none⟩])
  (.seq (.reg [⟨(some 24), .mv (.t 0), none⟩,
  ⟨(some 25), .mv (.t 0), none⟩,
  ⟨(some 26), .bin .shr (.t 25) (.k (.s (.i .u64 16))), none⟩,
  ⟨(some 27), .bin .add (.t 24) (.t 26), none⟩,
  ⟨(some 0), .mv (.t 27), none⟩])
  (.seq (.reg [⟨(some 28), .mv (.t 0), none⟩,
  ⟨(some 29), .mv (.t 0), none⟩,
  ⟨(some 30), .bin .shr (.t 29) (.k (.s (.i .u64 32))), none⟩,
  ⟨(some 31), .bin .add (.t 28) (.t 30), none⟩,
  ⟨(some 0), .mv (.t 31), none⟩])
  (.seq (.reg [⟨(some 32), .mv (.t 0), none⟩,
  ⟨(some 33), .conv .i64 (.t 32), none⟩,
  ⟨(some 34), .bin .and (.t 33) (.k (.s (.i .i64 127))), none⟩,
  ⟨(some 2), .mv (.t 34), none⟩])
  (.ret)))))))), [.t 2]⟩
theorem dc32 : compF Tryd.prog Tryd.f32 = some df32 := by kernel_rfl
theorem ok32 : FnOk Tryd.prog 32 := ⟨Tryd.f32, Tryd.func32, by kernel_rfl, by kernel_rfl⟩

theorem mixed : Tryd.prog.follows .mixedOrders = true := by kernel_rfl
end Go.Proofs.YtmchhjjdlcmhoaaDoor

