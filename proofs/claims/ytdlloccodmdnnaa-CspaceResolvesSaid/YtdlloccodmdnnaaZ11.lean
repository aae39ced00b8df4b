/- The small code of the functions of this seat, printed by a program, and that the model's code compiles to it. -/
import Derived.Test.YtdlloccodmdnnaaProg
import Derived.Test.YtdlloccodmdnnaaZ5
import Derived.KernelRfl
/- The small code of the functions of this seat, printed by a program, and that the model's code compiles to it. -/
namespace Go.Proofs.Ytdlloccodmdnnaa
open Go.D
set_option linter.all false
set_option maxRecDepth 100000

/-- citadel/citadellaw10.CspaceLocal -/
def df3 : DF :=
  ⟨174, .seq (.reg [⟨(some 6), .box (.t 1), none⟩,
  ⟨(some 10), .mv (.k (.s (.b false))), none⟩])
  (.seq (.reg [⟨(some 29), .call 13 [], none⟩,
  ⟨(some 11), .mv (.t 29), none⟩])
  (.seq (.reg [⟨(some 12), .mv (.k (.s (.ns))), none⟩])
  (.seq (.seq (.reg [⟨(some 13), .mv (.k (.s (.i .i64 0))), none⟩])
  (.block 0 (.loop (.seq (.seq (.reg [⟨(some 30), .mv (.t 13), none⟩,
  ⟨(some 31), .mv (.t 0), none⟩,
  ⟨(some 32), .len (.t 31), none⟩,
  ⟨(some 33), .bin .lss (.t 30) (.t 32), none⟩,
  ⟨(some 34), .mv (.t 33), none⟩,
  ⟨(some 35), .mv (.t 13), (some (34, true))⟩,
  ⟨(some 36), .bin .lss (.t 35) (.k (.s (.i .i64 50))), (some (34, true))⟩,
  ⟨(some 37), .pick (.t 34) (.t 36) (.k (.s (.b false))), none⟩])
  (.cond (.t 37)
  (.skip)
  (.exit 0)))
  (.seq (.block 1 (.seq (.reg [⟨(some 40), .mv (.t 0), none⟩,
  ⟨(some 41), .mv (.t 13), none⟩,
  ⟨(some 42), .ia none 12 (.t 40) (.t 41), none⟩,
  ⟨(some 43), .ld (.t 42) (some 12), none⟩,
  ⟨(some 14), .new [.i .i64 0, .i .i64 0, .i .i64 0, .i .i64 0, .i .i64 0, .i .i64 0, .i .i64 0, .i .i64 0, .i .i64 0, .i .i64 0, .i .i64 0, .i .i64 0], none⟩,
  ⟨none, .st (.t 14) (.t 43) 12, none⟩])
  (.seq (.reg [⟨(some 44), .fa (.t 14) 1, none⟩,
  ⟨(some 45), .ld (.t 44) (some 11), none⟩,
  ⟨(some 46), .call 14 [(.t 45)], none⟩,
  ⟨(some 15), .mv (.t 46), none⟩])
  (.seq (.drq [⟨(some 47), .mv (.t 15), none⟩,
  ⟨(some 48), .mv (.t 47), none⟩,
  ⟨(some 49), .fa (.t 14) 0, (some (48, true))⟩,
  ⟨(some 50), .ld (.t 49) none, (some (48, true))⟩,
  ⟨(some 51), .bin .geq (.t 50) (.k (.s (.i .i64 0))), (some (48, true))⟩,
  ⟨(some 52), .pick (.t 48) (.t 51) (.k (.s (.b false))), none⟩,
  ⟨(some 53), .mv (.t 52), none⟩,
  ⟨(some 54), .fa (.t 14) 0, (some (53, true))⟩,
  ⟨(some 55), .ld (.t 54) none, (some (53, true))⟩,
  ⟨(some 56), .bin .lss (.t 55) (.k (.s (.i .i64 2048))), (some (53, true))⟩,
  ⟨(some 57), .pick (.t 53) (.t 56) (.k (.s (.b false))), none⟩,
  ⟨(some 58), .mv (.t 57), none⟩,
  ⟨(some 59), .fa (.t 14) 1, (some (58, true))⟩,
  ⟨(some 60), .fa (.t 59) 0, (some (58, true))⟩,
  ⟨(some 61), .ld (.t 60) none, (some (58, true))⟩,
  ⟨(some 62), .bin .neq (.t 61) (.k (.s (.i .i64 2))), (some (58, true))⟩,
  ⟨(some 63), .mv (.t 62), (some (58, true))⟩,
  ⟨(some 64), .fa (.t 14) 1, (some (63, false))⟩,
  ⟨(some 65), .fa (.t 64) 1, (some (63, false))⟩,
  ⟨(some 66), .ld (.t 65) none, (some (63, false))⟩,
  ⟨(some 67), .fa (.t 14) 1, (some (63, false))⟩,
  ⟨(some 68), .fa (.t 67) 2, (some (63, false))⟩,
  ⟨(some 69), .ld (.t 68) none, (some (63, false))⟩,
  ⟨(some 70), .bin .shl (.k (.s (.i .i64 4))) (.t 69), (some (63, false))⟩,
  ⟨(some 71), .bin .add (.t 66) (.t 70), (some (63, false))⟩,
  ⟨(some 72), .bin .leq (.t 71) (.k (.s (.i .i64 2048))), (some (63, false))⟩,
  ⟨(some 73), .pick (.t 63) (.k (.s (.b true))) (.t 72), (some (58, true))⟩,
  ⟨(some 74), .pick (.t 58) (.t 73) (.k (.s (.b false))), none⟩])
  (.cond (.t 74)
  (.reg [⟨(some 75), .mv (.t 12), none⟩,
  ⟨(some 76), .ld (.t 14) (some 12), none⟩,
  ⟨(some 77), .bsl 1 [.i .i64 0, .i .i64 0, .i .i64 0, .i .i64 0, .i .i64 0, .i .i64 0, .i .i64 0, .i .i64 0, .i .i64 0, .i .i64 0, .i .i64 0, .i .i64 0] [(0, 12, (.t 76))], none⟩,
  ⟨(some 78), .app 12 96 (.t 75) (.t 77), none⟩,
  ⟨(some 12), .mv (.t 78), none⟩])
  (.skip))))))
  (.reg [⟨(some 38), .mv (.t 13), none⟩,
  ⟨(some 39), .bin .add (.t 38) (.k (.s (.i .i64 1))), none⟩,
  ⟨(some 13), .mv (.t 39), none⟩]))))))
  (.seq (.reg [⟨(some 79), .bsl 0 [] [], none⟩,
  ⟨(some 80), .mv (.t 12), none⟩,
  ⟨(some 81), .app 12 96 (.t 79) (.t 80), none⟩,
  ⟨(some 16), .mv (.t 81), none⟩])
  (.seq (.seq (.reg [⟨(some 17), .mv (.k (.s (.i .i64 0))), none⟩])
  (.block 2 (.loop (.seq (.seq (.reg [⟨(some 82), .mv (.t 17), none⟩,
  ⟨(some 83), .mv (.t 4), none⟩,
  ⟨(some 84), .len (.t 83), none⟩,
  ⟨(some 85), .bin .lss (.t 82) (.t 84), none⟩,
  ⟨(some 86), .mv (.t 85), none⟩,
  ⟨(some 87), .mv (.t 17), (some (86, true))⟩,
  ⟨(some 88), .bin .lss (.t 87) (.k (.s (.i .i64 40))), (some (86, true))⟩,
  ⟨(some 89), .pick (.t 86) (.t 88) (.k (.s (.b false))), none⟩])
  (.cond (.t 89)
  (.skip)
  (.exit 2)))
  (.seq (.block 3 (.seq (.reg [⟨(some 92), .mv (.t 4), none⟩,
  ⟨(some 93), .mv (.t 17), none⟩,
  ⟨(some 94), .ia none 12 (.t 92) (.t 93), none⟩,
  ⟨(some 95), .fa (.t 94) 0, none⟩,
  ⟨(some 96), .ld (.t 95) none, none⟩,
  ⟨(some 97), .bin .geq (.t 96) (.k (.s (.i .i64 2048))), none⟩])
  (.cond (.t 97)
  (.reg [⟨(some 98), .mv (.t 16), none⟩,
  ⟨(some 99), .mv (.t 4), none⟩,
  ⟨(some 100), .mv (.t 17), none⟩,
  ⟨(some 101), .ia none 12 (.t 99) (.t 100), none⟩,
  ⟨(some 102), .ld (.t 101) (some 12), none⟩,
  ⟨(some 103), .bsl 1 [.i .i64 0, .i .i64 0, .i .i64 0, .i .i64 0, .i .i64 0, .i .i64 0, .i .i64 0, .i .i64 0, .i .i64 0, .i .i64 0, .i .i64 0, .i .i64 0] [(0, 12, (.t 102))], none⟩,
  ⟨(some 104), .app 12 96 (.t 98) (.t 103), none⟩,
  ⟨(some 16), .mv (.t 104), none⟩])
  (.skip))))
  (.reg [⟨(some 90), .mv (.t 17), none⟩,
  ⟨(some 91), .bin .add (.t 90) (.k (.s (.i .i64 1))), none⟩,
  ⟨(some 17), .mv (.t 91), none⟩]))))))
  (.seq (.reg [⟨(some 106), .mv (.t 12), none⟩,
  ⟨(some 107), .call 15 [(.t 106)], none⟩,
  ⟨(some 105), .mv (.t 107), none⟩,
  ⟨(some 108), .ext (.t 105) 0, none⟩,
  ⟨(some 109), .ext (.t 105) 1, none⟩,
  ⟨(some 18), .mv (.t 108), none⟩,
  ⟨(some 19), .mv (.t 109), none⟩])
  (.seq (.reg [⟨(some 111), .mv (.t 16), none⟩,
  ⟨(some 112), .call 15 [(.t 111)], none⟩,
  ⟨(some 110), .mv (.t 112), none⟩,
  ⟨(some 113), .ext (.t 110) 0, none⟩,
  ⟨(some 114), .ext (.t 110) 1, none⟩,
  ⟨(some 20), .mv (.t 113), none⟩,
  ⟨(some 21), .mv (.t 114), none⟩])
  (.seq (.seq (.reg [⟨(some 115), .mv (.t 18), none⟩,
  ⟨(some 116), .eqn false false (.t 115), none⟩,
  ⟨(some 117), .mv (.t 116), none⟩,
  ⟨(some 118), .mv (.t 20), (some (117, false))⟩,
  ⟨(some 119), .eqn false false (.t 118), (some (117, false))⟩,
  ⟨(some 120), .pick (.t 117) (.k (.s (.b true))) (.t 119), none⟩])
  (.cond (.t 120)
  (.seq (.reg [⟨(some 10), .mv (.k (.s (.b false))), none⟩])
  (.ret))
  (.skip)))
  (.seq (.reg [⟨(some 121), .ld (.t 6) (some 11), none⟩,
  ⟨(some 122), .call 14 [(.t 121)], none⟩,
  ⟨(some 22), .mv (.t 122), none⟩])
  (.seq (.seq (.drq [⟨(some 123), .mv (.t 22), none⟩,
  ⟨(some 124), .un .not (.t 123), none⟩,
  ⟨(some 125), .mv (.t 124), none⟩,
  ⟨(some 126), .fa (.t 6) 0, (some (125, false))⟩,
  ⟨(some 127), .ld (.t 126) none, (some (125, false))⟩,
  ⟨(some 128), .bin .neq (.t 127) (.k (.s (.i .i64 2))), (some (125, false))⟩,
  ⟨(some 129), .pick (.t 125) (.k (.s (.b true))) (.t 128), none⟩,
  ⟨(some 130), .mv (.t 129), none⟩,
  ⟨(some 131), .fa (.t 6) 1, (some (130, false))⟩,
  ⟨(some 132), .ld (.t 131) none, (some (130, false))⟩,
  ⟨(some 133), .fa (.t 6) 2, (some (130, false))⟩,
  ⟨(some 134), .ld (.t 133) none, (some (130, false))⟩,
  ⟨(some 135), .bin .shl (.k (.s (.i .i64 4))) (.t 134), (some (130, false))⟩,
  ⟨(some 136), .bin .add (.t 132) (.t 135), (some (130, false))⟩,
  ⟨(some 137), .bin .gtr (.t 136) (.k (.s (.i .i64 2048))), (some (130, false))⟩,
  ⟨(some 138), .pick (.t 130) (.k (.s (.b true))) (.t 137), none⟩])
  (.cond (.t 138)
  (.seq (.reg [⟨(some 139), .mv (.t 11), none⟩,
  ⟨(some 10), .mv (.t 139), none⟩])
  (.ret))
  (.skip)))
  (.seq (.reg [⟨(some 141), .mv (.t 18), none⟩,
  ⟨(some 142), .ld (.t 6) (some 11), none⟩,
  ⟨(some 143), .mv (.t 2), none⟩,
  ⟨(some 144), .mv (.t 3), none⟩,
  ⟨(some 145), .call 16 [(.t 141), (.t 142), (.t 143), (.t 144)], none⟩,
  ⟨(some 140), .mv (.t 145), none⟩,
  ⟨(some 146), .ext (.t 140) 0, none⟩,
  ⟨(some 147), .ext (.t 140) 1, none⟩,
  ⟨(some 148), .ext (.t 140) 2, none⟩,
  ⟨(some 23), .mv (.t 146), none⟩,
  ⟨(some 24), .mv (.t 147), none⟩,
  ⟨(some 25), .mv (.t 148), none⟩])
  (.seq (.reg [⟨(some 150), .mv (.t 20), none⟩,
  ⟨(some 151), .ld (.t 6) (some 11), none⟩,
  ⟨(some 152), .mv (.t 2), none⟩,
  ⟨(some 153), .mv (.t 3), none⟩,
  ⟨(some 154), .call 16 [(.t 150), (.t 151), (.t 152), (.t 153)], none⟩,
  ⟨(some 149), .mv (.t 154), none⟩,
  ⟨(some 155), .ext (.t 149) 0, none⟩,
  ⟨(some 156), .ext (.t 149) 1, none⟩,
  ⟨(some 157), .ext (.t 149) 2, none⟩,
  ⟨(some 26), .mv (.t 155), none⟩,
  ⟨(some 27), .mv (.t 156), none⟩,
  ⟨(some 28), .mv (.t 157), none⟩])
  (.seq (.reg [⟨(some 158), .mv (.t 11), none⟩,
  ⟨(some 159), .mv (.t 158), none⟩,
  ⟨(some 160), .mv (.t 23), (some (159, true))⟩,
  ⟨(some 161), .mv (.t 26), (some (159, true))⟩,
  ⟨(some 162), .bin .eql (.t 160) (.t 161), (some (159, true))⟩,
  ⟨(some 163), .pick (.t 159) (.t 162) (.k (.s (.b false))), none⟩,
  ⟨(some 164), .mv (.t 163), none⟩,
  ⟨(some 165), .mv (.t 24), (some (164, true))⟩,
  ⟨(some 166), .mv (.t 27), (some (164, true))⟩,
  ⟨(some 167), .bin .eql (.t 165) (.t 166), (some (164, true))⟩,
  ⟨(some 168), .pick (.t 164) (.t 167) (.k (.s (.b false))), none⟩,
  ⟨(some 169), .mv (.t 168), none⟩,
  ⟨(some 170), .mv (.t 25), (some (169, true))⟩,
  ⟨(some 171), .mv (.t 28), (some (169, true))⟩,
  ⟨(some 172), .bin .eql (.t 170) (.t 171), (some (169, true))⟩,
  ⟨(some 173), .pick (.t 169) (.t 172) (.k (.s (.b false))), none⟩,
  ⟨(some 10), .mv (.t 173), none⟩])
  (.ret)))))))))))))), [.t 10]⟩
theorem dc3 : compF Try.prog Try.f3 = some df3 := by kernel_rfl
theorem ok3 : FnOk Try.prog 3 := ⟨Try.f3, Try.func3, by kernel_rfl, by kernel_rfl⟩

/-- citadel/citadellaw10.CspaceDeeper -/
def df4 : DF :=
  ⟨111, .seq (.reg [⟨(some 7), .box (.t 1), none⟩,
  ⟨(some 12), .mv (.k (.s (.b false))), none⟩])
  (.seq (.reg [⟨(some 24), .call 13 [], none⟩,
  ⟨(some 13), .mv (.t 24), none⟩])
  (.seq (.reg [⟨(some 26), .mv (.t 0), none⟩,
  ⟨(some 27), .call 15 [(.t 26)], none⟩,
  ⟨(some 25), .mv (.t 27), none⟩,
  ⟨(some 28), .ext (.t 25) 0, none⟩,
  ⟨(some 29), .ext (.t 25) 1, none⟩,
  ⟨(some 14), .mv (.t 28), none⟩,
  ⟨(some 15), .mv (.t 29), none⟩])
  (.seq (.seq (.reg [⟨(some 30), .mv (.t 14), none⟩,
  ⟨(some 31), .eqn false false (.t 30), none⟩])
  (.cond (.t 31)
  (.seq (.reg [⟨(some 12), .mv (.k (.s (.b false))), none⟩])
  (.ret))
  (.skip)))
  (.seq (.reg [⟨(some 33), .mv (.t 14), none⟩,
  ⟨(some 34), .ld (.t 7) (some 11), none⟩,
  ⟨(some 35), .mv (.t 2), none⟩,
  ⟨(some 36), .mv (.t 3), none⟩,
  ⟨(some 37), .call 16 [(.t 33), (.t 34), (.t 35), (.t 36)], none⟩,
  ⟨(some 32), .mv (.t 37), none⟩,
  ⟨(some 38), .ext (.t 32) 0, none⟩,
  ⟨(some 39), .ext (.t 32) 1, none⟩,
  ⟨(some 40), .ext (.t 32) 2, none⟩,
  ⟨(some 16), .mv (.t 38), none⟩,
  ⟨(some 17), .mv (.t 39), none⟩,
  ⟨(some 18), .mv (.t 40), none⟩])
  (.seq (.seq (.reg [⟨(some 41), .mv (.t 18), none⟩,
  ⟨(some 42), .bin .neq (.t 41) (.k (.s (.i .i64 0))), none⟩,
  ⟨(some 43), .mv (.t 42), none⟩,
  ⟨(some 44), .mv (.t 4), (some (43, false))⟩,
  ⟨(some 45), .bin .lss (.t 44) (.k (.s (.i .i64 1))), (some (43, false))⟩,
  ⟨(some 46), .pick (.t 43) (.k (.s (.b true))) (.t 45), none⟩,
  ⟨(some 47), .mv (.t 46), none⟩,
  ⟨(some 48), .mv (.t 4), (some (47, false))⟩,
  ⟨(some 49), .bin .gtr (.t 48) (.k (.s (.i .i64 32))), (some (47, false))⟩,
  ⟨(some 50), .pick (.t 47) (.k (.s (.b true))) (.t 49), none⟩,
  ⟨(some 51), .mv (.t 50), none⟩,
  ⟨(some 52), .mv (.t 3), (some (51, false))⟩,
  ⟨(some 53), .mv (.t 4), (some (51, false))⟩,
  ⟨(some 54), .bin .sub (.k (.s (.i .i64 32))) (.t 53), (some (51, false))⟩,
  ⟨(some 55), .bin .gtr (.t 52) (.t 54), (some (51, false))⟩,
  ⟨(some 56), .pick (.t 51) (.k (.s (.b true))) (.t 55), none⟩])
  (.cond (.t 56)
  (.seq (.reg [⟨(some 57), .mv (.t 13), none⟩,
  ⟨(some 12), .mv (.t 57), none⟩])
  (.ret))
  (.skip)))
  (.seq (.drm [(true, ⟨(some 59), .mv (.t 14), none⟩),
  (true, ⟨(some 60), .ld (.t 7) (some 11), none⟩),
  (true, ⟨(some 61), .mv (.t 2), none⟩),
  (true, ⟨(some 62), .mv (.t 4), none⟩),
  (true, ⟨(some 63), .bin .shl (.t 61) (.t 62), none⟩),
  (true, ⟨(some 64), .mv (.t 5), none⟩),
  (true, ⟨(some 65), .mv (.t 4), none⟩),
  (true, ⟨(some 66), .bin .shl (.k (.s (.i .u64 1))) (.t 65), none⟩),
  (true, ⟨(some 67), .bin .sub (.t 66) (.k (.s (.i .u64 1))), none⟩),
  (true, ⟨(some 68), .bin .and (.t 64) (.t 67), none⟩),
  (true, ⟨(some 69), .bin .or (.t 63) (.t 68), none⟩),
  (true, ⟨(some 70), .mv (.t 3), none⟩),
  (true, ⟨(some 71), .mv (.t 4), none⟩),
  (true, ⟨(some 72), .bin .add (.t 70) (.t 71), none⟩),
  (false, ⟨(some 73), .call 16 [(.t 59), (.t 60), (.t 69), (.t 72)], none⟩),
  (true, ⟨(some 58), .mv (.t 73), none⟩),
  (true, ⟨(some 74), .ext (.t 58) 0, none⟩),
  (true, ⟨(some 75), .ext (.t 58) 1, none⟩),
  (true, ⟨(some 76), .ext (.t 58) 2, none⟩),
  (true, ⟨(some 19), .mv (.t 74), none⟩),
  (true, ⟨(some 20), .mv (.t 75), none⟩),
  (true, ⟨(some 21), .mv (.t 76), none⟩)])
  (.seq (.reg [⟨(some 78), .mv (.t 0), none⟩,
  ⟨(some 79), .mv (.t 16), none⟩,
  ⟨(some 80), .call 17 [(.t 78), (.t 79)], none⟩,
  ⟨(some 77), .mv (.t 80), none⟩,
  ⟨(some 81), .ext (.t 77) 0, none⟩,
  ⟨(some 82), .ext (.t 77) 1, none⟩,
  ⟨(some 22), .new [.i .i64 0, .i .i64 0, .i .i64 0, .i .i64 0, .i .i64 0, .i .i64 0, .i .i64 0, .i .i64 0, .i .i64 0, .i .i64 0, .i .i64 0], none⟩,
  ⟨none, .st (.t 22) (.t 81) 11, none⟩,
  ⟨(some 23), .mv (.t 82), none⟩])
  (.seq (.seq (.reg [⟨(some 83), .mv (.t 23), none⟩,
  ⟨(some 84), .mv (.t 83), none⟩,
  ⟨(some 85), .fa (.t 22) 0, (some (84, true))⟩,
  ⟨(some 86), .ld (.t 85) none, (some (84, true))⟩,
  ⟨(some 87), .bin .eql (.t 86) (.k (.s (.i .i64 2))), (some (84, true))⟩,
  ⟨(some 88), .pick (.t 84) (.t 87) (.k (.s (.b false))), none⟩])
  (.cond (.t 88)
  (.seq (.reg [⟨(some 89), .mv (.t 13), none⟩,
  ⟨(some 90), .mv (.t 89), none⟩,
  ⟨(some 91), .mv (.t 17), (some (90, true))⟩,
  ⟨(some 92), .bin .eql (.t 91) (.k (.s (.i .i64 0))), (some (90, true))⟩,
  ⟨(some 93), .pick (.t 90) (.t 92) (.k (.s (.b false))), none⟩,
  ⟨(some 12), .mv (.t 93), none⟩])
  (.ret))
  (.skip)))
  (.seq (.reg [⟨(some 94), .mv (.t 13), none⟩,
  ⟨(some 95), .mv (.t 94), none⟩,
  ⟨(some 96), .mv (.t 21), (some (95, true))⟩,
  ⟨(some 97), .bin .eql (.t 96) (.k (.s (.i .i64 0))), (some (95, true))⟩,
  ⟨(some 98), .pick (.t 95) (.t 97) (.k (.s (.b false))), none⟩,
  ⟨(some 99), .mv (.t 98), none⟩,
  ⟨(some 100), .mv (.t 19), (some (99, true))⟩,
  ⟨(some 101), .mv (.t 16), (some (99, true))⟩,
  ⟨(some 102), .bin .eql (.t 100) (.t 101), (some (99, true))⟩,
  ⟨(some 103), .pick (.t 99) (.t 102) (.k (.s (.b false))), none⟩,
  ⟨(some 104), .mv (.t 103), none⟩,
  ⟨(some 105), .mv (.t 20), (some (104, true))⟩,
  ⟨(some 106), .mv (.t 17), (some (104, true))⟩,
  ⟨(some 107), .mv (.t 4), (some (104, true))⟩,
  ⟨(some 108), .bin .add (.t 106) (.t 107), (some (104, true))⟩,
  ⟨(some 109), .bin .eql (.t 105) (.t 108), (some (104, true))⟩,
  ⟨(some 110), .pick (.t 104) (.t 109) (.k (.s (.b false))), none⟩,
  ⟨(some 12), .mv (.t 110), none⟩])
  (.ret)))))))))), [.t 12]⟩
theorem dc4 : compF Try.prog Try.f4 = some df4 := by kernel_rfl
theorem ok4 : FnOk Try.prog 4 := ⟨Try.f4, Try.func4, by kernel_rfl, by kernel_rfl⟩

/-- citadel/citadellaw10.CspaceGuards -/
def df5 : DF :=
  ⟨73, .seq (.reg [⟨(some 6), .box (.t 1), none⟩,
  ⟨(some 10), .mv (.k (.s (.b false))), none⟩])
  (.seq (.reg [⟨(some 20), .call 13 [], none⟩,
  ⟨(some 11), .mv (.t 20), none⟩])
  (.seq (.reg [⟨(some 22), .mv (.t 0), none⟩,
  ⟨(some 23), .call 15 [(.t 22)], none⟩,
  ⟨(some 21), .mv (.t 23), none⟩,
  ⟨(some 24), .ext (.t 21) 0, none⟩,
  ⟨(some 25), .ext (.t 21) 1, none⟩,
  ⟨(some 12), .mv (.t 24), none⟩,
  ⟨(some 13), .mv (.t 25), none⟩])
  (.seq (.seq (.reg [⟨(some 26), .mv (.t 12), none⟩,
  ⟨(some 27), .eqn false false (.t 26), none⟩])
  (.cond (.t 27)
  (.seq (.reg [⟨(some 10), .mv (.k (.s (.b false))), none⟩])
  (.ret))
  (.skip)))
  (.seq (.reg [⟨(some 29), .mv (.t 12), none⟩,
  ⟨(some 30), .ld (.t 6) (some 11), none⟩,
  ⟨(some 31), .mv (.t 2), none⟩,
  ⟨(some 32), .mv (.t 3), none⟩,
  ⟨(some 33), .call 16 [(.t 29), (.t 30), (.t 31), (.t 32)], none⟩,
  ⟨(some 28), .mv (.t 33), none⟩,
  ⟨(some 34), .ext (.t 28) 0, none⟩,
  ⟨(some 35), .ext (.t 28) 1, none⟩,
  ⟨(some 36), .ext (.t 28) 2, none⟩,
  ⟨(some 14), .mv (.t 34), none⟩,
  ⟨(some 15), .mv (.t 35), none⟩,
  ⟨(some 16), .mv (.t 36), none⟩])
  (.seq (.seq (.reg [⟨(some 37), .mv (.t 16), none⟩,
  ⟨(some 38), .bin .neq (.t 37) (.k (.s (.i .i64 0))), none⟩,
  ⟨(some 39), .mv (.t 38), none⟩,
  ⟨(some 40), .mv (.t 4), (some (39, false))⟩,
  ⟨(some 41), .fa (.t 6) 4, (some (39, false))⟩,
  ⟨(some 42), .ld (.t 41) none, (some (39, false))⟩,
  ⟨(some 43), .bin .eql (.t 40) (.t 42), (some (39, false))⟩,
  ⟨(some 44), .pick (.t 39) (.k (.s (.b true))) (.t 43), none⟩,
  ⟨(some 45), .mv (.t 44), none⟩,
  ⟨(some 46), .mv (.t 4), (some (45, false))⟩,
  ⟨(some 47), .bin .lss (.t 46) (.k (.s (.i .i64 0))), (some (45, false))⟩,
  ⟨(some 48), .pick (.t 45) (.k (.s (.b true))) (.t 47), none⟩,
  ⟨(some 49), .mv (.t 48), none⟩,
  ⟨(some 50), .mv (.t 4), (some (49, false))⟩,
  ⟨(some 51), .fa (.t 6) 5, (some (49, false))⟩,
  ⟨(some 52), .ld (.t 51) none, (some (49, false))⟩,
  ⟨(some 53), .bin .shl (.k (.s (.i .i64 1))) (.t 52), (some (49, false))⟩,
  ⟨(some 54), .bin .geq (.t 50) (.t 53), (some (49, false))⟩,
  ⟨(some 55), .pick (.t 49) (.k (.s (.b true))) (.t 54), none⟩])
  (.cond (.t 55)
  (.seq (.reg [⟨(some 56), .mv (.t 11), none⟩,
  ⟨(some 10), .mv (.t 56), none⟩])
  (.ret))
  (.skip)))
  (.seq (.reg [⟨(some 57), .mv (.t 4), none⟩,
  ⟨(some 58), .fa (.t 6) 4, none⟩,
  ⟨none, .st (.t 58) (.t 57) 1, none⟩])
  (.seq (.reg [⟨(some 60), .mv (.t 12), none⟩,
  ⟨(some 61), .ld (.t 6) (some 11), none⟩,
  ⟨(some 62), .mv (.t 2), none⟩,
  ⟨(some 63), .mv (.t 3), none⟩,
  ⟨(some 64), .call 16 [(.t 60), (.t 61), (.t 62), (.t 63)], none⟩,
  ⟨(some 59), .mv (.t 64), none⟩,
  ⟨(some 65), .ext (.t 59) 0, none⟩,
  ⟨(some 66), .ext (.t 59) 1, none⟩,
  ⟨(some 67), .ext (.t 59) 2, none⟩,
  ⟨(some 17), .mv (.t 65), none⟩,
  ⟨(some 18), .mv (.t 66), none⟩,
  ⟨(some 19), .mv (.t 67), none⟩])
  (.seq (.reg [⟨(some 68), .mv (.t 11), none⟩,
  ⟨(some 69), .mv (.t 68), none⟩,
  ⟨(some 70), .mv (.t 19), (some (69, true))⟩,
  ⟨(some 71), .bin .eql (.t 70) (.k (.s (.i .i64 102))), (some (69, true))⟩,
  ⟨(some 72), .pick (.t 69) (.t 71) (.k (.s (.b false))), none⟩,
  ⟨(some 10), .mv (.t 72), none⟩])
  (.ret))))))))), [.t 10]⟩
theorem dc5 : compF Try.prog Try.f5 = some df5 := by kernel_rfl
theorem ok5 : FnOk Try.prog 5 := ⟨Try.f5, Try.func5, by kernel_rfl, by kernel_rfl⟩

/-- citadel/citadellaw10.CspaceShort -/
def df6 : DF :=
  ⟨42, .seq (.reg [⟨(some 5), .box (.t 1), none⟩,
  ⟨(some 8), .mv (.k (.s (.b false))), none⟩])
  (.seq (.reg [⟨(some 14), .call 13 [], none⟩,
  ⟨(some 9), .mv (.t 14), none⟩])
  (.seq (.reg [⟨(some 16), .mv (.t 0), none⟩,
  ⟨(some 17), .call 15 [(.t 16)], none⟩,
  ⟨(some 15), .mv (.t 17), none⟩,
  ⟨(some 18), .ext (.t 15) 0, none⟩,
  ⟨(some 19), .ext (.t 15) 1, none⟩,
  ⟨(some 10), .mv (.t 18), none⟩,
  ⟨(some 11), .mv (.t 19), none⟩])
  (.seq (.seq (.reg [⟨(some 20), .mv (.t 10), none⟩,
  ⟨(some 21), .eqn false false (.t 20), none⟩])
  (.cond (.t 21)
  (.seq (.reg [⟨(some 8), .mv (.k (.s (.b false))), none⟩])
  (.ret))
  (.skip)))
  (.seq (.reg [⟨(some 22), .mv (.t 10), none⟩,
  ⟨(some 23), .call 18 [(.t 22)], none⟩,
  ⟨(some 12), .mv (.t 23), none⟩])
  (.seq (.reg [⟨(some 25), .mv (.t 10), none⟩,
  ⟨(some 26), .ld (.t 5) (some 11), none⟩,
  ⟨(some 27), .mv (.t 2), none⟩,
  ⟨(some 28), .mv (.t 3), none⟩,
  ⟨(some 29), .call 16 [(.t 25), (.t 26), (.t 27), (.t 28)], none⟩,
  ⟨(some 24), .mv (.t 29), none⟩,
  ⟨(some 30), .ext (.t 24) 0, none⟩,
  ⟨(some 31), .ext (.t 24) 1, none⟩,
  ⟨(some 32), .ext (.t 24) 2, none⟩])
  (.seq (.reg [⟨(some 33), .mv (.t 10), none⟩,
  ⟨(some 34), .call 18 [(.t 33)], none⟩,
  ⟨(some 13), .mv (.t 34), none⟩])
  (.seq (.reg [⟨(some 35), .mv (.t 9), none⟩,
  ⟨(some 36), .mv (.t 35), none⟩,
  ⟨(some 37), .mv (.t 13), (some (36, true))⟩,
  ⟨(some 38), .mv (.t 12), (some (36, true))⟩,
  ⟨(some 39), .bin .sub (.t 37) (.t 38), (some (36, true))⟩,
  ⟨(some 40), .bin .leq (.t 39) (.k (.s (.i .i64 128))), (some (36, true))⟩,
  ⟨(some 41), .pick (.t 36) (.t 40) (.k (.s (.b false))), none⟩,
  ⟨(some 8), .mv (.t 41), none⟩])
  (.ret)))))))), [.t 8]⟩
theorem dc6 : compF Try.prog Try.f6 = some df6 := by kernel_rfl
theorem ok6 : FnOk Try.prog 6 := ⟨Try.f6, Try.func6, by kernel_rfl, by kernel_rfl⟩

/-- citadel/citadellaw10.CspaceMasks -/
def df7 : DF :=
  ⟨48, .seq (.reg [⟨(some 3), .box (.t 0), none⟩,
  ⟨(some 6), .mv (.k (.s (.b false))), none⟩])
  (.seq (.reg [⟨(some 13), .call 13 [], none⟩,
  ⟨(some 7), .mv (.t 13), none⟩])
  (.seq (.reg [⟨(some 14), .ld (.t 3) (some 11), none⟩,
  ⟨(some 15), .mv (.t 1), none⟩,
  ⟨(some 16), .call 19 [(.t 14), (.t 15)], none⟩,
  ⟨(some 8), .new [.i .i64 0, .i .i64 0, .i .i64 0, .i .i64 0, .i .i64 0, .i .i64 0, .i .i64 0, .i .i64 0, .i .i64 0, .i .i64 0, .i .i64 0], none⟩,
  ⟨none, .st (.t 8) (.t 16) 11, none⟩])
  (.seq (.reg [⟨(some 17), .ld (.t 3) (some 11), none⟩,
  ⟨(some 18), .mv (.t 1), none⟩,
  ⟨(some 19), .call 20 [(.t 17), (.t 18)], none⟩,
  ⟨(some 9), .new [.i .i64 0, .i .i64 0, .i .i64 0, .i .i64 0, .i .i64 0, .i .i64 0, .i .i64 0, .i .i64 0, .i .i64 0, .i .i64 0, .i .i64 0], none⟩,
  ⟨none, .st (.t 9) (.t 19) 11, none⟩])
  (.seq (.reg [⟨(some 20), .ld (.t 8) (some 11), none⟩,
  ⟨(some 21), .mv (.t 2), none⟩,
  ⟨(some 22), .call 19 [(.t 20), (.t 21)], none⟩,
  ⟨(some 10), .new [.i .i64 0, .i .i64 0, .i .i64 0, .i .i64 0, .i .i64 0, .i .i64 0, .i .i64 0, .i .i64 0, .i .i64 0, .i .i64 0, .i .i64 0], none⟩,
  ⟨none, .st (.t 10) (.t 22) 11, none⟩])
  (.seq (.reg [⟨(some 23), .ld (.t 3) (some 11), none⟩,
  ⟨(some 24), .mv (.t 1), none⟩,
  ⟨(some 25), .mv (.t 2), none⟩,
  ⟨(some 26), .bin .and (.t 24) (.t 25), none⟩,
  ⟨(some 27), .call 19 [(.t 23), (.t 26)], none⟩,
  ⟨(some 11), .new [.i .i64 0, .i .i64 0, .i .i64 0, .i .i64 0, .i .i64 0, .i .i64 0, .i .i64 0, .i .i64 0, .i .i64 0, .i .i64 0, .i .i64 0], none⟩,
  ⟨none, .st (.t 11) (.t 27) 11, none⟩])
  (.seq (.reg [⟨(some 28), .fa (.t 8) 7, none⟩,
  ⟨(some 29), .ld (.t 28) none, none⟩,
  ⟨(some 30), .fa (.t 3) 7, none⟩,
  ⟨(some 31), .ld (.t 30) none, none⟩,
  ⟨(some 32), .bin .andNot (.t 29) (.t 31), none⟩,
  ⟨(some 12), .mv (.t 32), none⟩])
  (.seq (.reg [⟨(some 33), .mv (.t 7), none⟩,
  ⟨(some 34), .mv (.t 33), none⟩,
  ⟨(some 35), .ld (.t 8) (some 11), (some (34, true))⟩,
  ⟨(some 36), .ld (.t 9) (some 11), (some (34, true))⟩,
  ⟨(some 37), .eqa false [true, true, true, true, true, true, true, true, true, true, true] (.t 35) (.t 36), (some (34, true))⟩,
  ⟨(some 38), .pick (.t 34) (.t 37) (.k (.s (.b false))), none⟩,
  ⟨(some 39), .mv (.t 38), none⟩,
  ⟨(some 40), .ld (.t 10) (some 11), (some (39, true))⟩,
  ⟨(some 41), .ld (.t 11) (some 11), (some (39, true))⟩,
  ⟨(some 42), .eqa false [true, true, true, true, true, true, true, true, true, true, true] (.t 40) (.t 41), (some (39, true))⟩,
  ⟨(some 43), .pick (.t 39) (.t 42) (.k (.s (.b false))), none⟩,
  ⟨(some 44), .mv (.t 43), none⟩,
  ⟨(some 45), .mv (.t 12), (some (44, true))⟩,
  ⟨(some 46), .bin .eql (.t 45) (.k (.s (.i .i64 0))), (some (44, true))⟩,
  ⟨(some 47), .pick (.t 44) (.t 46) (.k (.s (.b false))), none⟩,
  ⟨(some 6), .mv (.t 47), none⟩])
  (.ret)))))))), [.t 6]⟩
theorem dc7 : compF Try.prog Try.f7 = some df7 := by kernel_rfl
theorem ok7 : FnOk Try.prog 7 := ⟨Try.f7, Try.func7, by kernel_rfl, by kernel_rfl⟩

/-- citadel/citadellaw10.CspaceResolves -/
def df8 : DF :=
  ⟨157, .seq (.reg [⟨(some 5), .box (.t 1), none⟩,
  ⟨(some 8), .mv (.k (.s (.b false))), none⟩])
  (.seq (.reg [⟨(some 31), .call 13 [], none⟩,
  ⟨(some 9), .mv (.t 31), none⟩])
  (.seq (.reg [⟨(some 33), .mv (.t 0), none⟩,
  ⟨(some 34), .call 15 [(.t 33)], none⟩,
  ⟨(some 32), .mv (.t 34), none⟩,
  ⟨(some 35), .ext (.t 32) 0, none⟩,
  ⟨(some 36), .ext (.t 32) 1, none⟩,
  ⟨(some 10), .mv (.t 35), none⟩,
  ⟨(some 11), .mv (.t 36), none⟩])
  (.seq (.seq (.reg [⟨(some 37), .mv (.t 10), none⟩,
  ⟨(some 38), .eqn false false (.t 37), none⟩,
  ⟨(some 39), .mv (.t 38), none⟩,
  ⟨(some 40), .mv (.t 11), (some (39, false))⟩,
  ⟨(some 41), .eqn false false (.t 40), (some (39, false))⟩,
  ⟨(some 42), .pick (.t 39) (.k (.s (.b true))) (.t 41), none⟩])
  (.cond (.t 42)
  (.seq (.reg [⟨(some 8), .mv (.k (.s (.b false))), none⟩])
  (.ret))
  (.skip)))
  (.seq (.reg [⟨(some 44), .mv (.t 10), none⟩,
  ⟨(some 45), .ld (.t 5) (some 11), none⟩,
  ⟨(some 46), .mv (.t 2), none⟩,
  ⟨(some 47), .mv (.t 3), none⟩,
  ⟨(some 48), .call 16 [(.t 44), (.t 45), (.t 46), (.t 47)], none⟩,
  ⟨(some 43), .mv (.t 48), none⟩,
  ⟨(some 49), .ext (.t 43) 0, none⟩,
  ⟨(some 50), .ext (.t 43) 1, none⟩,
  ⟨(some 51), .ext (.t 43) 2, none⟩,
  ⟨(some 12), .mv (.t 49), none⟩,
  ⟨(some 13), .mv (.t 50), none⟩,
  ⟨(some 14), .mv (.t 51), none⟩])
  (.seq (.reg [⟨(some 53), .mv (.t 11), none⟩,
  ⟨(some 54), .ld (.t 5) (some 11), none⟩,
  ⟨(some 55), .mv (.t 2), none⟩,
  ⟨(some 56), .mv (.t 3), none⟩,
  ⟨(some 57), .call 21 [(.t 53), (.t 54), (.t 55), (.t 56)], none⟩,
  ⟨(some 52), .mv (.t 57), none⟩,
  ⟨(some 58), .ext (.t 52) 0, none⟩,
  ⟨(some 59), .ext (.t 52) 1, none⟩,
  ⟨(some 60), .ext (.t 52) 2, none⟩,
  ⟨(some 15), .mv (.t 58), none⟩,
  ⟨(some 16), .mv (.t 59), none⟩,
  ⟨(some 17), .mv (.t 60), none⟩])
  (.seq (.reg [⟨(some 62), .mv (.t 10), none⟩,
  ⟨(some 63), .ld (.t 5) (some 11), none⟩,
  ⟨(some 64), .mv (.t 2), none⟩,
  ⟨(some 65), .mv (.t 3), none⟩,
  ⟨(some 66), .call 22 [(.t 62), (.t 63), (.t 64), (.t 65)], none⟩,
  ⟨(some 61), .mv (.t 66), none⟩,
  ⟨(some 67), .ext (.t 61) 0, none⟩,
  ⟨(some 68), .ext (.t 61) 1, none⟩,
  ⟨(some 18), .mv (.t 67), none⟩,
  ⟨(some 19), .mv (.t 68), none⟩])
  (.seq (.reg [⟨(some 70), .mv (.t 11), none⟩,
  ⟨(some 71), .ld (.t 5) (some 11), none⟩,
  ⟨(some 72), .mv (.t 2), none⟩,
  ⟨(some 73), .mv (.t 3), none⟩,
  ⟨(some 74), .call 23 [(.t 70), (.t 71), (.t 72), (.t 73)], none⟩,
  ⟨(some 69), .mv (.t 74), none⟩,
  ⟨(some 75), .ext (.t 69) 0, none⟩,
  ⟨(some 76), .ext (.t 69) 1, none⟩,
  ⟨(some 20), .mv (.t 75), none⟩,
  ⟨(some 21), .mv (.t 76), none⟩])
  (.seq (.reg [⟨(some 78), .mv (.t 10), none⟩,
  ⟨(some 79), .ld (.t 5) (some 11), none⟩,
  ⟨(some 80), .mv (.t 2), none⟩,
  ⟨(some 81), .call 24 [(.t 78), (.t 79), (.t 80)], none⟩,
  ⟨(some 77), .mv (.t 81), none⟩,
  ⟨(some 82), .ext (.t 77) 0, none⟩,
  ⟨(some 83), .ext (.t 77) 1, none⟩,
  ⟨(some 84), .ext (.t 77) 2, none⟩,
  ⟨(some 22), .new [.i .i64 0, .i .i64 0, .i .i64 0, .i .i64 0, .i .i64 0, .i .i64 0, .i .i64 0, .i .i64 0, .i .i64 0, .i .i64 0, .i .i64 0], none⟩,
  ⟨none, .st (.t 22) (.t 82) 11, none⟩,
  ⟨(some 23), .mv (.t 83), none⟩,
  ⟨(some 24), .mv (.t 84), none⟩])
  (.seq (.reg [⟨(some 86), .mv (.t 11), none⟩,
  ⟨(some 87), .ld (.t 5) (some 11), none⟩,
  ⟨(some 88), .mv (.t 2), none⟩,
  ⟨(some 89), .call 25 [(.t 86), (.t 87), (.t 88)], none⟩,
  ⟨(some 85), .mv (.t 89), none⟩,
  ⟨(some 90), .ext (.t 85) 0, none⟩,
  ⟨(some 91), .ext (.t 85) 1, none⟩,
  ⟨(some 92), .ext (.t 85) 2, none⟩,
  ⟨(some 25), .new [.i .i64 0, .i .i64 0, .i .i64 0, .i .i64 0, .i .i64 0, .i .i64 0, .i .i64 0, .i .i64 0, .i .i64 0, .i .i64 0, .i .i64 0], none⟩,
  ⟨none, .st (.t 25) (.t 90) 11, none⟩,
  ⟨(some 26), .mv (.t 91), none⟩,
  ⟨(some 27), .mv (.t 92), none⟩])
  (.seq (.reg [⟨(some 94), .mv (.t 10), none⟩,
  ⟨(some 95), .mv (.t 11), none⟩,
  ⟨(some 96), .nil (.t 95), none⟩,
  ⟨(some 97), .fa (.t 96) 0, none⟩,
  ⟨(some 98), .ld (.t 97) none, none⟩,
  ⟨(some 99), .len (.t 98), none⟩,
  ⟨(some 100), .call 26 [(.t 94), (.k (.s (.i .i64 0))), (.t 99)], none⟩,
  ⟨(some 93), .mv (.t 100), none⟩,
  ⟨(some 101), .ext (.t 93) 0, none⟩,
  ⟨(some 102), .ext (.t 93) 1, none⟩,
  ⟨(some 28), .mv (.t 101), none⟩,
  ⟨(some 29), .mv (.t 102), none⟩])
  (.seq (.reg [⟨(some 103), .mv (.t 28), none⟩,
  ⟨(some 104), .mv (.t 11), none⟩,
  ⟨(some 105), .nil (.t 104), none⟩,
  ⟨(some 106), .fa (.t 105) 0, none⟩,
  ⟨(some 107), .ld (.t 106) none, none⟩,
  ⟨(some 108), .call 27 [(.t 103), (.t 107)], none⟩,
  ⟨(some 30), .mv (.t 108), none⟩])
  (.seq (.reg [⟨(some 109), .mv (.t 9), none⟩,
  ⟨(some 110), .mv (.t 109), none⟩,
  ⟨(some 111), .mv (.t 12), (some (110, true))⟩,
  ⟨(some 112), .mv (.t 15), (some (110, true))⟩,
  ⟨(some 113), .bin .eql (.t 111) (.t 112), (some (110, true))⟩,
  ⟨(some 114), .pick (.t 110) (.t 113) (.k (.s (.b false))), none⟩,
  ⟨(some 115), .mv (.t 114), none⟩,
  ⟨(some 116), .mv (.t 13), (some (115, true))⟩,
  ⟨(some 117), .mv (.t 16), (some (115, true))⟩,
  ⟨(some 118), .bin .eql (.t 116) (.t 117), (some (115, true))⟩,
  ⟨(some 119), .pick (.t 115) (.t 118) (.k (.s (.b false))), none⟩,
  ⟨(some 120), .mv (.t 119), none⟩,
  ⟨(some 121), .mv (.t 14), (some (120, true))⟩,
  ⟨(some 122), .mv (.t 17), (some (120, true))⟩,
  ⟨(some 123), .bin .eql (.t 121) (.t 122), (some (120, true))⟩,
  ⟨(some 124), .pick (.t 120) (.t 123) (.k (.s (.b false))), none⟩,
  ⟨(some 125), .mv (.t 124), none⟩,
  ⟨(some 126), .mv (.t 18), (some (125, true))⟩,
  ⟨(some 127), .mv (.t 20), (some (125, true))⟩,
  ⟨(some 128), .bin .eql (.t 126) (.t 127), (some (125, true))⟩,
  ⟨(some 129), .pick (.t 125) (.t 128) (.k (.s (.b false))), none⟩,
  ⟨(some 130), .mv (.t 129), none⟩,
  ⟨(some 131), .mv (.t 19), (some (130, true))⟩,
  ⟨(some 132), .mv (.t 21), (some (130, true))⟩,
  ⟨(some 133), .bin .eql (.t 131) (.t 132), (some (130, true))⟩,
  ⟨(some 134), .pick (.t 130) (.t 133) (.k (.s (.b false))), none⟩,
  ⟨(some 135), .mv (.t 134), none⟩,
  ⟨(some 136), .ld (.t 22) (some 11), (some (135, true))⟩,
  ⟨(some 137), .ld (.t 25) (some 11), (some (135, true))⟩,
  ⟨(some 138), .eqa false [true, true, true, true, true, true, true, true, true, true, true] (.t 136) (.t 137), (some (135, true))⟩,
  ⟨(some 139), .pick (.t 135) (.t 138) (.k (.s (.b false))), none⟩,
  ⟨(some 140), .mv (.t 139), none⟩,
  ⟨(some 141), .mv (.t 23), (some (140, true))⟩,
  ⟨(some 142), .mv (.t 26), (some (140, true))⟩,
  ⟨(some 143), .bin .eql (.t 141) (.t 142), (some (140, true))⟩,
  ⟨(some 144), .pick (.t 140) (.t 143) (.k (.s (.b false))), none⟩,
  ⟨(some 145), .mv (.t 144), none⟩,
  ⟨(some 146), .mv (.t 24), (some (145, true))⟩,
  ⟨(some 147), .mv (.t 27), (some (145, true))⟩,
  ⟨(some 148), .bin .eql (.t 146) (.t 147), (some (145, true))⟩,
  ⟨(some 149), .pick (.t 145) (.t 148) (.k (.s (.b false))), none⟩,
  ⟨(some 150), .mv (.t 149), none⟩,
  ⟨(some 151), .mv (.t 29), (some (150, true))⟩,
  ⟨(some 152), .bin .eql (.t 151) (.k (.s (.i .i64 0))), (some (150, true))⟩,
  ⟨(some 153), .pick (.t 150) (.t 152) (.k (.s (.b false))), none⟩,
  ⟨(some 154), .mv (.t 153), none⟩,
  ⟨(some 155), .mv (.t 30), (some (154, true))⟩,
  ⟨(some 156), .pick (.t 154) (.t 155) (.k (.s (.b false))), none⟩,
  ⟨(some 8), .mv (.t 156), none⟩])
  (.ret))))))))))))), [.t 8]⟩
theorem dc8 : compF Try.prog Try.f8 = some df8 := by kernel_rfl
theorem ok8 : FnOk Try.prog 8 := ⟨Try.f8, Try.func8, by kernel_rfl, by kernel_rfl⟩

/-- citadel/citadellaw10.awake -/
def df13 : DF :=
  ⟨96, .seq (.reg [⟨(some 0), .mv (.k (.s (.b false))), none⟩])
  (.seq (.reg [⟨(some 18), .call 47 [], none⟩,
  ⟨(some 19), .build [.i .i64 0, .i .i64 0, .i .i64 0, .i .i64 0, .i .i64 0, .i .i64 0, .i .i64 0, .i .i64 0, .i .i64 0, .i .i64 0, .i .i64 0, .i .i64 0] [(0, 1, (.k (.s (.i .i64 1028)))), (1, 11, (.t 18))], none⟩,
  ⟨(some 20), .build [.i .i64 0, .i .i64 0, .i .i64 0, .i .i64 0, .i .i64 0, .i .i64 0, .i .i64 0, .i .i64 0, .i .i64 0, .i .i64 0, .i .i64 0] [(0, 1, (.k (.s (.i .i64 4)))), (1, 1, (.k (.s (.i .i64 1048)))), (7, 1, (.k (.s (.i .i64 7))))], none⟩,
  ⟨(some 21), .build [.i .i64 0, .i .i64 0, .i .i64 0, .i .i64 0, .i .i64 0, .i .i64 0, .i .i64 0, .i .i64 0, .i .i64 0, .i .i64 0, .i .i64 0, .i .i64 0] [(0, 1, (.k (.s (.i .i64 1040)))), (1, 11, (.t 20))], none⟩,
  ⟨(some 22), .bsl 2 [.i .i64 0, .i .i64 0, .i .i64 0, .i .i64 0, .i .i64 0, .i .i64 0, .i .i64 0, .i .i64 0, .i .i64 0, .i .i64 0, .i .i64 0, .i .i64 0, .i .i64 0, .i .i64 0, .i .i64 0, .i .i64 0, .i .i64 0, .i .i64 0, .i .i64 0, .i .i64 0, .i .i64 0, .i .i64 0, .i .i64 0, .i .i64 0] [(0, 12, (.t 19)), (12, 12, (.t 21))], none⟩,
  ⟨(some 23), .call 15 [(.t 22)], none⟩,
  ⟨(some 17), .mv (.t 23), none⟩,
  ⟨(some 24), .ext (.t 17) 0, none⟩,
  ⟨(some 25), .ext (.t 17) 1, none⟩,
  ⟨(some 1), .mv (.t 24), none⟩,
  ⟨(some 2), .mv (.t 25), none⟩])
  (.seq (.seq (.reg [⟨(some 26), .mv (.t 1), none⟩,
  ⟨(some 27), .eqn false false (.t 26), none⟩])
  (.cond (.t 27)
  (.seq (.reg [⟨(some 0), .mv (.k (.s (.b false))), none⟩])
  (.ret))
  (.skip)))
  (.seq (.reg [⟨(some 29), .mv (.t 1), none⟩,
  ⟨(some 30), .call 48 [], none⟩,
  ⟨(some 31), .call 16 [(.t 29), (.t 30), (.k (.s (.i .u64 21))), (.k (.s (.i .i64 5)))], none⟩,
  ⟨(some 28), .mv (.t 31), none⟩,
  ⟨(some 32), .ext (.t 28) 0, none⟩,
  ⟨(some 33), .ext (.t 28) 1, none⟩,
  ⟨(some 34), .ext (.t 28) 2, none⟩,
  ⟨(some 3), .mv (.t 32), none⟩,
  ⟨(some 4), .mv (.t 33), none⟩,
  ⟨(some 5), .mv (.t 34), none⟩])
  (.seq (.reg [⟨(some 36), .mv (.t 1), none⟩,
  ⟨(some 37), .call 48 [], none⟩,
  ⟨(some 38), .call 16 [(.t 36), (.t 37), (.k (.s (.i .u64 171))), (.k (.s (.i .i64 8)))], none⟩,
  ⟨(some 35), .mv (.t 38), none⟩,
  ⟨(some 39), .ext (.t 35) 0, none⟩,
  ⟨(some 40), .ext (.t 35) 1, none⟩,
  ⟨(some 41), .ext (.t 35) 2, none⟩,
  ⟨(some 6), .mv (.t 39), none⟩,
  ⟨(some 7), .mv (.t 40), none⟩,
  ⟨(some 8), .mv (.t 41), none⟩])
  (.seq (.reg [⟨(some 43), .mv (.t 1), none⟩,
  ⟨(some 44), .call 48 [], none⟩,
  ⟨(some 45), .call 16 [(.t 43), (.t 44), (.k (.s (.i .u64 17))), (.k (.s (.i .i64 5)))], none⟩,
  ⟨(some 42), .mv (.t 45), none⟩,
  ⟨(some 46), .ext (.t 42) 0, none⟩,
  ⟨(some 47), .ext (.t 42) 1, none⟩,
  ⟨(some 48), .ext (.t 42) 2, none⟩,
  ⟨(some 9), .mv (.t 46), none⟩,
  ⟨(some 10), .mv (.t 47), none⟩,
  ⟨(some 11), .mv (.t 48), none⟩])
  (.seq (.reg [⟨(some 50), .mv (.t 1), none⟩,
  ⟨(some 51), .call 48 [], none⟩,
  ⟨(some 52), .call 22 [(.t 50), (.t 51), (.k (.s (.i .u64 171))), (.k (.s (.i .i64 8)))], none⟩,
  ⟨(some 49), .mv (.t 52), none⟩,
  ⟨(some 53), .ext (.t 49) 0, none⟩,
  ⟨(some 54), .ext (.t 49) 1, none⟩,
  ⟨(some 12), .mv (.t 53), none⟩,
  ⟨(some 13), .mv (.t 54), none⟩])
  (.seq (.reg [⟨(some 56), .mv (.t 1), none⟩,
  ⟨(some 57), .build [.i .i64 0, .i .i64 0, .i .i64 0, .i .i64 0, .i .i64 0, .i .i64 0, .i .i64 0, .i .i64 0, .i .i64 0, .i .i64 0, .i .i64 0] [], none⟩,
  ⟨(some 58), .call 16 [(.t 56), (.t 57), (.k (.s (.i .u64 0))), (.k (.s (.i .i64 5)))], none⟩,
  ⟨(some 55), .mv (.t 58), none⟩,
  ⟨(some 59), .ext (.t 55) 0, none⟩,
  ⟨(some 60), .ext (.t 55) 1, none⟩,
  ⟨(some 61), .ext (.t 55) 2, none⟩,
  ⟨(some 14), .mv (.t 59), none⟩,
  ⟨(some 15), .mv (.t 60), none⟩,
  ⟨(some 16), .mv (.t 61), none⟩])
  (.seq (.reg [⟨(some 62), .mv (.t 3), none⟩,
  ⟨(some 63), .bin .eql (.t 62) (.k (.s (.i .i64 1028))), none⟩,
  ⟨(some 64), .mv (.t 63), none⟩,
  ⟨(some 65), .mv (.t 4), (some (64, true))⟩,
  ⟨(some 66), .bin .eql (.t 65) (.k (.s (.i .i64 0))), (some (64, true))⟩,
  ⟨(some 67), .pick (.t 64) (.t 66) (.k (.s (.b false))), none⟩,
  ⟨(some 68), .mv (.t 67), none⟩,
  ⟨(some 69), .mv (.t 5), (some (68, true))⟩,
  ⟨(some 70), .bin .eql (.t 69) (.k (.s (.i .i64 0))), (some (68, true))⟩,
  ⟨(some 71), .pick (.t 68) (.t 70) (.k (.s (.b false))), none⟩,
  ⟨(some 72), .mv (.t 71), none⟩,
  ⟨(some 73), .mv (.t 6), (some (72, true))⟩,
  ⟨(some 74), .bin .eql (.t 73) (.k (.s (.i .i64 1040))), (some (72, true))⟩,
  ⟨(some 75), .pick (.t 72) (.t 74) (.k (.s (.b false))), none⟩,
  ⟨(some 76), .mv (.t 75), none⟩,
  ⟨(some 77), .mv (.t 7), (some (76, true))⟩,
  ⟨(some 78), .bin .eql (.t 77) (.k (.s (.i .i64 2))), (some (76, true))⟩,
  ⟨(some 79), .pick (.t 76) (.t 78) (.k (.s (.b false))), none⟩,
  ⟨(some 80), .mv (.t 79), none⟩,
  ⟨(some 81), .mv (.t 8), (some (80, true))⟩,
  ⟨(some 82), .bin .eql (.t 81) (.k (.s (.i .i64 0))), (some (80, true))⟩,
  ⟨(some 83), .pick (.t 80) (.t 82) (.k (.s (.b false))), none⟩,
  ⟨(some 84), .mv (.t 83), none⟩,
  ⟨(some 85), .mv (.t 11), (some (84, true))⟩,
  ⟨(some 86), .bin .eql (.t 85) (.k (.s (.i .i64 102))), (some (84, true))⟩,
  ⟨(some 87), .pick (.t 84) (.t 86) (.k (.s (.b false))), none⟩,
  ⟨(some 88), .mv (.t 87), none⟩,
  ⟨(some 89), .mv (.t 13), (some (88, true))⟩,
  ⟨(some 90), .bin .eql (.t 89) (.k (.s (.i .i64 101))), (some (88, true))⟩,
  ⟨(some 91), .pick (.t 88) (.t 90) (.k (.s (.b false))), none⟩,
  ⟨(some 92), .mv (.t 91), none⟩,
  ⟨(some 93), .mv (.t 16), (some (92, true))⟩,
  ⟨(some 94), .bin .eql (.t 93) (.k (.s (.i .i64 100))), (some (92, true))⟩,
  ⟨(some 95), .pick (.t 92) (.t 94) (.k (.s (.b false))), none⟩,
  ⟨(some 0), .mv (.t 95), none⟩])
  (.ret))))))))), [.t 0]⟩
theorem dc13 : compF Try.prog Try.f13 = some df13 := by kernel_rfl
theorem ok13 : FnOk Try.prog 13 := ⟨Try.f13, Try.func13, by kernel_rfl, by kernel_rfl⟩

/-- citadel/citadelref06.Right -/
def df14 : DF :=
  ⟨151, .seq (.reg [⟨(some 1), .box (.t 0), none⟩,
  ⟨(some 2), .mv (.k (.s (.b false))), none⟩])
  (.seq (.seq (.drm [(true, ⟨(some 5), .ld (.t 1) (some 11), none⟩),
  (true, ⟨(some 6), .ld (.t 1) (some 11), none⟩),
  (true, ⟨(some 7), .call 49 [(.t 6)], none⟩),
  (true, ⟨(some 8), .eqa true [true, true, true, true, true, true, true, true, true, true, true] (.t 5) (.t 7), none⟩)])
  (.cond (.t 8)
  (.seq (.reg [⟨(some 2), .mv (.k (.s (.b false))), none⟩])
  (.ret))
  (.skip)))
  (.seq (.reg [⟨(some 9), .ld (.t 1) (some 11), none⟩,
  ⟨(some 10), .call 50 [(.t 9)], none⟩,
  ⟨(some 3), .mv (.t 10), none⟩])
  (.seq (.seq (.reg [⟨(some 11), .mv (.t 3), none⟩,
  ⟨(some 12), .bin .gtr (.t 11) (.k (.s (.i .i64 0))), none⟩])
  (.cond (.t 12)
  (.seq (.reg [⟨(some 13), .fa (.t 1) 1, none⟩,
  ⟨(some 14), .ld (.t 13) none, none⟩,
  ⟨(some 15), .mv (.t 3), none⟩,
  ⟨(some 16), .call 51 [(.t 14), (.t 15)], none⟩,
  ⟨(some 4), .mv (.t 16), none⟩])
  (.seq (.reg [⟨(some 17), .mv (.t 4), none⟩,
  ⟨(some 18), .un .not (.t 17), none⟩])
  (.cond (.t 18)
  (.seq (.reg [⟨(some 2), .mv (.k (.s (.b false))), none⟩])
  (.ret))
  (.skip))))
  (.skip)))
  (.seq (.seq (.reg [⟨(some 19), .fa (.t 1) 0, none⟩,
  ⟨(some 20), .ld (.t 19) none, none⟩])
  (.block 0 (.seq (.seq (.reg [⟨(some 22), .bin .eql (.t 20) (.k (.s (.i .i64 0))), none⟩,
  ⟨(some 21), .mv (.t 22), none⟩])
  (.cond (.t 21)
  (.skip)
  (.seq (.reg [⟨(some 23), .bin .eql (.t 20) (.k (.s (.i .i64 11))), none⟩,
  ⟨(some 21), .mv (.t 23), none⟩])
  (.cond (.t 21)
  (.skip)
  (.reg [⟨(some 24), .bin .eql (.t 20) (.k (.s (.i .i64 13))), none⟩,
  ⟨(some 21), .mv (.t 24), none⟩])))))
  (.cond (.t 21)
  (.seq (.reg [⟨(some 2), .mv (.k (.s (.b true))), none⟩])
  (.ret))
  (.seq (.seq (.reg [⟨(some 26), .bin .eql (.t 20) (.k (.s (.i .i64 3))), none⟩,
  ⟨(some 25), .mv (.t 26), none⟩])
  (.cond (.t 25)
  (.skip)
  (.reg [⟨(some 27), .bin .eql (.t 20) (.k (.s (.i .i64 9))), none⟩,
  ⟨(some 25), .mv (.t 27), none⟩])))
  (.cond (.t 25)
  (.seq (.reg [⟨(some 2), .mv (.k (.s (.b true))), none⟩])
  (.ret))
  (.seq (.reg [⟨(some 29), .bin .eql (.t 20) (.k (.s (.i .i64 1))), none⟩,
  ⟨(some 28), .mv (.t 29), none⟩])
  (.cond (.t 28)
  (.seq (.reg [⟨(some 30), .mv (.t 3), none⟩,
  ⟨(some 31), .bin .gtr (.t 30) (.k (.s (.i .i64 0))), none⟩,
  ⟨(some 32), .mv (.t 31), none⟩,
  ⟨(some 33), .fa (.t 1) 3, (some (32, true))⟩,
  ⟨(some 34), .ld (.t 33) none, (some (32, true))⟩,
  ⟨(some 35), .mv (.t 3), (some (32, true))⟩,
  ⟨(some 36), .call 52 [(.t 34), (.k (.s (.i .i64 0))), (.t 35)], (some (32, true))⟩,
  ⟨(some 37), .pick (.t 32) (.t 36) (.k (.s (.b false))), none⟩,
  ⟨(some 2), .mv (.t 37), none⟩])
  (.ret))
  (.seq (.reg [⟨(some 39), .bin .eql (.t 20) (.k (.s (.i .i64 2))), none⟩,
  ⟨(some 38), .mv (.t 39), none⟩])
  (.cond (.t 38)
  (.seq (.drm [(true, ⟨(some 40), .mv (.t 3), none⟩),
  (true, ⟨(some 41), .bin .gtr (.t 40) (.k (.s (.i .i64 0))), none⟩),
  (true, ⟨(some 42), .mv (.t 41), none⟩),
  (true, ⟨(some 43), .fa (.t 1) 5, (some (42, true))⟩),
  (true, ⟨(some 44), .ld (.t 43) none, (some (42, true))⟩),
  (false, ⟨(some 45), .call 52 [(.t 44), (.k (.s (.i .i64 0))), (.k (.s (.i .i64 31)))], (some (42, true))⟩),
  (true, ⟨(some 46), .pick (.t 42) (.t 45) (.k (.s (.b false))), none⟩),
  (true, ⟨(some 47), .mv (.t 46), none⟩),
  (true, ⟨(some 48), .fa (.t 1) 4, (some (47, true))⟩),
  (true, ⟨(some 49), .ld (.t 48) none, (some (47, true))⟩),
  (true, ⟨(some 50), .fa (.t 1) 5, (some (47, true))⟩),
  (true, ⟨(some 51), .ld (.t 50) none, (some (47, true))⟩),
  (true, ⟨(some 52), .bin .shl (.k (.s (.i .i64 1))) (.t 51), (some (47, true))⟩),
  (true, ⟨(some 53), .bin .sub (.t 52) (.k (.s (.i .i64 1))), (some (47, true))⟩),
  (false, ⟨(some 54), .call 52 [(.t 49), (.k (.s (.i .i64 0))), (.t 53)], (some (47, true))⟩),
  (true, ⟨(some 55), .pick (.t 47) (.t 54) (.k (.s (.b false))), none⟩),
  (true, ⟨(some 2), .mv (.t 55), none⟩)])
  (.ret))
  (.seq (.seq (.reg [⟨(some 57), .bin .eql (.t 20) (.k (.s (.i .i64 4))), none⟩,
  ⟨(some 56), .mv (.t 57), none⟩])
  (.cond (.t 56)
  (.skip)
  (.reg [⟨(some 58), .bin .eql (.t 20) (.k (.s (.i .i64 5))), none⟩,
  ⟨(some 56), .mv (.t 58), none⟩])))
  (.cond (.t 56)
  (.seq (.reg [⟨(some 59), .fa (.t 1) 7, none⟩,
  ⟨(some 60), .ld (.t 59) none, none⟩,
  ⟨(some 61), .call 52 [(.t 60), (.k (.s (.i .i64 0))), (.k (.s (.i .i64 7)))], none⟩,
  ⟨(some 62), .mv (.t 61), none⟩,
  ⟨(some 63), .fa (.t 1) 6, (some (62, true))⟩,
  ⟨(some 64), .ld (.t 63) none, (some (62, true))⟩,
  ⟨(some 65), .call 52 [(.t 64), (.k (.s (.i .i64 0))), (.k (.s (.i .i64 268435455)))], (some (62, true))⟩,
  ⟨(some 66), .pick (.t 62) (.t 65) (.k (.s (.b false))), none⟩,
  ⟨(some 2), .mv (.t 66), none⟩])
  (.ret))
  (.seq (.reg [⟨(some 68), .bin .eql (.t 20) (.k (.s (.i .i64 6))), none⟩,
  ⟨(some 67), .mv (.t 68), none⟩])
  (.cond (.t 67)
  (.seq (.reg [⟨(some 69), .fa (.t 1) 8, none⟩,
  ⟨(some 70), .ld (.t 69) none, none⟩,
  ⟨(some 71), .call 52 [(.t 70), (.k (.s (.i .i64 0))), (.k (.s (.i .i64 63)))], none⟩,
  ⟨(some 72), .mv (.t 71), none⟩,
  ⟨(some 73), .fa (.t 1) 9, (some (72, true))⟩,
  ⟨(some 74), .ld (.t 73) none, (some (72, true))⟩,
  ⟨(some 75), .call 52 [(.t 74), (.k (.s (.i .i64 0))), (.k (.s (.i .i64 65535)))], (some (72, true))⟩,
  ⟨(some 76), .pick (.t 72) (.t 75) (.k (.s (.b false))), none⟩,
  ⟨(some 77), .mv (.t 76), none⟩,
  ⟨(some 78), .fa (.t 1) 8, (some (77, true))⟩,
  ⟨(some 79), .ld (.t 78) none, (some (77, true))⟩,
  ⟨(some 80), .bin .gtr (.t 79) (.k (.s (.i .i64 0))), (some (77, true))⟩,
  ⟨(some 81), .mv (.t 80), (some (77, true))⟩,
  ⟨(some 82), .fa (.t 1) 9, (some (81, false))⟩,
  ⟨(some 83), .ld (.t 82) none, (some (81, false))⟩,
  ⟨(some 84), .bin .eql (.t 83) (.k (.s (.i .i64 0))), (some (81, false))⟩,
  ⟨(some 85), .pick (.t 81) (.k (.s (.b true))) (.t 84), (some (77, true))⟩,
  ⟨(some 86), .pick (.t 77) (.t 85) (.k (.s (.b false))), none⟩,
  ⟨(some 2), .mv (.t 86), none⟩])
  (.ret))
  (.seq (.reg [⟨(some 88), .bin .eql (.t 20) (.k (.s (.i .i64 7))), none⟩,
  ⟨(some 87), .mv (.t 88), none⟩])
  (.cond (.t 87)
  (.seq (.reg [⟨(some 89), .fa (.t 1) 8, none⟩,
  ⟨(some 90), .ld (.t 89) none, none⟩,
  ⟨(some 91), .call 52 [(.t 90), (.k (.s (.i .i64 0))), (.k (.s (.i .i64 56)))], none⟩,
  ⟨(some 92), .mv (.t 91), none⟩,
  ⟨(some 93), .fa (.t 1) 8, (some (92, true))⟩,
  ⟨(some 94), .ld (.t 93) none, (some (92, true))⟩,
  ⟨(some 95), .bin .rem (.t 94) (.k (.s (.i .i64 8))), (some (92, true))⟩,
  ⟨(some 96), .bin .eql (.t 95) (.k (.s (.i .i64 0))), (some (92, true))⟩,
  ⟨(some 97), .pick (.t 92) (.t 96) (.k (.s (.b false))), none⟩,
  ⟨(some 2), .mv (.t 97), none⟩])
  (.ret))
  (.seq (.reg [⟨(some 99), .bin .eql (.t 20) (.k (.s (.i .i64 8))), none⟩,
  ⟨(some 98), .mv (.t 99), none⟩])
  (.cond (.t 98)
  (.seq (.reg [⟨(some 100), .fa (.t 1) 7, none⟩,
  ⟨(some 101), .ld (.t 100) none, none⟩,
  ⟨(some 102), .call 52 [(.t 101), (.k (.s (.i .i64 0))), (.k (.s (.i .i64 7)))], none⟩,
  ⟨(some 103), .mv (.t 102), none⟩,
  ⟨(some 104), .fa (.t 1) 8, (some (103, true))⟩,
  ⟨(some 105), .ld (.t 104) none, (some (103, true))⟩,
  ⟨(some 106), .call 52 [(.t 105), (.k (.s (.i .i64 0))), (.k (.s (.i .i64 63)))], (some (103, true))⟩,
  ⟨(some 107), .pick (.t 103) (.t 106) (.k (.s (.b false))), none⟩,
  ⟨(some 108), .mv (.t 107), none⟩,
  ⟨(some 109), .fa (.t 1) 9, (some (108, true))⟩,
  ⟨(some 110), .ld (.t 109) none, (some (108, true))⟩,
  ⟨(some 111), .call 52 [(.t 110), (.k (.s (.i .i64 0))), (.k (.s (.i .i64 65520)))], (some (108, true))⟩,
  ⟨(some 112), .pick (.t 108) (.t 111) (.k (.s (.b false))), none⟩,
  ⟨(some 113), .mv (.t 112), none⟩,
  ⟨(some 114), .fa (.t 1) 9, (some (113, true))⟩,
  ⟨(some 115), .ld (.t 114) none, (some (113, true))⟩,
  ⟨(some 116), .bin .rem (.t 115) (.k (.s (.i .i64 16))), (some (113, true))⟩,
  ⟨(some 117), .bin .eql (.t 116) (.k (.s (.i .i64 0))), (some (113, true))⟩,
  ⟨(some 118), .pick (.t 113) (.t 117) (.k (.s (.b false))), none⟩,
  ⟨(some 119), .mv (.t 118), none⟩,
  ⟨(some 120), .fa (.t 1) 8, (some (119, true))⟩,
  ⟨(some 121), .ld (.t 120) none, (some (119, true))⟩,
  ⟨(some 122), .bin .gtr (.t 121) (.k (.s (.i .i64 0))), (some (119, true))⟩,
  ⟨(some 123), .mv (.t 122), (some (119, true))⟩,
  ⟨(some 124), .fa (.t 1) 9, (some (123, false))⟩,
  ⟨(some 125), .ld (.t 124) none, (some (123, false))⟩,
  ⟨(some 126), .bin .eql (.t 125) (.k (.s (.i .i64 0))), (some (123, false))⟩,
  ⟨(some 127), .pick (.t 123) (.k (.s (.b true))) (.t 126), (some (119, true))⟩,
  ⟨(some 128), .pick (.t 119) (.t 127) (.k (.s (.b false))), none⟩,
  ⟨(some 2), .mv (.t 128), none⟩])
  (.ret))
  (.seq (.reg [⟨(some 130), .bin .eql (.t 20) (.k (.s (.i .i64 10))), none⟩,
  ⟨(some 129), .mv (.t 130), none⟩])
  (.cond (.t 129)
  (.seq (.seq (.reg [⟨(some 131), .fa (.t 1) 2, none⟩,
  ⟨(some 132), .ld (.t 131) none, none⟩,
  ⟨(some 133), .bin .eql (.t 132) (.k (.s (.i .i64 31))), none⟩])
  (.cond (.t 133)
  (.seq (.reg [⟨(some 134), .fa (.t 1) 3, none⟩,
  ⟨(some 135), .ld (.t 134) none, none⟩,
  ⟨(some 136), .call 52 [(.t 135), (.k (.s (.i .i64 0))), (.k (.s (.i .i64 3)))], none⟩,
  ⟨(some 2), .mv (.t 136), none⟩])
  (.ret))
  (.skip)))
  (.seq (.reg [⟨(some 137), .mv (.t 3), none⟩,
  ⟨(some 138), .bin .gtr (.t 137) (.k (.s (.i .i64 0))), none⟩,
  ⟨(some 139), .mv (.t 138), none⟩,
  ⟨(some 140), .fa (.t 1) 3, (some (139, true))⟩,
  ⟨(some 141), .ld (.t 140) none, (some (139, true))⟩,
  ⟨(some 142), .mv (.t 3), (some (139, true))⟩,
  ⟨(some 143), .bin .quo (.t 142) (.k (.s (.i .i64 4))), (some (139, true))⟩,
  ⟨(some 144), .call 52 [(.t 141), (.k (.s (.i .i64 0))), (.t 143)], (some (139, true))⟩,
  ⟨(some 145), .pick (.t 139) (.t 144) (.k (.s (.b false))), none⟩,
  ⟨(some 2), .mv (.t 145), none⟩])
  (.ret)))
  (.seq (.reg [⟨(some 147), .bin .eql (.t 20) (.k (.s (.i .i64 12))), none⟩,
  ⟨(some 146), .mv (.t 147), none⟩])
  (.cond (.t 146)
  (.seq (.reg [⟨(some 148), .fa (.t 1) 10, none⟩,
  ⟨(some 149), .ld (.t 148) none, none⟩,
  ⟨(some 150), .call 52 [(.t 149), (.k (.s (.i .i64 0))), (.k (.s (.i .i64 15)))], none⟩,
  ⟨(some 2), .mv (.t 150), none⟩])
  (.ret))
  (.skip)))))))))))))))))))))))
  (.seq (.reg [⟨(some 2), .mv (.k (.s (.b false))), none⟩])
  (.ret)))))), [.t 2]⟩
theorem dc14 : compF Try.prog Try.f14 = some df14 := by kernel_rfl
theorem ok14 : FnOk Try.prog 14 := ⟨Try.f14, Try.func14, by kernel_rfl, by kernel_rfl⟩

/-- citadel/citadellaw10.laid -/
def df15 : DF :=
  ⟨57, .seq (.reg [⟨(some 2), .mv (.k (.s (.np))), none⟩,
  ⟨(some 3), .mv (.k (.s (.np))), none⟩])
  (.seq (.reg [⟨(some 11), .call 30 [(.k (.s (.i .i64 12)))], none⟩,
  ⟨(some 10), .mv (.t 11), none⟩,
  ⟨(some 12), .ext (.t 10) 0, none⟩,
  ⟨(some 13), .ext (.t 10) 1, none⟩,
  ⟨(some 4), .mv (.t 12), none⟩,
  ⟨(some 5), .mv (.t 13), none⟩])
  (.seq (.seq (.reg [⟨(some 6), .mv (.k (.s (.i .i64 0))), none⟩])
  (.block 0 (.loop (.seq (.seq (.reg [⟨(some 14), .mv (.t 6), none⟩,
  ⟨(some 15), .mv (.t 0), none⟩,
  ⟨(some 16), .len (.t 15), none⟩,
  ⟨(some 17), .bin .lss (.t 14) (.t 16), none⟩,
  ⟨(some 18), .mv (.t 17), none⟩,
  ⟨(some 19), .mv (.t 6), (some (18, true))⟩,
  ⟨(some 20), .bin .lss (.t 19) (.k (.s (.i .i64 100))), (some (18, true))⟩,
  ⟨(some 21), .pick (.t 18) (.t 20) (.k (.s (.b false))), none⟩])
  (.cond (.t 21)
  (.skip)
  (.exit 0)))
  (.seq (.block 1 (.drt 12 [⟨(some 24), .mv (.t 4), none⟩,
  ⟨(some 25), .mv (.t 0), none⟩,
  ⟨(some 26), .mv (.t 6), none⟩,
  ⟨(some 27), .ia none 12 (.t 25) (.t 26), none⟩,
  ⟨(some 28), .fa (.t 27) 0, none⟩,
  ⟨(some 29), .ld (.t 28) none, none⟩,
  ⟨(some 30), .mv (.t 0), none⟩,
  ⟨(some 31), .mv (.t 6), none⟩,
  ⟨(some 32), .ia none 12 (.t 30) (.t 31), none⟩,
  ⟨(some 33), .fa (.t 32) 1, none⟩,
  ⟨(some 34), .ld (.t 33) (some 11), none⟩,
  ⟨(some 35), .build [.i .i64 0, .i .i64 0, .i .i64 0, .i .i64 0, .i .i64 0, .i .i64 0, .i .i64 0, .i .i64 0, .i .i64 0, .i .i64 0, .i .i64 0, .i .i64 0, .i .i64 0, .i .i64 0] [(0, 11, (.t 34))], none⟩,
  ⟨(some 36), .call 53 [(.t 24), (.t 29), (.t 35)], none⟩]))
  (.reg [⟨(some 22), .mv (.t 6), none⟩,
  ⟨(some 23), .bin .add (.t 22) (.k (.s (.i .i64 1))), none⟩,
  ⟨(some 6), .mv (.t 23), none⟩]))))))
  (.seq (.reg [⟨(some 38), .call 29 [(.k (.s (.i .i64 12)))], none⟩,
  ⟨(some 37), .mv (.t 38), none⟩,
  ⟨(some 39), .ext (.t 37) 0, none⟩,
  ⟨(some 40), .ext (.t 37) 1, none⟩,
  ⟨(some 7), .mv (.t 39), none⟩,
  ⟨(some 8), .mv (.t 40), none⟩])
  (.seq (.seq (.reg [⟨(some 41), .mv (.t 8), none⟩,
  ⟨(some 42), .bin .neq (.t 41) (.k (.s (.i .i64 0))), none⟩,
  ⟨(some 43), .mv (.t 42), none⟩,
  ⟨(some 44), .mv (.t 7), (some (43, false))⟩,
  ⟨(some 45), .eqn false false (.t 44), (some (43, false))⟩,
  ⟨(some 46), .pick (.t 43) (.k (.s (.b true))) (.t 45), none⟩])
  (.cond (.t 46)
  (.seq (.reg [⟨(some 2), .mv (.k (.s (.np))), none⟩,
  ⟨(some 3), .mv (.k (.s (.np))), none⟩])
  (.ret))
  (.skip)))
  (.seq (.reg [⟨(some 47), .mv (.t 7), none⟩,
  ⟨(some 48), .mv (.t 4), none⟩,
  ⟨(some 49), .nil (.t 48), none⟩,
  ⟨(some 50), .fa (.t 49) 0, none⟩,
  ⟨(some 51), .ld (.t 50) none, none⟩,
  ⟨(some 52), .call 54 [(.t 47), (.k (.s (.i .i64 0))), (.t 51)], none⟩,
  ⟨(some 9), .mv (.t 52), none⟩])
  (.seq (.seq (.reg [⟨(some 53), .mv (.t 9), none⟩,
  ⟨(some 54), .bin .neq (.t 53) (.k (.s (.i .i64 0))), none⟩])
  (.cond (.t 54)
  (.seq (.reg [⟨(some 2), .mv (.k (.s (.np))), none⟩,
  ⟨(some 3), .mv (.k (.s (.np))), none⟩])
  (.ret))
  (.skip)))
  (.seq (.reg [⟨(some 55), .mv (.t 7), none⟩,
  ⟨(some 56), .mv (.t 4), none⟩,
  ⟨(some 2), .mv (.t 55), none⟩,
  ⟨(some 3), .mv (.t 56), none⟩])
  (.ret)))))))), [.t 2, .t 3]⟩
theorem dc15 : compF Try.prog Try.f15 = some df15 := by kernel_rfl
theorem ok15 : FnOk Try.prog 15 := ⟨Try.f15, Try.func15, by kernel_rfl, by kernel_rfl⟩

/-- citadel/cspace.Resolve -/
def df16 : DF :=
  ⟨87, .seq (.reg [⟨(some 5), .box (.t 1), none⟩,
  ⟨(some 8), .mv (.k (.s (.i .i64 0))), none⟩,
  ⟨(some 9), .mv (.k (.s (.i .i64 0))), none⟩,
  ⟨(some 10), .mv (.k (.s (.i .i64 0))), none⟩])
  (.block 1000001 (.seq (.block 1000000 (.seq (.seq (.seq (.reg [⟨(some 19), .fa (.t 5) 0, none⟩,
  ⟨(some 20), .ld (.t 19) none, none⟩,
  ⟨(some 21), .bin .neq (.t 20) (.k (.s (.i .i64 2))), none⟩,
  ⟨(some 22), .mv (.t 21), none⟩,
  ⟨(some 23), .ld (.t 5) (some 11), (some (22, false))⟩,
  ⟨(some 24), .call 55 [(.t 23)], (some (22, false))⟩,
  ⟨(some 25), .un .not (.t 24), (some (22, false))⟩,
  ⟨(some 26), .pick (.t 22) (.k (.s (.b true))) (.t 25), none⟩])
  (.cond (.t 26)
  (.seq (.reg [⟨(some 8), .mv (.k (.s (.i .i64 0))), none⟩,
  ⟨(some 9), .mv (.k (.s (.i .i64 0))), none⟩,
  ⟨(some 10), .mv (.k (.s (.i .i64 100))), none⟩])
  (.ret))
  (.skip)))
  (.seq (.seq (.reg [⟨(some 27), .mv (.t 3), none⟩,
  ⟨(some 28), .bin .lss (.t 27) (.k (.s (.i .i64 1))), none⟩,
  ⟨(some 29), .mv (.t 28), none⟩,
  ⟨(some 30), .mv (.t 3), (some (29, false))⟩,
  ⟨(some 31), .bin .gtr (.t 30) (.k (.s (.i .i64 32))), (some (29, false))⟩,
  ⟨(some 32), .pick (.t 29) (.k (.s (.b true))) (.t 31), none⟩])
  (.cond (.t 32)
  (.seq (.reg [⟨(some 8), .mv (.k (.s (.i .i64 0))), none⟩,
  ⟨(some 9), .mv (.k (.s (.i .i64 0))), none⟩,
  ⟨(some 10), .mv (.k (.s (.i .i64 101))), none⟩])
  (.ret))
  (.skip)))
  (.seq (.reg [⟨(some 33), .mv (.t 2), none⟩,
  ⟨(some 34), .mv (.t 3), none⟩,
  ⟨(some 35), .build [.i .u64 0, .i .i64 0] [(0, 1, (.t 33)), (1, 1, (.t 34))], none⟩,
  ⟨(some 11), .new [.i .u64 0, .i .i64 0], none⟩,
  ⟨none, .st (.t 11) (.t 35) 2, none⟩])
  (.seq (.reg [⟨(some 36), .ld (.t 5) (some 11), none⟩,
  ⟨(some 12), .new [.i .i64 0, .i .i64 0, .i .i64 0, .i .i64 0, .i .i64 0, .i .i64 0, .i .i64 0, .i .i64 0, .i .i64 0, .i .i64 0, .i .i64 0], none⟩,
  ⟨none, .st (.t 12) (.t 36) 11, none⟩])
  (.seq (.skip)
  (.seq (.block 0 (.loop (.block 1 (.seq (.seq (.reg [⟨(some 38), .fa (.t 12) 5, none⟩,
  ⟨(some 39), .ld (.t 38) none, none⟩,
  ⟨(some 40), .call 56 [(.t 11), (.t 39)], none⟩,
  ⟨(some 37), .mv (.t 40), none⟩,
  ⟨(some 41), .ext (.t 37) 0, none⟩,
  ⟨(some 42), .ext (.t 37) 1, none⟩,
  ⟨(some 13), .mv (.t 41), none⟩,
  ⟨(some 14), .mv (.t 42), none⟩])
  (.seq (.reg [⟨(some 43), .mv (.t 14), none⟩,
  ⟨(some 44), .un .not (.t 43), none⟩,
  ⟨(some 45), .mv (.t 44), none⟩,
  ⟨(some 46), .mv (.t 13), (some (45, false))⟩,
  ⟨(some 47), .fa (.t 12) 4, (some (45, false))⟩,
  ⟨(some 48), .ld (.t 47) none, (some (45, false))⟩,
  ⟨(some 49), .bin .neq (.t 46) (.t 48), (some (45, false))⟩,
  ⟨(some 50), .pick (.t 45) (.k (.s (.b true))) (.t 49), none⟩])
  (.cond (.t 50)
  (.seq (.reg [⟨(some 8), .mv (.k (.s (.i .i64 0))), none⟩,
  ⟨(some 9), .mv (.k (.s (.i .i64 0))), none⟩,
  ⟨(some 10), .mv (.k (.s (.i .i64 102))), none⟩])
  (.ret))
  (.skip))))
  (.seq (.reg [⟨(some 52), .fa (.t 12) 2, none⟩,
  ⟨(some 53), .ld (.t 52) none, none⟩,
  ⟨(some 54), .call 56 [(.t 11), (.t 53)], none⟩,
  ⟨(some 51), .mv (.t 54), none⟩,
  ⟨(some 55), .ext (.t 51) 0, none⟩,
  ⟨(some 56), .ext (.t 51) 1, none⟩,
  ⟨(some 15), .mv (.t 55), none⟩,
  ⟨(some 16), .mv (.t 56), none⟩])
  (.seq (.seq (.reg [⟨(some 57), .mv (.t 16), none⟩,
  ⟨(some 58), .un .not (.t 57), none⟩])
  (.cond (.t 58)
  (.seq (.reg [⟨(some 8), .mv (.k (.s (.i .i64 0))), none⟩,
  ⟨(some 9), .mv (.k (.s (.i .i64 0))), none⟩,
  ⟨(some 10), .mv (.k (.s (.i .i64 101))), none⟩])
  (.ret))
  (.skip)))
  (.seq (.reg [⟨(some 59), .fa (.t 12) 1, none⟩,
  ⟨(some 60), .ld (.t 59) none, none⟩,
  ⟨(some 61), .mv (.t 15), none⟩,
  ⟨(some 62), .bin .mul (.k (.s (.i .i64 4))) (.t 61), none⟩,
  ⟨(some 63), .bin .add (.t 60) (.t 62), none⟩,
  ⟨(some 8), .mv (.t 63), none⟩])
  (.seq (.seq (.reg [⟨(some 64), .fa (.t 11) 1, none⟩,
  ⟨(some 65), .ld (.t 64) none, none⟩,
  ⟨(some 66), .bin .eql (.t 65) (.k (.s (.i .i64 0))), none⟩])
  (.cond (.t 66)
  (.exit 0)
  (.skip)))
  (.seq (.reg [⟨(some 68), .mv (.t 0), none⟩,
  ⟨(some 69), .mv (.t 8), none⟩,
  ⟨(some 70), .call 57 [(.t 68), (.t 69)], none⟩,
  ⟨(some 67), .mv (.t 70), none⟩,
  ⟨(some 71), .ext (.t 67) 0, none⟩,
  ⟨(some 72), .ext (.t 67) 1, none⟩,
  ⟨(some 17), .new [.i .i64 0, .i .i64 0, .i .i64 0, .i .i64 0, .i .i64 0, .i .i64 0, .i .i64 0, .i .i64 0, .i .i64 0, .i .i64 0, .i .i64 0, .i .i64 0, .i .i64 0, .i .i64 0], none⟩,
  ⟨none, .st (.t 17) (.t 71) 14, none⟩,
  ⟨(some 18), .mv (.t 72), none⟩])
  (.block 2 (.seq (.reg [⟨(some 76), .mv (.t 18), none⟩,
  ⟨(some 77), .bin .neq (.t 76) (.k (.s (.i .i64 0))), none⟩,
  ⟨(some 78), .mv (.t 77), none⟩,
  ⟨(some 79), .fa (.t 17) 0, (some (78, false))⟩,
  ⟨(some 80), .fa (.t 79) 0, (some (78, false))⟩,
  ⟨(some 81), .ld (.t 80) none, (some (78, false))⟩,
  ⟨(some 82), .bin .neq (.t 81) (.k (.s (.i .i64 2))), (some (78, false))⟩,
  ⟨(some 83), .pick (.t 78) (.k (.s (.b true))) (.t 82), none⟩,
  ⟨(some 75), .mv (.t 83), none⟩])
  (.cond (.t 75)
  (.exit 0)
  (.seq (.reg [⟨(some 73), .fa (.t 17) 0, none⟩,
  ⟨(some 74), .ld (.t 73) (some 11), none⟩,
  ⟨none, .st (.t 12) (.t 74) 11, none⟩])
  (.exit 1))))))))))))))
  (.seq (.drq [⟨(some 84), .mv (.t 8), none⟩,
  ⟨(some 85), .fa (.t 11) 1, none⟩,
  ⟨(some 86), .ld (.t 85) none, none⟩,
  ⟨(some 8), .mv (.t 84), none⟩,
  ⟨(some 9), .mv (.t 86), none⟩,
  ⟨(some 10), .mv (.k (.s (.i .i64 0))), none⟩])
  (.ret))))))))
  (.exit 1000001)))
  (.loop (.block 1000000 (.seq (.seq (.skip)
  (.seq (.block 0 (.loop (.block 1 (.seq (.seq (.reg [⟨(some 38), .fa (.t 12) 5, none⟩,
  ⟨(some 39), .ld (.t 38) none, none⟩,
  ⟨(some 40), .call 56 [(.t 11), (.t 39)], none⟩,
  ⟨(some 37), .mv (.t 40), none⟩,
  ⟨(some 41), .ext (.t 37) 0, none⟩,
  ⟨(some 42), .ext (.t 37) 1, none⟩,
  ⟨(some 13), .mv (.t 41), none⟩,
  ⟨(some 14), .mv (.t 42), none⟩])
  (.seq (.reg [⟨(some 43), .mv (.t 14), none⟩,
  ⟨(some 44), .un .not (.t 43), none⟩,
  ⟨(some 45), .mv (.t 44), none⟩,
  ⟨(some 46), .mv (.t 13), (some (45, false))⟩,
  ⟨(some 47), .fa (.t 12) 4, (some (45, false))⟩,
  ⟨(some 48), .ld (.t 47) none, (some (45, false))⟩,
  ⟨(some 49), .bin .neq (.t 46) (.t 48), (some (45, false))⟩,
  ⟨(some 50), .pick (.t 45) (.k (.s (.b true))) (.t 49), none⟩])
  (.cond (.t 50)
  (.seq (.reg [⟨(some 8), .mv (.k (.s (.i .i64 0))), none⟩,
  ⟨(some 9), .mv (.k (.s (.i .i64 0))), none⟩,
  ⟨(some 10), .mv (.k (.s (.i .i64 102))), none⟩])
  (.ret))
  (.skip))))
  (.seq (.reg [⟨(some 52), .fa (.t 12) 2, none⟩,
  ⟨(some 53), .ld (.t 52) none, none⟩,
  ⟨(some 54), .call 56 [(.t 11), (.t 53)], none⟩,
  ⟨(some 51), .mv (.t 54), none⟩,
  ⟨(some 55), .ext (.t 51) 0, none⟩,
  ⟨(some 56), .ext (.t 51) 1, none⟩,
  ⟨(some 15), .mv (.t 55), none⟩,
  ⟨(some 16), .mv (.t 56), none⟩])
  (.seq (.seq (.reg [⟨(some 57), .mv (.t 16), none⟩,
  ⟨(some 58), .un .not (.t 57), none⟩])
  (.cond (.t 58)
  (.seq (.reg [⟨(some 8), .mv (.k (.s (.i .i64 0))), none⟩,
  ⟨(some 9), .mv (.k (.s (.i .i64 0))), none⟩,
  ⟨(some 10), .mv (.k (.s (.i .i64 101))), none⟩])
  (.ret))
  (.skip)))
  (.seq (.reg [⟨(some 59), .fa (.t 12) 1, none⟩,
  ⟨(some 60), .ld (.t 59) none, none⟩,
  ⟨(some 61), .mv (.t 15), none⟩,
  ⟨(some 62), .bin .mul (.k (.s (.i .i64 4))) (.t 61), none⟩,
  ⟨(some 63), .bin .add (.t 60) (.t 62), none⟩,
  ⟨(some 8), .mv (.t 63), none⟩])
  (.seq (.seq (.reg [⟨(some 64), .fa (.t 11) 1, none⟩,
  ⟨(some 65), .ld (.t 64) none, none⟩,
  ⟨(some 66), .bin .eql (.t 65) (.k (.s (.i .i64 0))), none⟩])
  (.cond (.t 66)
  (.exit 0)
  (.skip)))
  (.seq (.reg [⟨(some 68), .mv (.t 0), none⟩,
  ⟨(some 69), .mv (.t 8), none⟩,
  ⟨(some 70), .call 57 [(.t 68), (.t 69)], none⟩,
  ⟨(some 67), .mv (.t 70), none⟩,
  ⟨(some 71), .ext (.t 67) 0, none⟩,
  ⟨(some 72), .ext (.t 67) 1, none⟩,
  ⟨(some 17), .new [.i .i64 0, .i .i64 0, .i .i64 0, .i .i64 0, .i .i64 0, .i .i64 0, .i .i64 0, .i .i64 0, .i .i64 0, .i .i64 0, .i .i64 0, .i .i64 0, .i .i64 0, .i .i64 0], none⟩,
  ⟨none, .st (.t 17) (.t 71) 14, none⟩,
  ⟨(some 18), .mv (.t 72), none⟩])
  (.block 2 (.seq (.reg [⟨(some 76), .mv (.t 18), none⟩,
  ⟨(some 77), .bin .neq (.t 76) (.k (.s (.i .i64 0))), none⟩,
  ⟨(some 78), .mv (.t 77), none⟩,
  ⟨(some 79), .fa (.t 17) 0, (some (78, false))⟩,
  ⟨(some 80), .fa (.t 79) 0, (some (78, false))⟩,
  ⟨(some 81), .ld (.t 80) none, (some (78, false))⟩,
  ⟨(some 82), .bin .neq (.t 81) (.k (.s (.i .i64 2))), (some (78, false))⟩,
  ⟨(some 83), .pick (.t 78) (.k (.s (.b true))) (.t 82), none⟩,
  ⟨(some 75), .mv (.t 83), none⟩])
  (.cond (.t 75)
  (.exit 0)
  (.seq (.reg [⟨(some 73), .fa (.t 17) 0, none⟩,
  ⟨(some 74), .ld (.t 73) (some 11), none⟩,
  ⟨none, .st (.t 12) (.t 74) 11, none⟩])
  (.exit 1))))))))))))))
  (.seq (.drq [⟨(some 84), .mv (.t 8), none⟩,
  ⟨(some 85), .fa (.t 11) 1, none⟩,
  ⟨(some 86), .ld (.t 85) none, none⟩,
  ⟨(some 8), .mv (.t 84), none⟩,
  ⟨(some 9), .mv (.t 86), none⟩,
  ⟨(some 10), .mv (.k (.s (.i .i64 0))), none⟩])
  (.ret))))
  (.exit 1000001)))))), [.t 8, .t 9, .t 10]⟩
theorem dc16 : compF Try.prog Try.f16 = some df16 := by kernel_rfl
theorem ok16 : FnOk Try.prog 16 := ⟨Try.f16, Try.func16, by kernel_rfl, by kernel_rfl⟩

/-- citadel/citadellaw10.there -/
def df17 : DF :=
  ⟨28, .seq (.reg [⟨(some 4), .new [.i .i64 0, .i .i64 0, .i .i64 0, .i .i64 0, .i .i64 0, .i .i64 0, .i .i64 0, .i .i64 0, .i .i64 0, .i .i64 0, .i .i64 0], none⟩,
  ⟨(some 5), .mv (.k (.s (.b false))), none⟩])
  (.seq (.reg [⟨(some 11), .mv (.t 0), none⟩,
  ⟨(some 12), .call 15 [(.t 11)], none⟩,
  ⟨(some 10), .mv (.t 12), none⟩,
  ⟨(some 13), .ext (.t 10) 0, none⟩,
  ⟨(some 14), .ext (.t 10) 1, none⟩,
  ⟨(some 6), .mv (.t 13), none⟩,
  ⟨(some 7), .mv (.t 14), none⟩])
  (.seq (.seq (.reg [⟨(some 15), .mv (.t 7), none⟩,
  ⟨(some 16), .eqn false false (.t 15), none⟩])
  (.cond (.t 16)
  (.seq (.reg [⟨(some 17), .build [.i .i64 0, .i .i64 0, .i .i64 0, .i .i64 0, .i .i64 0, .i .i64 0, .i .i64 0, .i .i64 0, .i .i64 0, .i .i64 0, .i .i64 0] [], none⟩,
  ⟨none, .st (.t 4) (.t 17) 11, none⟩,
  ⟨(some 5), .mv (.k (.s (.b false))), none⟩])
  (.ret))
  (.skip)))
  (.seq (.reg [⟨(some 19), .mv (.t 7), none⟩,
  ⟨(some 20), .mv (.t 1), none⟩,
  ⟨(some 21), .call 58 [(.t 19), (.t 20)], none⟩,
  ⟨(some 18), .mv (.t 21), none⟩,
  ⟨(some 22), .ext (.t 18) 0, none⟩,
  ⟨(some 23), .ext (.t 18) 1, none⟩,
  ⟨(some 8), .new [.i .i64 0, .i .i64 0, .i .i64 0, .i .i64 0, .i .i64 0, .i .i64 0, .i .i64 0, .i .i64 0, .i .i64 0, .i .i64 0, .i .i64 0, .i .i64 0, .i .i64 0, .i .i64 0], none⟩,
  ⟨none, .st (.t 8) (.t 22) 14, none⟩,
  ⟨(some 9), .mv (.t 23), none⟩])
  (.seq (.reg [⟨(some 24), .fa (.t 8) 0, none⟩,
  ⟨(some 25), .ld (.t 24) (some 11), none⟩,
  ⟨(some 26), .mv (.t 9), none⟩,
  ⟨(some 27), .bin .eql (.t 26) (.k (.s (.i .i64 0))), none⟩,
  ⟨none, .st (.t 4) (.t 25) 11, none⟩,
  ⟨(some 5), .mv (.t 27), none⟩])
  (.ret))))), [.c 4 (some 11), .t 5]⟩
theorem dc17 : compF Try.prog Try.f17 = some df17 := by kernel_rfl
theorem ok17 : FnOk Try.prog 17 := ⟨Try.f17, Try.func17, by kernel_rfl, by kernel_rfl⟩

/-- (*citadel/mem.Memory).Steps -/
def df18 : DF :=
  ⟨7, .seq (.reg [⟨(some 2), .mv (.k (.s (.i .i64 0))), none⟩])
  (.seq (.reg [⟨(some 3), .mv (.t 0), none⟩,
  ⟨(some 4), .nil (.t 3), none⟩,
  ⟨(some 5), .fa (.t 4) 1, none⟩,
  ⟨(some 6), .ld (.t 5) none, none⟩,
  ⟨(some 2), .mv (.t 6), none⟩])
  (.ret)), [.t 2]⟩
theorem dc18 : compF Try.prog Try.f18 = some df18 := by kernel_rfl
theorem ok18 : FnOk Try.prog 18 := ⟨Try.f18, Try.func18, by kernel_rfl, by kernel_rfl⟩

/-- citadel/cspace.Mask -/
def df19 : DF :=
  ⟨17, .seq (.reg [⟨(some 2), .box (.t 0), none⟩,
  ⟨(some 4), .new [.i .i64 0, .i .i64 0, .i .i64 0, .i .i64 0, .i .i64 0, .i .i64 0, .i .i64 0, .i .i64 0, .i .i64 0, .i .i64 0, .i .i64 0], none⟩])
  (.seq (.seq (.reg [⟨(some 5), .fa (.t 2) 0, none⟩,
  ⟨(some 6), .ld (.t 5) none, none⟩])
  (.block 0 (.seq (.seq (.reg [⟨(some 8), .bin .eql (.t 6) (.k (.s (.i .i64 4))), none⟩,
  ⟨(some 7), .mv (.t 8), none⟩])
  (.cond (.t 7)
  (.skip)
  (.seq (.reg [⟨(some 9), .bin .eql (.t 6) (.k (.s (.i .i64 5))), none⟩,
  ⟨(some 7), .mv (.t 9), none⟩])
  (.cond (.t 7)
  (.skip)
  (.reg [⟨(some 10), .bin .eql (.t 6) (.k (.s (.i .i64 8))), none⟩,
  ⟨(some 7), .mv (.t 10), none⟩])))))
  (.cond (.t 7)
  (.reg [⟨(some 11), .fa (.t 2) 7, none⟩,
  ⟨(some 12), .ld (.t 11) none, none⟩,
  ⟨(some 13), .mv (.t 1), none⟩,
  ⟨(some 14), .bin .and (.t 12) (.t 13), none⟩,
  ⟨(some 15), .fa (.t 2) 7, none⟩,
  ⟨none, .st (.t 15) (.t 14) 1, none⟩])
  (.skip)))))
  (.seq (.reg [⟨(some 16), .ld (.t 2) (some 11), none⟩,
  ⟨none, .st (.t 4) (.t 16) 11, none⟩])
  (.ret))), [.c 4 (some 11)]⟩
theorem dc19 : compF Try.prog Try.f19 = some df19 := by kernel_rfl
theorem ok19 : FnOk Try.prog 19 := ⟨Try.f19, Try.func19, by kernel_rfl, by kernel_rfl⟩

/-- citadel/citadelref10.Mask -/
def df20 : DF :=
  ⟨24, .seq (.reg [⟨(some 2), .box (.t 0), none⟩,
  ⟨(some 4), .new [.i .i64 0, .i .i64 0, .i .i64 0, .i .i64 0, .i .i64 0, .i .i64 0, .i .i64 0, .i .i64 0, .i .i64 0, .i .i64 0, .i .i64 0], none⟩])
  (.seq (.seq (.reg [⟨(some 5), .fa (.t 2) 0, none⟩,
  ⟨(some 6), .ld (.t 5) none, none⟩,
  ⟨(some 7), .bin .eql (.t 6) (.k (.s (.i .i64 4))), none⟩,
  ⟨(some 8), .mv (.t 7), none⟩,
  ⟨(some 9), .fa (.t 2) 0, (some (8, false))⟩,
  ⟨(some 10), .ld (.t 9) none, (some (8, false))⟩,
  ⟨(some 11), .bin .eql (.t 10) (.k (.s (.i .i64 5))), (some (8, false))⟩,
  ⟨(some 12), .pick (.t 8) (.k (.s (.b true))) (.t 11), none⟩,
  ⟨(some 13), .mv (.t 12), none⟩,
  ⟨(some 14), .fa (.t 2) 0, (some (13, false))⟩,
  ⟨(some 15), .ld (.t 14) none, (some (13, false))⟩,
  ⟨(some 16), .bin .eql (.t 15) (.k (.s (.i .i64 8))), (some (13, false))⟩,
  ⟨(some 17), .pick (.t 13) (.k (.s (.b true))) (.t 16), none⟩])
  (.cond (.t 17)
  (.reg [⟨(some 18), .fa (.t 2) 7, none⟩,
  ⟨(some 19), .ld (.t 18) none, none⟩,
  ⟨(some 20), .mv (.t 1), none⟩,
  ⟨(some 21), .bin .and (.t 19) (.t 20), none⟩,
  ⟨(some 22), .fa (.t 2) 7, none⟩,
  ⟨none, .st (.t 22) (.t 21) 1, none⟩])
  (.skip)))
  (.seq (.reg [⟨(some 23), .ld (.t 2) (some 11), none⟩,
  ⟨none, .st (.t 4) (.t 23) 11, none⟩])
  (.ret))), [.c 4 (some 11)]⟩
theorem dc20 : compF Try.prog Try.f20 = some df20 := by kernel_rfl
theorem ok20 : FnOk Try.prog 20 := ⟨Try.f20, Try.func20, by kernel_rfl, by kernel_rfl⟩

/-- citadel/citadelref10.Resolve -/
def df21 : DF :=
  ⟨93, .seq (.reg [⟨(some 5), .box (.t 1), none⟩,
  ⟨(some 8), .mv (.k (.s (.i .i64 0))), none⟩,
  ⟨(some 9), .mv (.k (.s (.i .i64 0))), none⟩,
  ⟨(some 10), .mv (.k (.s (.i .i64 0))), none⟩])
  (.seq (.reg [⟨(some 19), .ld (.t 5) (some 11), none⟩,
  ⟨(some 20), .call 14 [(.t 19)], none⟩,
  ⟨(some 11), .mv (.t 20), none⟩])
  (.seq (.seq (.reg [⟨(some 21), .mv (.t 11), none⟩,
  ⟨(some 22), .un .not (.t 21), none⟩,
  ⟨(some 23), .mv (.t 22), none⟩,
  ⟨(some 24), .fa (.t 5) 0, (some (23, false))⟩,
  ⟨(some 25), .ld (.t 24) none, (some (23, false))⟩,
  ⟨(some 26), .bin .neq (.t 25) (.k (.s (.i .i64 2))), (some (23, false))⟩,
  ⟨(some 27), .pick (.t 23) (.k (.s (.b true))) (.t 26), none⟩])
  (.cond (.t 27)
  (.seq (.reg [⟨(some 8), .mv (.k (.s (.i .i64 0))), none⟩,
  ⟨(some 9), .mv (.k (.s (.i .i64 0))), none⟩,
  ⟨(some 10), .mv (.k (.s (.i .i64 100))), none⟩])
  (.ret))
  (.skip)))
  (.seq (.seq (.reg [⟨(some 28), .mv (.t 3), none⟩,
  ⟨(some 29), .bin .lss (.t 28) (.k (.s (.i .i64 1))), none⟩,
  ⟨(some 30), .mv (.t 29), none⟩,
  ⟨(some 31), .mv (.t 3), (some (30, false))⟩,
  ⟨(some 32), .bin .gtr (.t 31) (.k (.s (.i .i64 32))), (some (30, false))⟩,
  ⟨(some 33), .pick (.t 30) (.k (.s (.b true))) (.t 32), none⟩])
  (.cond (.t 33)
  (.seq (.reg [⟨(some 8), .mv (.k (.s (.i .i64 0))), none⟩,
  ⟨(some 9), .mv (.k (.s (.i .i64 0))), none⟩,
  ⟨(some 10), .mv (.k (.s (.i .i64 101))), none⟩])
  (.ret))
  (.skip)))
  (.seq (.reg [⟨(some 34), .ld (.t 5) (some 11), none⟩,
  ⟨(some 12), .new [.i .i64 0, .i .i64 0, .i .i64 0, .i .i64 0, .i .i64 0, .i .i64 0, .i .i64 0, .i .i64 0, .i .i64 0, .i .i64 0, .i .i64 0], none⟩,
  ⟨none, .st (.t 12) (.t 34) 11, none⟩])
  (.seq (.reg [⟨(some 35), .mv (.t 3), none⟩,
  ⟨(some 13), .mv (.t 35), none⟩])
  (.block 0 (.loop (.block 1 (.seq (.seq (.reg [⟨(some 36), .mv (.t 13), none⟩,
  ⟨(some 37), .fa (.t 12) 5, none⟩,
  ⟨(some 38), .ld (.t 37) none, none⟩,
  ⟨(some 39), .bin .lss (.t 36) (.t 38), none⟩])
  (.cond (.t 39)
  (.seq (.reg [⟨(some 8), .mv (.k (.s (.i .i64 0))), none⟩,
  ⟨(some 9), .mv (.k (.s (.i .i64 0))), none⟩,
  ⟨(some 10), .mv (.k (.s (.i .i64 102))), none⟩])
  (.ret))
  (.skip)))
  (.seq (.reg [⟨(some 40), .mv (.t 13), none⟩,
  ⟨(some 41), .fa (.t 12) 5, none⟩,
  ⟨(some 42), .ld (.t 41) none, none⟩,
  ⟨(some 43), .bin .sub (.t 40) (.t 42), none⟩,
  ⟨(some 13), .mv (.t 43), none⟩])
  (.seq (.reg [⟨(some 44), .mv (.t 2), none⟩,
  ⟨(some 45), .mv (.t 13), none⟩,
  ⟨(some 46), .fa (.t 12) 5, none⟩,
  ⟨(some 47), .ld (.t 46) none, none⟩,
  ⟨(some 48), .call 59 [(.t 44), (.t 45), (.t 47)], none⟩,
  ⟨(some 14), .mv (.t 48), none⟩])
  (.seq (.seq (.reg [⟨(some 49), .mv (.t 14), none⟩,
  ⟨(some 50), .fa (.t 12) 4, none⟩,
  ⟨(some 51), .ld (.t 50) none, none⟩,
  ⟨(some 52), .bin .neq (.t 49) (.t 51), none⟩])
  (.cond (.t 52)
  (.seq (.reg [⟨(some 8), .mv (.k (.s (.i .i64 0))), none⟩,
  ⟨(some 9), .mv (.k (.s (.i .i64 0))), none⟩,
  ⟨(some 10), .mv (.k (.s (.i .i64 102))), none⟩])
  (.ret))
  (.skip)))
  (.seq (.seq (.reg [⟨(some 53), .mv (.t 13), none⟩,
  ⟨(some 54), .fa (.t 12) 2, none⟩,
  ⟨(some 55), .ld (.t 54) none, none⟩,
  ⟨(some 56), .bin .lss (.t 53) (.t 55), none⟩])
  (.cond (.t 56)
  (.seq (.reg [⟨(some 8), .mv (.k (.s (.i .i64 0))), none⟩,
  ⟨(some 9), .mv (.k (.s (.i .i64 0))), none⟩,
  ⟨(some 10), .mv (.k (.s (.i .i64 101))), none⟩])
  (.ret))
  (.skip)))
  (.seq (.reg [⟨(some 57), .mv (.t 13), none⟩,
  ⟨(some 58), .fa (.t 12) 2, none⟩,
  ⟨(some 59), .ld (.t 58) none, none⟩,
  ⟨(some 60), .bin .sub (.t 57) (.t 59), none⟩,
  ⟨(some 13), .mv (.t 60), none⟩])
  (.seq (.reg [⟨(some 61), .mv (.t 2), none⟩,
  ⟨(some 62), .mv (.t 13), none⟩,
  ⟨(some 63), .fa (.t 12) 2, none⟩,
  ⟨(some 64), .ld (.t 63) none, none⟩,
  ⟨(some 65), .call 59 [(.t 61), (.t 62), (.t 64)], none⟩,
  ⟨(some 15), .mv (.t 65), none⟩])
  (.seq (.reg [⟨(some 66), .fa (.t 12) 1, none⟩,
  ⟨(some 67), .ld (.t 66) none, none⟩,
  ⟨(some 68), .mv (.t 15), none⟩,
  ⟨(some 69), .bin .mul (.k (.s (.i .i64 4))) (.t 68), none⟩,
  ⟨(some 70), .bin .add (.t 67) (.t 69), none⟩,
  ⟨(some 16), .mv (.t 70), none⟩])
  (.seq (.reg [⟨(some 72), .mv (.t 0), none⟩,
  ⟨(some 73), .mv (.t 16), none⟩,
  ⟨(some 74), .call 58 [(.t 72), (.t 73)], none⟩,
  ⟨(some 71), .mv (.t 74), none⟩,
  ⟨(some 75), .ext (.t 71) 0, none⟩,
  ⟨(some 76), .ext (.t 71) 1, none⟩,
  ⟨(some 17), .new [.i .i64 0, .i .i64 0, .i .i64 0, .i .i64 0, .i .i64 0, .i .i64 0, .i .i64 0, .i .i64 0, .i .i64 0, .i .i64 0, .i .i64 0, .i .i64 0, .i .i64 0, .i .i64 0], none⟩,
  ⟨none, .st (.t 17) (.t 75) 14, none⟩,
  ⟨(some 18), .mv (.t 76), none⟩])
  (.seq (.seq (.reg [⟨(some 77), .mv (.t 13), none⟩,
  ⟨(some 78), .bin .eql (.t 77) (.k (.s (.i .i64 0))), none⟩,
  ⟨(some 79), .mv (.t 78), none⟩,
  ⟨(some 80), .mv (.t 18), (some (79, false))⟩,
  ⟨(some 81), .bin .neq (.t 80) (.k (.s (.i .i64 0))), (some (79, false))⟩,
  ⟨(some 82), .pick (.t 79) (.k (.s (.b true))) (.t 81), none⟩,
  ⟨(some 83), .mv (.t 82), none⟩,
  ⟨(some 84), .fa (.t 17) 0, (some (83, false))⟩,
  ⟨(some 85), .fa (.t 84) 0, (some (83, false))⟩,
  ⟨(some 86), .ld (.t 85) none, (some (83, false))⟩,
  ⟨(some 87), .bin .neq (.t 86) (.k (.s (.i .i64 2))), (some (83, false))⟩,
  ⟨(some 88), .pick (.t 83) (.k (.s (.b true))) (.t 87), none⟩])
  (.cond (.t 88)
  (.seq (.reg [⟨(some 89), .mv (.t 16), none⟩,
  ⟨(some 90), .mv (.t 13), none⟩,
  ⟨(some 8), .mv (.t 89), none⟩,
  ⟨(some 9), .mv (.t 90), none⟩,
  ⟨(some 10), .mv (.k (.s (.i .i64 0))), none⟩])
  (.ret))
  (.skip)))
  (.reg [⟨(some 91), .fa (.t 17) 0, none⟩,
  ⟨(some 92), .ld (.t 91) (some 11), none⟩,
  ⟨none, .st (.t 12) (.t 92) 11, none⟩]))))))))))))))))))), [.t 8, .t 9, .t 10]⟩
theorem dc21 : compF Try.prog Try.f21 = some df21 := by kernel_rfl
theorem ok21 : FnOk Try.prog 21 := ⟨Try.f21, Try.func21, by kernel_rfl, by kernel_rfl⟩

/-- citadel/cspace.Slot -/
def df22 : DF :=
  ⟨32, .seq (.reg [⟨(some 5), .box (.t 1), none⟩,
  ⟨(some 8), .mv (.k (.s (.i .i64 0))), none⟩,
  ⟨(some 9), .mv (.k (.s (.i .i64 0))), none⟩])
  (.seq (.reg [⟨(some 14), .mv (.t 0), none⟩,
  ⟨(some 15), .ld (.t 5) (some 11), none⟩,
  ⟨(some 16), .mv (.t 2), none⟩,
  ⟨(some 17), .mv (.t 3), none⟩,
  ⟨(some 18), .call 16 [(.t 14), (.t 15), (.t 16), (.t 17)], none⟩,
  ⟨(some 13), .mv (.t 18), none⟩,
  ⟨(some 19), .ext (.t 13) 0, none⟩,
  ⟨(some 20), .ext (.t 13) 1, none⟩,
  ⟨(some 21), .ext (.t 13) 2, none⟩,
  ⟨(some 10), .mv (.t 19), none⟩,
  ⟨(some 11), .mv (.t 20), none⟩,
  ⟨(some 12), .mv (.t 21), none⟩])
  (.seq (.seq (.reg [⟨(some 22), .mv (.t 12), none⟩,
  ⟨(some 23), .bin .eql (.t 22) (.k (.s (.i .i64 0))), none⟩,
  ⟨(some 24), .mv (.t 23), none⟩,
  ⟨(some 25), .mv (.t 11), (some (24, true))⟩,
  ⟨(some 26), .bin .gtr (.t 25) (.k (.s (.i .i64 0))), (some (24, true))⟩,
  ⟨(some 27), .pick (.t 24) (.t 26) (.k (.s (.b false))), none⟩])
  (.cond (.t 27)
  (.reg [⟨(some 12), .mv (.k (.s (.i .i64 101))), none⟩])
  (.skip)))
  (.seq (.seq (.reg [⟨(some 28), .mv (.t 12), none⟩,
  ⟨(some 29), .bin .neq (.t 28) (.k (.s (.i .i64 0))), none⟩])
  (.cond (.t 29)
  (.seq (.reg [⟨(some 30), .mv (.t 12), none⟩,
  ⟨(some 8), .mv (.k (.s (.i .i64 0))), none⟩,
  ⟨(some 9), .mv (.t 30), none⟩])
  (.ret))
  (.skip)))
  (.seq (.reg [⟨(some 31), .mv (.t 10), none⟩,
  ⟨(some 8), .mv (.t 31), none⟩,
  ⟨(some 9), .mv (.k (.s (.i .i64 0))), none⟩])
  (.ret))))), [.t 8, .t 9]⟩
theorem dc22 : compF Try.prog Try.f22 = some df22 := by kernel_rfl
theorem ok22 : FnOk Try.prog 22 := ⟨Try.f22, Try.func22, by kernel_rfl, by kernel_rfl⟩

/-- citadel/citadelref10.Slot -/
def df23 : DF :=
  ⟨28, .seq (.reg [⟨(some 5), .box (.t 1), none⟩,
  ⟨(some 8), .mv (.k (.s (.i .i64 0))), none⟩,
  ⟨(some 9), .mv (.k (.s (.i .i64 0))), none⟩])
  (.seq (.reg [⟨(some 14), .mv (.t 0), none⟩,
  ⟨(some 15), .ld (.t 5) (some 11), none⟩,
  ⟨(some 16), .mv (.t 2), none⟩,
  ⟨(some 17), .mv (.t 3), none⟩,
  ⟨(some 18), .call 21 [(.t 14), (.t 15), (.t 16), (.t 17)], none⟩,
  ⟨(some 13), .mv (.t 18), none⟩,
  ⟨(some 19), .ext (.t 13) 0, none⟩,
  ⟨(some 20), .ext (.t 13) 1, none⟩,
  ⟨(some 21), .ext (.t 13) 2, none⟩,
  ⟨(some 10), .mv (.t 19), none⟩,
  ⟨(some 11), .mv (.t 20), none⟩,
  ⟨(some 12), .mv (.t 21), none⟩])
  (.seq (.seq (.reg [⟨(some 22), .mv (.t 12), none⟩,
  ⟨(some 23), .bin .neq (.t 22) (.k (.s (.i .i64 0))), none⟩])
  (.cond (.t 23)
  (.seq (.reg [⟨(some 24), .mv (.t 12), none⟩,
  ⟨(some 8), .mv (.k (.s (.i .i64 0))), none⟩,
  ⟨(some 9), .mv (.t 24), none⟩])
  (.ret))
  (.skip)))
  (.seq (.seq (.reg [⟨(some 25), .mv (.t 11), none⟩,
  ⟨(some 26), .bin .gtr (.t 25) (.k (.s (.i .i64 0))), none⟩])
  (.cond (.t 26)
  (.seq (.reg [⟨(some 8), .mv (.k (.s (.i .i64 0))), none⟩,
  ⟨(some 9), .mv (.k (.s (.i .i64 101))), none⟩])
  (.ret))
  (.skip)))
  (.seq (.reg [⟨(some 27), .mv (.t 10), none⟩,
  ⟨(some 8), .mv (.t 27), none⟩,
  ⟨(some 9), .mv (.k (.s (.i .i64 0))), none⟩])
  (.ret))))), [.t 8, .t 9]⟩
theorem dc23 : compF Try.prog Try.f23 = some df23 := by kernel_rfl
theorem ok23 : FnOk Try.prog 23 := ⟨Try.f23, Try.func23, by kernel_rfl, by kernel_rfl⟩

/-- citadel/cspace.Cap -/
def df24 : DF :=
  ⟨43, .seq (.reg [⟨(some 4), .box (.t 1), none⟩,
  ⟨(some 6), .new [.i .i64 0, .i .i64 0, .i .i64 0, .i .i64 0, .i .i64 0, .i .i64 0, .i .i64 0, .i .i64 0, .i .i64 0, .i .i64 0, .i .i64 0], none⟩,
  ⟨(some 7), .mv (.k (.s (.i .i64 0))), none⟩,
  ⟨(some 8), .mv (.k (.s (.i .i64 0))), none⟩])
  (.seq (.reg [⟨(some 14), .mv (.t 0), none⟩,
  ⟨(some 15), .ld (.t 4) (some 11), none⟩,
  ⟨(some 16), .mv (.t 2), none⟩,
  ⟨(some 17), .call 16 [(.t 14), (.t 15), (.t 16), (.k (.s (.i .i64 32)))], none⟩,
  ⟨(some 13), .mv (.t 17), none⟩,
  ⟨(some 18), .ext (.t 13) 0, none⟩,
  ⟨(some 19), .ext (.t 13) 1, none⟩,
  ⟨(some 20), .ext (.t 13) 2, none⟩,
  ⟨(some 9), .mv (.t 18), none⟩,
  ⟨(some 10), .mv (.t 19), none⟩,
  ⟨(some 11), .mv (.t 20), none⟩])
  (.seq (.seq (.reg [⟨(some 21), .mv (.t 11), none⟩,
  ⟨(some 22), .bin .neq (.t 21) (.k (.s (.i .i64 0))), none⟩])
  (.cond (.t 22)
  (.seq (.reg [⟨(some 23), .build [.i .i64 0, .i .i64 0, .i .i64 0, .i .i64 0, .i .i64 0, .i .i64 0, .i .i64 0, .i .i64 0, .i .i64 0, .i .i64 0, .i .i64 0] [], none⟩,
  ⟨(some 24), .mv (.t 11), none⟩,
  ⟨none, .st (.t 6) (.t 23) 11, none⟩,
  ⟨(some 7), .mv (.k (.s (.i .i64 0))), none⟩,
  ⟨(some 8), .mv (.t 24), none⟩])
  (.ret))
  (.skip)))
  (.seq (.reg [⟨(some 26), .mv (.t 0), none⟩,
  ⟨(some 27), .mv (.t 9), none⟩,
  ⟨(some 28), .call 57 [(.t 26), (.t 27)], none⟩,
  ⟨(some 25), .mv (.t 28), none⟩,
  ⟨(some 29), .ext (.t 25) 0, none⟩,
  ⟨(some 30), .ext (.t 25) 1, none⟩,
  ⟨(some 12), .new [.i .i64 0, .i .i64 0, .i .i64 0, .i .i64 0, .i .i64 0, .i .i64 0, .i .i64 0, .i .i64 0, .i .i64 0, .i .i64 0, .i .i64 0, .i .i64 0, .i .i64 0, .i .i64 0], none⟩,
  ⟨none, .st (.t 12) (.t 29) 14, none⟩,
  ⟨(some 11), .mv (.t 30), none⟩])
  (.seq (.seq (.reg [⟨(some 31), .mv (.t 11), none⟩,
  ⟨(some 32), .bin .neq (.t 31) (.k (.s (.i .i64 0))), none⟩,
  ⟨(some 33), .mv (.t 32), none⟩,
  ⟨(some 34), .fa (.t 12) 0, (some (33, false))⟩,
  ⟨(some 35), .fa (.t 34) 0, (some (33, false))⟩,
  ⟨(some 36), .ld (.t 35) none, (some (33, false))⟩,
  ⟨(some 37), .bin .eql (.t 36) (.k (.s (.i .i64 0))), (some (33, false))⟩,
  ⟨(some 38), .pick (.t 33) (.k (.s (.b true))) (.t 37), none⟩])
  (.cond (.t 38)
  (.seq (.reg [⟨(some 39), .build [.i .i64 0, .i .i64 0, .i .i64 0, .i .i64 0, .i .i64 0, .i .i64 0, .i .i64 0, .i .i64 0, .i .i64 0, .i .i64 0, .i .i64 0] [], none⟩,
  ⟨none, .st (.t 6) (.t 39) 11, none⟩,
  ⟨(some 7), .mv (.k (.s (.i .i64 0))), none⟩,
  ⟨(some 8), .mv (.k (.s (.i .i64 100))), none⟩])
  (.ret))
  (.skip)))
  (.seq (.reg [⟨(some 40), .fa (.t 12) 0, none⟩,
  ⟨(some 41), .ld (.t 40) (some 11), none⟩,
  ⟨(some 42), .mv (.t 9), none⟩,
  ⟨none, .st (.t 6) (.t 41) 11, none⟩,
  ⟨(some 7), .mv (.t 42), none⟩,
  ⟨(some 8), .mv (.k (.s (.i .i64 0))), none⟩])
  (.ret)))))), [.c 6 (some 11), .t 7, .t 8]⟩
theorem dc24 : compF Try.prog Try.f24 = some df24 := by kernel_rfl
theorem ok24 : FnOk Try.prog 24 := ⟨Try.f24, Try.func24, by kernel_rfl, by kernel_rfl⟩

/-- citadel/citadelref10.Cap -/
def df25 : DF :=
  ⟨44, .seq (.reg [⟨(some 4), .box (.t 1), none⟩,
  ⟨(some 6), .new [.i .i64 0, .i .i64 0, .i .i64 0, .i .i64 0, .i .i64 0, .i .i64 0, .i .i64 0, .i .i64 0, .i .i64 0, .i .i64 0, .i .i64 0], none⟩,
  ⟨(some 7), .mv (.k (.s (.i .i64 0))), none⟩,
  ⟨(some 8), .mv (.k (.s (.i .i64 0))), none⟩])
  (.seq (.reg [⟨(some 15), .mv (.t 0), none⟩,
  ⟨(some 16), .ld (.t 4) (some 11), none⟩,
  ⟨(some 17), .mv (.t 2), none⟩,
  ⟨(some 18), .call 21 [(.t 15), (.t 16), (.t 17), (.k (.s (.i .i64 32)))], none⟩,
  ⟨(some 14), .mv (.t 18), none⟩,
  ⟨(some 19), .ext (.t 14) 0, none⟩,
  ⟨(some 20), .ext (.t 14) 1, none⟩,
  ⟨(some 21), .ext (.t 14) 2, none⟩,
  ⟨(some 9), .mv (.t 19), none⟩,
  ⟨(some 10), .mv (.t 20), none⟩,
  ⟨(some 11), .mv (.t 21), none⟩])
  (.seq (.seq (.reg [⟨(some 22), .mv (.t 11), none⟩,
  ⟨(some 23), .bin .neq (.t 22) (.k (.s (.i .i64 0))), none⟩])
  (.cond (.t 23)
  (.seq (.reg [⟨(some 24), .build [.i .i64 0, .i .i64 0, .i .i64 0, .i .i64 0, .i .i64 0, .i .i64 0, .i .i64 0, .i .i64 0, .i .i64 0, .i .i64 0, .i .i64 0] [], none⟩,
  ⟨(some 25), .mv (.t 11), none⟩,
  ⟨none, .st (.t 6) (.t 24) 11, none⟩,
  ⟨(some 7), .mv (.k (.s (.i .i64 0))), none⟩,
  ⟨(some 8), .mv (.t 25), none⟩])
  (.ret))
  (.skip)))
  (.seq (.reg [⟨(some 27), .mv (.t 0), none⟩,
  ⟨(some 28), .mv (.t 9), none⟩,
  ⟨(some 29), .call 58 [(.t 27), (.t 28)], none⟩,
  ⟨(some 26), .mv (.t 29), none⟩,
  ⟨(some 30), .ext (.t 26) 0, none⟩,
  ⟨(some 31), .ext (.t 26) 1, none⟩,
  ⟨(some 12), .new [.i .i64 0, .i .i64 0, .i .i64 0, .i .i64 0, .i .i64 0, .i .i64 0, .i .i64 0, .i .i64 0, .i .i64 0, .i .i64 0, .i .i64 0, .i .i64 0, .i .i64 0, .i .i64 0], none⟩,
  ⟨none, .st (.t 12) (.t 30) 14, none⟩,
  ⟨(some 13), .mv (.t 31), none⟩])
  (.seq (.seq (.reg [⟨(some 32), .mv (.t 13), none⟩,
  ⟨(some 33), .bin .neq (.t 32) (.k (.s (.i .i64 0))), none⟩,
  ⟨(some 34), .mv (.t 33), none⟩,
  ⟨(some 35), .fa (.t 12) 0, (some (34, false))⟩,
  ⟨(some 36), .fa (.t 35) 0, (some (34, false))⟩,
  ⟨(some 37), .ld (.t 36) none, (some (34, false))⟩,
  ⟨(some 38), .bin .eql (.t 37) (.k (.s (.i .i64 0))), (some (34, false))⟩,
  ⟨(some 39), .pick (.t 34) (.k (.s (.b true))) (.t 38), none⟩])
  (.cond (.t 39)
  (.seq (.reg [⟨(some 40), .build [.i .i64 0, .i .i64 0, .i .i64 0, .i .i64 0, .i .i64 0, .i .i64 0, .i .i64 0, .i .i64 0, .i .i64 0, .i .i64 0, .i .i64 0] [], none⟩,
  ⟨none, .st (.t 6) (.t 40) 11, none⟩,
  ⟨(some 7), .mv (.k (.s (.i .i64 0))), none⟩,
  ⟨(some 8), .mv (.k (.s (.i .i64 100))), none⟩])
  (.ret))
  (.skip)))
  (.seq (.reg [⟨(some 41), .fa (.t 12) 0, none⟩,
  ⟨(some 42), .ld (.t 41) (some 11), none⟩,
  ⟨(some 43), .mv (.t 9), none⟩,
  ⟨none, .st (.t 6) (.t 42) 11, none⟩,
  ⟨(some 7), .mv (.t 43), none⟩,
  ⟨(some 8), .mv (.k (.s (.i .i64 0))), none⟩])
  (.ret)))))), [.c 6 (some 11), .t 7, .t 8]⟩
theorem dc25 : compF Try.prog Try.f25 = some df25 := by kernel_rfl
theorem ok25 : FnOk Try.prog 25 := ⟨Try.f25, Try.func25, by kernel_rfl, by kernel_rfl⟩

/-- (*citadel/mem.Memory).Dump -/
def df26 : DF :=
  ⟨21, .seq (.reg [⟨(some 6), .mv (.k (.s (.ns))), none⟩,
  ⟨(some 7), .mv (.k (.s (.i .i64 0))), none⟩])
  (.seq (.reg [⟨(some 11), .mv (.t 0), none⟩,
  ⟨(some 12), .mv (.t 1), none⟩,
  ⟨(some 13), .mv (.t 2), none⟩,
  ⟨(some 14), .call 60 [(.t 11), (.t 12), (.t 13)], none⟩,
  ⟨(some 10), .mv (.t 14), none⟩,
  ⟨(some 15), .ext (.t 10) 0, none⟩,
  ⟨(some 16), .ext (.t 10) 1, none⟩,
  ⟨(some 8), .mv (.t 15), none⟩,
  ⟨(some 9), .mv (.t 16), none⟩])
  (.seq (.seq (.reg [⟨(some 17), .mv (.t 9), none⟩,
  ⟨(some 18), .un .not (.t 17), none⟩])
  (.cond (.t 18)
  (.seq (.reg [⟨(some 6), .mv (.k (.s (.ns))), none⟩,
  ⟨(some 7), .mv (.k (.s (.i .i64 20))), none⟩])
  (.ret))
  (.skip)))
  (.seq (.reg [⟨(some 19), .mv (.t 8), none⟩,
  ⟨(some 20), .call 61 [(.t 19)], none⟩,
  ⟨(some 6), .mv (.t 20), none⟩,
  ⟨(some 7), .mv (.k (.s (.i .i64 0))), none⟩])
  (.ret)))), [.t 6, .t 7]⟩
theorem dc26 : compF Try.prog Try.f26 = some df26 := by kernel_rfl
theorem ok26 : FnOk Try.prog 26 := ⟨Try.f26, Try.func26, by kernel_rfl, by kernel_rfl⟩

/-- citadel/citadelref02.Same -/
def df27 : DF :=
  ⟨26, .seq (.reg [⟨(some 4), .mv (.k (.s (.b false))), none⟩])
  (.seq (.seq (.reg [⟨(some 6), .mv (.t 0), none⟩,
  ⟨(some 7), .len (.t 6), none⟩,
  ⟨(some 8), .mv (.t 1), none⟩,
  ⟨(some 9), .len (.t 8), none⟩,
  ⟨(some 10), .bin .neq (.t 7) (.t 9), none⟩])
  (.cond (.t 10)
  (.seq (.reg [⟨(some 4), .mv (.k (.s (.b false))), none⟩])
  (.ret))
  (.skip)))
  (.seq (.seq (.reg [⟨(some 5), .mv (.k (.s (.i .i64 0))), none⟩])
  (.block 0 (.loop (.seq (.seq (.reg [⟨(some 11), .mv (.t 5), none⟩,
  ⟨(some 12), .mv (.t 0), none⟩,
  ⟨(some 13), .len (.t 12), none⟩,
  ⟨(some 14), .bin .lss (.t 11) (.t 13), none⟩])
  (.cond (.t 14)
  (.skip)
  (.exit 0)))
  (.seq (.block 1 (.seq (.drq [⟨(some 17), .mv (.t 0), none⟩,
  ⟨(some 18), .mv (.t 5), none⟩,
  ⟨(some 19), .ia none 1 (.t 17) (.t 18), none⟩,
  ⟨(some 20), .ld (.t 19) none, none⟩,
  ⟨(some 21), .mv (.t 1), none⟩,
  ⟨(some 22), .mv (.t 5), none⟩,
  ⟨(some 23), .ia none 1 (.t 21) (.t 22), none⟩,
  ⟨(some 24), .ld (.t 23) none, none⟩,
  ⟨(some 25), .bin .neq (.t 20) (.t 24), none⟩])
  (.cond (.t 25)
  (.seq (.reg [⟨(some 4), .mv (.k (.s (.b false))), none⟩])
  (.ret))
  (.skip))))
  (.reg [⟨(some 15), .mv (.t 5), none⟩,
  ⟨(some 16), .bin .add (.t 15) (.k (.s (.i .i64 1))), none⟩,
  ⟨(some 5), .mv (.t 16), none⟩]))))))
  (.seq (.reg [⟨(some 4), .mv (.k (.s (.b true))), none⟩])
  (.ret)))), [.t 4]⟩
theorem dc27 : compF Try.prog Try.f27 = some df27 := by kernel_rfl
theorem ok27 : FnOk Try.prog 27 := ⟨Try.f27, Try.func27, by kernel_rfl, by kernel_rfl⟩

/-- citadel/mem.New -/
def df29 : DF :=
  ⟨15, .seq (.reg [⟨(some 2), .mv (.k (.s (.np))), none⟩,
  ⟨(some 3), .mv (.k (.s (.i .i64 0))), none⟩])
  (.seq (.seq (.reg [⟨(some 4), .mv (.t 0), none⟩,
  ⟨(some 5), .bin .lss (.t 4) (.k (.s (.i .i64 11))), none⟩,
  ⟨(some 6), .mv (.t 5), none⟩,
  ⟨(some 7), .mv (.t 0), (some (6, false))⟩,
  ⟨(some 8), .bin .gtr (.t 7) (.k (.s (.i .i64 16))), (some (6, false))⟩,
  ⟨(some 9), .pick (.t 6) (.k (.s (.b true))) (.t 8), none⟩])
  (.cond (.t 9)
  (.seq (.reg [⟨(some 2), .mv (.k (.s (.np))), none⟩,
  ⟨(some 3), .mv (.k (.s (.i .i64 1))), none⟩])
  (.ret))
  (.skip)))
  (.seq (.reg [⟨(some 10), .mv (.t 0), none⟩,
  ⟨(some 11), .bin .shl (.k (.s (.i .i64 1))) (.t 10), none⟩,
  ⟨(some 12), .mks 1 8 [.i .u64 0] (.t 11) (.t 11), none⟩,
  ⟨(some 13), .build [.ns, .i .i64 0] [(0, 1, (.t 12))], none⟩,
  ⟨(some 14), .box (.t 13), none⟩,
  ⟨(some 2), .mv (.t 14), none⟩,
  ⟨(some 3), .mv (.k (.s (.i .i64 0))), none⟩])
  (.ret))), [.t 2, .t 3]⟩
theorem dc29 : compF Try.prog Try.f29 = some df29 := by kernel_rfl
theorem ok29 : FnOk Try.prog 29 := ⟨Try.f29, Try.func29, by kernel_rfl, by kernel_rfl⟩

/-- citadel/citadelref02.New -/
def df30 : DF :=
  ⟨15, .seq (.reg [⟨(some 2), .mv (.k (.s (.np))), none⟩,
  ⟨(some 3), .mv (.k (.s (.i .i64 0))), none⟩])
  (.seq (.seq (.reg [⟨(some 4), .mv (.t 0), none⟩,
  ⟨(some 5), .bin .lss (.t 4) (.k (.s (.i .i64 11))), none⟩,
  ⟨(some 6), .mv (.t 5), none⟩,
  ⟨(some 7), .mv (.t 0), (some (6, false))⟩,
  ⟨(some 8), .bin .gtr (.t 7) (.k (.s (.i .i64 16))), (some (6, false))⟩,
  ⟨(some 9), .pick (.t 6) (.k (.s (.b true))) (.t 8), none⟩])
  (.cond (.t 9)
  (.seq (.reg [⟨(some 2), .mv (.k (.s (.np))), none⟩,
  ⟨(some 3), .mv (.k (.s (.i .i64 1))), none⟩])
  (.ret))
  (.skip)))
  (.seq (.reg [⟨(some 10), .mv (.t 0), none⟩,
  ⟨(some 11), .bin .shl (.k (.s (.i .i64 1))) (.t 10), none⟩,
  ⟨(some 12), .mks 1 8 [.i .u64 0] (.t 11) (.t 11), none⟩,
  ⟨(some 13), .build [.ns, .i .i64 0] [(0, 1, (.t 12))], none⟩,
  ⟨(some 14), .box (.t 13), none⟩,
  ⟨(some 2), .mv (.t 14), none⟩,
  ⟨(some 3), .mv (.k (.s (.i .i64 0))), none⟩])
  (.ret))), [.t 2, .t 3]⟩
theorem dc30 : compF Try.prog Try.f30 = some df30 := by kernel_rfl
theorem ok30 : FnOk Try.prog 30 := ⟨Try.f30, Try.func30, by kernel_rfl, by kernel_rfl⟩

/-- (*citadel/mem.Memory).Fill -/
def df38 : DF :=
  ⟨39, .seq (.reg [⟨(some 8), .mv (.k (.s (.i .i64 0))), none⟩])
  (.seq (.reg [⟨(some 13), .mv (.t 0), none⟩,
  ⟨(some 14), .mv (.t 1), none⟩,
  ⟨(some 15), .mv (.t 2), none⟩,
  ⟨(some 16), .call 60 [(.t 13), (.t 14), (.t 15)], none⟩,
  ⟨(some 12), .mv (.t 16), none⟩,
  ⟨(some 17), .ext (.t 12) 0, none⟩,
  ⟨(some 18), .ext (.t 12) 1, none⟩,
  ⟨(some 9), .mv (.t 17), none⟩,
  ⟨(some 10), .mv (.t 18), none⟩])
  (.seq (.seq (.reg [⟨(some 19), .mv (.t 10), none⟩,
  ⟨(some 20), .un .not (.t 19), none⟩])
  (.cond (.t 20)
  (.seq (.reg [⟨(some 8), .mv (.k (.s (.i .i64 20))), none⟩])
  (.ret))
  (.skip)))
  (.seq (.seq (.reg [⟨(some 21), .mv (.t 9), none⟩,
  ⟨(some 22), .len (.t 21), none⟩,
  ⟨(some 23), .mv (.k (.s (.i .i64 0))), none⟩])
  (.block 0 (.loop (.seq (.reg [⟨(some 24), .bin .lss (.t 23) (.t 22), none⟩])
  (.seq (.cond (.t 24)
  (.skip)
  (.exit 0))
  (.seq (.block 1 (.seq (.reg [⟨(some 25), .mv (.t 23), none⟩,
  ⟨(some 11), .mv (.t 25), none⟩])
  (.reg [⟨(some 26), .mv (.t 9), none⟩,
  ⟨(some 27), .mv (.t 11), none⟩,
  ⟨(some 28), .mv (.t 3), none⟩,
  ⟨(some 29), .ia none 1 (.t 26) (.t 27), none⟩,
  ⟨none, .st (.t 29) (.t 28) 1, none⟩])))
  (.reg [⟨(some 30), .bin .add (.t 23) (.k (.s (.i .i64 1))), none⟩,
  ⟨(some 23), .mv (.t 30), none⟩])))))))
  (.seq (.reg [⟨(some 31), .mv (.t 0), none⟩,
  ⟨(some 32), .nil (.t 31), none⟩,
  ⟨(some 33), .fa (.t 32) 1, none⟩,
  ⟨(some 34), .ld (.t 33) none, none⟩,
  ⟨(some 35), .mv (.t 2), none⟩,
  ⟨(some 36), .bin .add (.t 34) (.t 35), none⟩,
  ⟨(some 37), .nil (.t 31), none⟩,
  ⟨(some 38), .fa (.t 37) 1, none⟩,
  ⟨none, .st (.t 38) (.t 36) 1, none⟩])
  (.seq (.reg [⟨(some 8), .mv (.k (.s (.i .i64 0))), none⟩])
  (.ret)))))), [.t 8]⟩
theorem dc38 : compF Try.prog Try.f38 = some df38 := by kernel_rfl
theorem ok38 : FnOk Try.prog 38 := ⟨Try.f38, Try.func38, by kernel_rfl, by kernel_rfl⟩

/-- citadel/citadellaw10.inner -/
def df47 : DF :=
  ⟨2, .seq (.reg [⟨(some 0), .new [.i .i64 0, .i .i64 0, .i .i64 0, .i .i64 0, .i .i64 0, .i .i64 0, .i .i64 0, .i .i64 0, .i .i64 0, .i .i64 0, .i .i64 0], none⟩])
  (.seq (.reg [⟨(some 1), .build [.i .i64 0, .i .i64 0, .i .i64 0, .i .i64 0, .i .i64 0, .i .i64 0, .i .i64 0, .i .i64 0, .i .i64 0, .i .i64 0, .i .i64 0] [(0, 1, (.k (.s (.i .i64 2)))), (1, 1, (.k (.s (.i .i64 1040)))), (2, 1, (.k (.s (.i .i64 1))))], none⟩,
  ⟨none, .st (.t 0) (.t 1) 11, none⟩])
  (.ret)), [.c 0 (some 11)]⟩
theorem dc47 : compF Try.prog Try.f47 = some df47 := by kernel_rfl
theorem ok47 : FnOk Try.prog 47 := ⟨Try.f47, Try.func47, by kernel_rfl, by kernel_rfl⟩

/-- citadel/citadellaw10.outer -/
def df48 : DF :=
  ⟨2, .seq (.reg [⟨(some 0), .new [.i .i64 0, .i .i64 0, .i .i64 0, .i .i64 0, .i .i64 0, .i .i64 0, .i .i64 0, .i .i64 0, .i .i64 0, .i .i64 0, .i .i64 0], none⟩])
  (.seq (.reg [⟨(some 1), .build [.i .i64 0, .i .i64 0, .i .i64 0, .i .i64 0, .i .i64 0, .i .i64 0, .i .i64 0, .i .i64 0, .i .i64 0, .i .i64 0, .i .i64 0] [(0, 1, (.k (.s (.i .i64 2)))), (1, 1, (.k (.s (.i .i64 1024)))), (2, 1, (.k (.s (.i .i64 2)))), (4, 1, (.k (.s (.i .i64 5)))), (5, 1, (.k (.s (.i .i64 3))))], none⟩,
  ⟨none, .st (.t 0) (.t 1) 11, none⟩])
  (.ret)), [.c 0 (some 11)]⟩
theorem dc48 : compF Try.prog Try.f48 = some df48 := by kernel_rfl
theorem ok48 : FnOk Try.prog 48 := ⟨Try.f48, Try.func48, by kernel_rfl, by kernel_rfl⟩

/-- citadel/citadelref06.Only -/
def df49 : DF :=
  ⟨102, .seq (.reg [⟨(some 1), .box (.t 0), none⟩,
  ⟨(some 2), .new [.i .i64 0, .i .i64 0, .i .i64 0, .i .i64 0, .i .i64 0, .i .i64 0, .i .i64 0, .i .i64 0, .i .i64 0, .i .i64 0, .i .i64 0], none⟩])
  (.seq (.reg [⟨(some 4), .fa (.t 1) 0, none⟩,
  ⟨(some 5), .ld (.t 4) none, none⟩,
  ⟨(some 6), .build [.i .i64 0, .i .i64 0, .i .i64 0, .i .i64 0, .i .i64 0, .i .i64 0, .i .i64 0, .i .i64 0, .i .i64 0, .i .i64 0, .i .i64 0] [(0, 1, (.t 5))], none⟩,
  ⟨(some 3), .new [.i .i64 0, .i .i64 0, .i .i64 0, .i .i64 0, .i .i64 0, .i .i64 0, .i .i64 0, .i .i64 0, .i .i64 0, .i .i64 0, .i .i64 0], none⟩,
  ⟨none, .st (.t 3) (.t 6) 11, none⟩])
  (.seq (.seq (.reg [⟨(some 7), .fa (.t 1) 0, none⟩,
  ⟨(some 8), .ld (.t 7) none, none⟩])
  (.block 0 (.seq (.reg [⟨(some 10), .bin .eql (.t 8) (.k (.s (.i .i64 1))), none⟩,
  ⟨(some 9), .mv (.t 10), none⟩])
  (.cond (.t 9)
  (.seq (.reg [⟨(some 11), .fa (.t 1) 1, none⟩,
  ⟨(some 12), .ld (.t 11) none, none⟩,
  ⟨(some 13), .fa (.t 3) 1, none⟩,
  ⟨none, .st (.t 13) (.t 12) 1, none⟩])
  (.seq (.reg [⟨(some 14), .fa (.t 1) 2, none⟩,
  ⟨(some 15), .ld (.t 14) none, none⟩,
  ⟨(some 16), .fa (.t 3) 2, none⟩,
  ⟨none, .st (.t 16) (.t 15) 1, none⟩])
  (.reg [⟨(some 17), .fa (.t 1) 3, none⟩,
  ⟨(some 18), .ld (.t 17) none, none⟩,
  ⟨(some 19), .fa (.t 3) 3, none⟩,
  ⟨none, .st (.t 19) (.t 18) 1, none⟩])))
  (.seq (.reg [⟨(some 21), .bin .eql (.t 8) (.k (.s (.i .i64 2))), none⟩,
  ⟨(some 20), .mv (.t 21), none⟩])
  (.cond (.t 20)
  (.seq (.reg [⟨(some 22), .fa (.t 1) 1, none⟩,
  ⟨(some 23), .ld (.t 22) none, none⟩,
  ⟨(some 24), .fa (.t 3) 1, none⟩,
  ⟨none, .st (.t 24) (.t 23) 1, none⟩])
  (.seq (.reg [⟨(some 25), .fa (.t 1) 2, none⟩,
  ⟨(some 26), .ld (.t 25) none, none⟩,
  ⟨(some 27), .fa (.t 3) 2, none⟩,
  ⟨none, .st (.t 27) (.t 26) 1, none⟩])
  (.seq (.reg [⟨(some 28), .fa (.t 1) 4, none⟩,
  ⟨(some 29), .ld (.t 28) none, none⟩,
  ⟨(some 30), .fa (.t 3) 4, none⟩,
  ⟨none, .st (.t 30) (.t 29) 1, none⟩])
  (.reg [⟨(some 31), .fa (.t 1) 5, none⟩,
  ⟨(some 32), .ld (.t 31) none, none⟩,
  ⟨(some 33), .fa (.t 3) 5, none⟩,
  ⟨none, .st (.t 33) (.t 32) 1, none⟩]))))
  (.seq (.seq (.reg [⟨(some 35), .bin .eql (.t 8) (.k (.s (.i .i64 4))), none⟩,
  ⟨(some 34), .mv (.t 35), none⟩])
  (.cond (.t 34)
  (.skip)
  (.reg [⟨(some 36), .bin .eql (.t 8) (.k (.s (.i .i64 5))), none⟩,
  ⟨(some 34), .mv (.t 36), none⟩])))
  (.cond (.t 34)
  (.seq (.reg [⟨(some 37), .fa (.t 1) 1, none⟩,
  ⟨(some 38), .ld (.t 37) none, none⟩,
  ⟨(some 39), .fa (.t 3) 1, none⟩,
  ⟨none, .st (.t 39) (.t 38) 1, none⟩])
  (.seq (.reg [⟨(some 40), .fa (.t 1) 7, none⟩,
  ⟨(some 41), .ld (.t 40) none, none⟩,
  ⟨(some 42), .fa (.t 3) 7, none⟩,
  ⟨none, .st (.t 42) (.t 41) 1, none⟩])
  (.reg [⟨(some 43), .fa (.t 1) 6, none⟩,
  ⟨(some 44), .ld (.t 43) none, none⟩,
  ⟨(some 45), .fa (.t 3) 6, none⟩,
  ⟨none, .st (.t 45) (.t 44) 1, none⟩])))
  (.seq (.seq (.reg [⟨(some 47), .bin .eql (.t 8) (.k (.s (.i .i64 3))), none⟩,
  ⟨(some 46), .mv (.t 47), none⟩])
  (.cond (.t 46)
  (.skip)
  (.reg [⟨(some 48), .bin .eql (.t 8) (.k (.s (.i .i64 9))), none⟩,
  ⟨(some 46), .mv (.t 48), none⟩])))
  (.cond (.t 46)
  (.reg [⟨(some 49), .fa (.t 1) 1, none⟩,
  ⟨(some 50), .ld (.t 49) none, none⟩,
  ⟨(some 51), .fa (.t 3) 1, none⟩,
  ⟨none, .st (.t 51) (.t 50) 1, none⟩])
  (.seq (.reg [⟨(some 53), .bin .eql (.t 8) (.k (.s (.i .i64 6))), none⟩,
  ⟨(some 52), .mv (.t 53), none⟩])
  (.cond (.t 52)
  (.seq (.reg [⟨(some 54), .fa (.t 1) 1, none⟩,
  ⟨(some 55), .ld (.t 54) none, none⟩,
  ⟨(some 56), .fa (.t 3) 1, none⟩,
  ⟨none, .st (.t 56) (.t 55) 1, none⟩])
  (.seq (.reg [⟨(some 57), .fa (.t 1) 8, none⟩,
  ⟨(some 58), .ld (.t 57) none, none⟩,
  ⟨(some 59), .fa (.t 3) 8, none⟩,
  ⟨none, .st (.t 59) (.t 58) 1, none⟩])
  (.reg [⟨(some 60), .fa (.t 1) 9, none⟩,
  ⟨(some 61), .ld (.t 60) none, none⟩,
  ⟨(some 62), .fa (.t 3) 9, none⟩,
  ⟨none, .st (.t 62) (.t 61) 1, none⟩])))
  (.seq (.reg [⟨(some 64), .bin .eql (.t 8) (.k (.s (.i .i64 7))), none⟩,
  ⟨(some 63), .mv (.t 64), none⟩])
  (.cond (.t 63)
  (.seq (.reg [⟨(some 65), .fa (.t 1) 1, none⟩,
  ⟨(some 66), .ld (.t 65) none, none⟩,
  ⟨(some 67), .fa (.t 3) 1, none⟩,
  ⟨none, .st (.t 67) (.t 66) 1, none⟩])
  (.reg [⟨(some 68), .fa (.t 1) 8, none⟩,
  ⟨(some 69), .ld (.t 68) none, none⟩,
  ⟨(some 70), .fa (.t 3) 8, none⟩,
  ⟨none, .st (.t 70) (.t 69) 1, none⟩]))
  (.seq (.reg [⟨(some 72), .bin .eql (.t 8) (.k (.s (.i .i64 8))), none⟩,
  ⟨(some 71), .mv (.t 72), none⟩])
  (.cond (.t 71)
  (.seq (.reg [⟨(some 73), .fa (.t 1) 1, none⟩,
  ⟨(some 74), .ld (.t 73) none, none⟩,
  ⟨(some 75), .fa (.t 3) 1, none⟩,
  ⟨none, .st (.t 75) (.t 74) 1, none⟩])
  (.seq (.reg [⟨(some 76), .fa (.t 1) 7, none⟩,
  ⟨(some 77), .ld (.t 76) none, none⟩,
  ⟨(some 78), .fa (.t 3) 7, none⟩,
  ⟨none, .st (.t 78) (.t 77) 1, none⟩])
  (.seq (.reg [⟨(some 79), .fa (.t 1) 8, none⟩,
  ⟨(some 80), .ld (.t 79) none, none⟩,
  ⟨(some 81), .fa (.t 3) 8, none⟩,
  ⟨none, .st (.t 81) (.t 80) 1, none⟩])
  (.reg [⟨(some 82), .fa (.t 1) 9, none⟩,
  ⟨(some 83), .ld (.t 82) none, none⟩,
  ⟨(some 84), .fa (.t 3) 9, none⟩,
  ⟨none, .st (.t 84) (.t 83) 1, none⟩]))))
  (.seq (.reg [⟨(some 86), .bin .eql (.t 8) (.k (.s (.i .i64 10))), none⟩,
  ⟨(some 85), .mv (.t 86), none⟩])
  (.cond (.t 85)
  (.seq (.reg [⟨(some 87), .fa (.t 1) 1, none⟩,
  ⟨(some 88), .ld (.t 87) none, none⟩,
  ⟨(some 89), .fa (.t 3) 1, none⟩,
  ⟨none, .st (.t 89) (.t 88) 1, none⟩])
  (.seq (.reg [⟨(some 90), .fa (.t 1) 2, none⟩,
  ⟨(some 91), .ld (.t 90) none, none⟩,
  ⟨(some 92), .fa (.t 3) 2, none⟩,
  ⟨none, .st (.t 92) (.t 91) 1, none⟩])
  (.reg [⟨(some 93), .fa (.t 1) 3, none⟩,
  ⟨(some 94), .ld (.t 93) none, none⟩,
  ⟨(some 95), .fa (.t 3) 3, none⟩,
  ⟨none, .st (.t 95) (.t 94) 1, none⟩])))
  (.seq (.reg [⟨(some 97), .bin .eql (.t 8) (.k (.s (.i .i64 12))), none⟩,
  ⟨(some 96), .mv (.t 97), none⟩])
  (.cond (.t 96)
  (.reg [⟨(some 98), .fa (.t 1) 10, none⟩,
  ⟨(some 99), .ld (.t 98) none, none⟩,
  ⟨(some 100), .fa (.t 3) 10, none⟩,
  ⟨none, .st (.t 100) (.t 99) 1, none⟩])
  (.skip)))))))))))))))))))))
  (.seq (.reg [⟨(some 101), .ld (.t 3) (some 11), none⟩,
  ⟨none, .st (.t 2) (.t 101) 11, none⟩])
  (.ret)))), [.c 2 (some 11)]⟩
theorem dc49 : compF Try.prog Try.f49 = some df49 := by kernel_rfl
theorem ok49 : FnOk Try.prog 49 := ⟨Try.f49, Try.func49, by kernel_rfl, by kernel_rfl⟩

/-- citadel/citadelref06.size -/
def df50 : DF :=
  ⟨58, .seq (.reg [⟨(some 1), .box (.t 0), none⟩,
  ⟨(some 2), .mv (.k (.s (.i .i64 0))), none⟩])
  (.seq (.seq (.reg [⟨(some 3), .fa (.t 1) 0, none⟩,
  ⟨(some 4), .ld (.t 3) none, none⟩])
  (.block 0 (.seq (.reg [⟨(some 6), .bin .eql (.t 4) (.k (.s (.i .i64 1))), none⟩,
  ⟨(some 5), .mv (.t 6), none⟩])
  (.cond (.t 5)
  (.seq (.reg [⟨(some 7), .fa (.t 1) 2, none⟩,
  ⟨(some 8), .ld (.t 7) none, none⟩,
  ⟨(some 9), .bin .geq (.t 8) (.k (.s (.i .i64 4))), none⟩,
  ⟨(some 10), .mv (.t 9), none⟩,
  ⟨(some 11), .fa (.t 1) 2, (some (10, true))⟩,
  ⟨(some 12), .ld (.t 11) none, (some (10, true))⟩,
  ⟨(some 13), .bin .leq (.t 12) (.k (.s (.i .i64 15))), (some (10, true))⟩,
  ⟨(some 14), .pick (.t 10) (.t 13) (.k (.s (.b false))), none⟩])
  (.cond (.t 14)
  (.seq (.reg [⟨(some 15), .fa (.t 1) 2, none⟩,
  ⟨(some 16), .ld (.t 15) none, none⟩,
  ⟨(some 17), .bin .shl (.k (.s (.i .i64 1))) (.t 16), none⟩,
  ⟨(some 2), .mv (.t 17), none⟩])
  (.ret))
  (.skip)))
  (.seq (.reg [⟨(some 19), .bin .eql (.t 4) (.k (.s (.i .i64 2))), none⟩,
  ⟨(some 18), .mv (.t 19), none⟩])
  (.cond (.t 18)
  (.seq (.reg [⟨(some 20), .fa (.t 1) 2, none⟩,
  ⟨(some 21), .ld (.t 20) none, none⟩,
  ⟨(some 22), .bin .geq (.t 21) (.k (.s (.i .i64 1))), none⟩,
  ⟨(some 23), .mv (.t 22), none⟩,
  ⟨(some 24), .fa (.t 1) 2, (some (23, true))⟩,
  ⟨(some 25), .ld (.t 24) none, (some (23, true))⟩,
  ⟨(some 26), .bin .leq (.t 25) (.k (.s (.i .i64 8))), (some (23, true))⟩,
  ⟨(some 27), .pick (.t 23) (.t 26) (.k (.s (.b false))), none⟩])
  (.cond (.t 27)
  (.seq (.reg [⟨(some 28), .fa (.t 1) 2, none⟩,
  ⟨(some 29), .ld (.t 28) none, none⟩,
  ⟨(some 30), .bin .shl (.k (.s (.i .i64 4))) (.t 29), none⟩,
  ⟨(some 2), .mv (.t 30), none⟩])
  (.ret))
  (.skip)))
  (.seq (.reg [⟨(some 32), .bin .eql (.t 4) (.k (.s (.i .i64 10))), none⟩,
  ⟨(some 31), .mv (.t 32), none⟩])
  (.cond (.t 31)
  (.seq (.seq (.reg [⟨(some 33), .fa (.t 1) 2, none⟩,
  ⟨(some 34), .ld (.t 33) none, none⟩,
  ⟨(some 35), .bin .geq (.t 34) (.k (.s (.i .i64 1))), none⟩,
  ⟨(some 36), .mv (.t 35), none⟩,
  ⟨(some 37), .fa (.t 1) 2, (some (36, true))⟩,
  ⟨(some 38), .ld (.t 37) none, (some (36, true))⟩,
  ⟨(some 39), .bin .leq (.t 38) (.k (.s (.i .i64 8))), (some (36, true))⟩,
  ⟨(some 40), .pick (.t 36) (.t 39) (.k (.s (.b false))), none⟩])
  (.cond (.t 40)
  (.seq (.reg [⟨(some 41), .fa (.t 1) 2, none⟩,
  ⟨(some 42), .ld (.t 41) none, none⟩,
  ⟨(some 43), .bin .shl (.k (.s (.i .i64 4))) (.t 42), none⟩,
  ⟨(some 2), .mv (.t 43), none⟩])
  (.ret))
  (.skip)))
  (.seq (.reg [⟨(some 44), .fa (.t 1) 2, none⟩,
  ⟨(some 45), .ld (.t 44) none, none⟩,
  ⟨(some 46), .bin .eql (.t 45) (.k (.s (.i .i64 31))), none⟩])
  (.cond (.t 46)
  (.seq (.reg [⟨(some 2), .mv (.k (.s (.i .i64 64))), none⟩])
  (.ret))
  (.skip))))
  (.seq (.seq (.reg [⟨(some 48), .bin .eql (.t 4) (.k (.s (.i .i64 3))), none⟩,
  ⟨(some 47), .mv (.t 48), none⟩])
  (.cond (.t 47)
  (.skip)
  (.reg [⟨(some 49), .bin .eql (.t 4) (.k (.s (.i .i64 9))), none⟩,
  ⟨(some 47), .mv (.t 49), none⟩])))
  (.cond (.t 47)
  (.seq (.reg [⟨(some 2), .mv (.k (.s (.i .i64 64))), none⟩])
  (.ret))
  (.seq (.reg [⟨(some 51), .bin .eql (.t 4) (.k (.s (.i .i64 4))), none⟩,
  ⟨(some 50), .mv (.t 51), none⟩])
  (.cond (.t 50)
  (.seq (.reg [⟨(some 2), .mv (.k (.s (.i .i64 4))), none⟩])
  (.ret))
  (.seq (.seq (.reg [⟨(some 53), .bin .eql (.t 4) (.k (.s (.i .i64 5))), none⟩,
  ⟨(some 52), .mv (.t 53), none⟩])
  (.cond (.t 52)
  (.skip)
  (.seq (.reg [⟨(some 54), .bin .eql (.t 4) (.k (.s (.i .i64 6))), none⟩,
  ⟨(some 52), .mv (.t 54), none⟩])
  (.cond (.t 52)
  (.skip)
  (.reg [⟨(some 55), .bin .eql (.t 4) (.k (.s (.i .i64 7))), none⟩,
  ⟨(some 52), .mv (.t 55), none⟩])))))
  (.cond (.t 52)
  (.seq (.reg [⟨(some 2), .mv (.k (.s (.i .i64 8))), none⟩])
  (.ret))
  (.seq (.reg [⟨(some 57), .bin .eql (.t 4) (.k (.s (.i .i64 8))), none⟩,
  ⟨(some 56), .mv (.t 57), none⟩])
  (.cond (.t 56)
  (.seq (.reg [⟨(some 2), .mv (.k (.s (.i .i64 16))), none⟩])
  (.ret))
  (.skip)))))))))))))))))
  (.seq (.reg [⟨(some 2), .mv (.k (.s (.i .i64 0))), none⟩])
  (.ret))), [.t 2]⟩
theorem dc50 : compF Try.prog Try.f50 = some df50 := by kernel_rfl
theorem ok50 : FnOk Try.prog 50 := ⟨Try.f50, Try.func50, by kernel_rfl, by kernel_rfl⟩

/-- citadel/citadelref06.address -/
def df51 : DF :=
  ⟨17, .seq (.reg [⟨(some 4), .mv (.k (.s (.b false))), none⟩])
  (.seq (.reg [⟨(some 5), .mv (.t 0), none⟩,
  ⟨(some 6), .bin .geq (.t 5) (.k (.s (.i .i64 1024))), none⟩,
  ⟨(some 7), .mv (.t 6), none⟩,
  ⟨(some 8), .mv (.t 0), (some (7, true))⟩,
  ⟨(some 9), .bin .leq (.t 8) (.k (.s (.i .i64 65535))), (some (7, true))⟩,
  ⟨(some 10), .pick (.t 7) (.t 9) (.k (.s (.b false))), none⟩,
  ⟨(some 11), .mv (.t 10), none⟩,
  ⟨(some 12), .mv (.t 0), (some (11, true))⟩,
  ⟨(some 13), .mv (.t 1), (some (11, true))⟩,
  ⟨(some 14), .bin .rem (.t 12) (.t 13), (some (11, true))⟩,
  ⟨(some 15), .bin .eql (.t 14) (.k (.s (.i .i64 0))), (some (11, true))⟩,
  ⟨(some 16), .pick (.t 11) (.t 15) (.k (.s (.b false))), none⟩,
  ⟨(some 4), .mv (.t 16), none⟩])
  (.ret)), [.t 4]⟩
theorem dc51 : compF Try.prog Try.f51 = some df51 := by kernel_rfl
theorem ok51 : FnOk Try.prog 51 := ⟨Try.f51, Try.func51, by kernel_rfl, by kernel_rfl⟩

/-- citadel/citadelref06.in -/
def df52 : DF :=
  ⟨15, .seq (.reg [⟨(some 6), .mv (.k (.s (.b false))), none⟩])
  (.seq (.reg [⟨(some 7), .mv (.t 0), none⟩,
  ⟨(some 8), .mv (.t 1), none⟩,
  ⟨(some 9), .bin .geq (.t 7) (.t 8), none⟩,
  ⟨(some 10), .mv (.t 9), none⟩,
  ⟨(some 11), .mv (.t 0), (some (10, true))⟩,
  ⟨(some 12), .mv (.t 2), (some (10, true))⟩,
  ⟨(some 13), .bin .leq (.t 11) (.t 12), (some (10, true))⟩,
  ⟨(some 14), .pick (.t 10) (.t 13) (.k (.s (.b false))), none⟩,
  ⟨(some 6), .mv (.t 14), none⟩])
  (.ret)), [.t 6]⟩
theorem dc52 : compF Try.prog Try.f52 = some df52 := by kernel_rfl
theorem ok52 : FnOk Try.prog 52 := ⟨Try.f52, Try.func52, by kernel_rfl, by kernel_rfl⟩

/-- citadel/citadelref07.Put -/
def df53 : DF :=
  ⟨58, .seq (.reg [⟨(some 5), .box (.t 2), none⟩,
  ⟨(some 6), .mv (.k (.s (.i .i64 0))), none⟩])
  (.seq (.reg [⟨(some 12), .mv (.t 0), none⟩,
  ⟨(some 13), .mv (.t 1), none⟩,
  ⟨(some 14), .call 88 [(.t 12), (.t 13)], none⟩,
  ⟨(some 7), .mv (.t 14), none⟩])
  (.seq (.seq (.reg [⟨(some 15), .mv (.t 7), none⟩,
  ⟨(some 16), .un .not (.t 15), none⟩])
  (.cond (.t 16)
  (.seq (.reg [⟨(some 6), .mv (.k (.s (.i .i64 20))), none⟩])
  (.ret))
  (.skip)))
  (.seq (.reg [⟨(some 17), .ld (.t 5) (some 14), none⟩,
  ⟨(some 18), .call 89 [(.t 17)], none⟩,
  ⟨(some 8), .mv (.t 18), none⟩])
  (.seq (.seq (.reg [⟨(some 19), .mv (.t 8), none⟩,
  ⟨(some 20), .un .not (.t 19), none⟩])
  (.cond (.t 20)
  (.seq (.reg [⟨(some 6), .mv (.k (.s (.i .i64 110))), none⟩])
  (.ret))
  (.skip)))
  (.seq (.reg [⟨(some 22), .fa (.t 5) 0, none⟩,
  ⟨(some 23), .ld (.t 22) (some 11), none⟩,
  ⟨(some 24), .call 90 [(.t 23)], none⟩,
  ⟨(some 21), .mv (.t 24), none⟩,
  ⟨(some 25), .ext (.t 21) 0, none⟩,
  ⟨(some 26), .ext (.t 21) 1, none⟩,
  ⟨(some 27), .ext (.t 21) 2, none⟩,
  ⟨(some 9), .mv (.t 25), none⟩,
  ⟨(some 10), .mv (.t 26), none⟩,
  ⟨(some 11), .mv (.t 27), none⟩])
  (.seq (.reg [⟨(some 28), .mv (.t 0), none⟩,
  ⟨(some 29), .mv (.t 1), none⟩,
  ⟨(some 30), .mv (.t 9), none⟩,
  ⟨(some 31), .call 91 [(.t 28), (.t 29), (.t 30)], none⟩])
  (.seq (.reg [⟨(some 32), .mv (.t 0), none⟩,
  ⟨(some 33), .mv (.t 1), none⟩,
  ⟨(some 34), .bin .add (.t 33) (.k (.s (.i .i64 1))), none⟩,
  ⟨(some 35), .mv (.t 10), none⟩,
  ⟨(some 36), .call 91 [(.t 32), (.t 34), (.t 35)], none⟩])
  (.seq (.reg [⟨(some 37), .mv (.t 0), none⟩,
  ⟨(some 38), .mv (.t 1), none⟩,
  ⟨(some 39), .bin .add (.t 38) (.k (.s (.i .i64 2))), none⟩,
  ⟨(some 40), .fa (.t 5) 11, none⟩,
  ⟨(some 41), .ld (.t 40) none, none⟩,
  ⟨(some 42), .conv .u64 (.t 41), none⟩,
  ⟨(some 43), .fa (.t 5) 12, none⟩,
  ⟨(some 44), .ld (.t 43) none, none⟩,
  ⟨(some 45), .conv .u64 (.t 44), none⟩,
  ⟨(some 46), .bin .shl (.t 45) (.k (.s (.i .u64 16))), none⟩,
  ⟨(some 47), .bin .add (.t 42) (.t 46), none⟩,
  ⟨(some 48), .fa (.t 5) 13, none⟩,
  ⟨(some 49), .ld (.t 48) none, none⟩,
  ⟨(some 50), .conv .u64 (.t 49), none⟩,
  ⟨(some 51), .bin .shl (.t 50) (.k (.s (.i .u64 32))), none⟩,
  ⟨(some 52), .bin .add (.t 47) (.t 51), none⟩,
  ⟨(some 53), .call 91 [(.t 37), (.t 39), (.t 52)], none⟩])
  (.seq (.reg [⟨(some 54), .mv (.t 0), none⟩,
  ⟨(some 55), .mv (.t 1), none⟩,
  ⟨(some 56), .bin .add (.t 55) (.k (.s (.i .i64 3))), none⟩,
  ⟨(some 57), .call 91 [(.t 54), (.t 56), (.k (.s (.i .u64 0)))], none⟩])
  (.seq (.reg [⟨(some 6), .mv (.k (.s (.i .i64 0))), none⟩])
  (.ret))))))))))), [.t 6]⟩
theorem dc53 : compF Try.prog Try.f53 = some df53 := by kernel_rfl
theorem ok53 : FnOk Try.prog 53 := ⟨Try.f53, Try.func53, by kernel_rfl, by kernel_rfl⟩

/-- (*citadel/mem.Memory).Load -/
def df54 : DF :=
  ⟨22, .seq (.reg [⟨(some 6), .mv (.k (.s (.i .i64 0))), none⟩])
  (.seq (.reg [⟨(some 10), .mv (.t 0), none⟩,
  ⟨(some 11), .mv (.t 1), none⟩,
  ⟨(some 12), .mv (.t 2), none⟩,
  ⟨(some 13), .len (.t 12), none⟩,
  ⟨(some 14), .call 60 [(.t 10), (.t 11), (.t 13)], none⟩,
  ⟨(some 9), .mv (.t 14), none⟩,
  ⟨(some 15), .ext (.t 9) 0, none⟩,
  ⟨(some 16), .ext (.t 9) 1, none⟩,
  ⟨(some 7), .mv (.t 15), none⟩,
  ⟨(some 8), .mv (.t 16), none⟩])
  (.seq (.seq (.reg [⟨(some 17), .mv (.t 8), none⟩,
  ⟨(some 18), .un .not (.t 17), none⟩])
  (.cond (.t 18)
  (.seq (.reg [⟨(some 6), .mv (.k (.s (.i .i64 20))), none⟩])
  (.ret))
  (.skip)))
  (.seq (.reg [⟨(some 19), .mv (.t 7), none⟩,
  ⟨(some 20), .mv (.t 2), none⟩,
  ⟨(some 21), .cpy 1 (.t 19) (.t 20), none⟩])
  (.seq (.reg [⟨(some 6), .mv (.k (.s (.i .i64 0))), none⟩])
  (.ret))))), [.t 6]⟩
theorem dc54 : compF Try.prog Try.f54 = some df54 := by kernel_rfl
theorem ok54 : FnOk Try.prog 54 := ⟨Try.f54, Try.func54, by kernel_rfl, by kernel_rfl⟩

/-- citadel/caps.Right -/
def df55 : DF :=
  ⟨130, .seq (.reg [⟨(some 1), .box (.t 0), none⟩,
  ⟨(some 2), .mv (.k (.s (.b false))), none⟩])
  (.seq (.reg [⟨(some 6), .ld (.t 1) (some 11), none⟩,
  ⟨(some 7), .call 92 [(.t 6)], none⟩,
  ⟨(some 5), .mv (.t 7), none⟩,
  ⟨(some 8), .ext (.t 5) 0, none⟩,
  ⟨(some 9), .ext (.t 5) 1, none⟩,
  ⟨(some 3), .mv (.t 8), none⟩,
  ⟨(some 4), .mv (.t 9), none⟩])
  (.seq (.seq (.drm [(true, ⟨(some 10), .mv (.t 4), none⟩),
  (true, ⟨(some 11), .un .not (.t 10), none⟩),
  (true, ⟨(some 12), .mv (.t 11), none⟩),
  (true, ⟨(some 13), .fa (.t 1) 0, (some (12, false))⟩),
  (true, ⟨(some 14), .ld (.t 13) none, (some (12, false))⟩),
  (true, ⟨(some 15), .bin .lss (.t 14) (.k (.s (.i .i64 0))), (some (12, false))⟩),
  (true, ⟨(some 16), .pick (.t 12) (.k (.s (.b true))) (.t 15), none⟩),
  (true, ⟨(some 17), .mv (.t 16), none⟩),
  (true, ⟨(some 18), .fa (.t 1) 0, (some (17, false))⟩),
  (true, ⟨(some 19), .ld (.t 18) none, (some (17, false))⟩),
  (true, ⟨(some 20), .bin .gtr (.t 19) (.k (.s (.i .i64 13))), (some (17, false))⟩),
  (true, ⟨(some 21), .pick (.t 17) (.k (.s (.b true))) (.t 20), none⟩),
  (true, ⟨(some 22), .mv (.t 21), none⟩),
  (true, ⟨(some 23), .ld (.t 1) (some 11), (some (22, false))⟩),
  (true, ⟨(some 25), .fa (.t 1) 0, (some (22, false))⟩),
  (true, ⟨(some 26), .ld (.t 25) none, (some (22, false))⟩),
  (true, ⟨(some 27), .build [.i .i64 0, .i .i64 0, .i .i64 0, .i .i64 0, .i .i64 0, .i .i64 0, .i .i64 0, .i .i64 0, .i .i64 0, .i .i64 0, .i .i64 0] [(0, 1, (.t 26))], (some (22, false))⟩),
  (true, ⟨(some 24), .call 93 [(.t 23)], (some (22, false))⟩),
  (true, ⟨(some 28), .eqa true [true, true, true, true, true, true, true, true, true, true, true] (.t 24) (.t 27), (some (22, false))⟩),
  (true, ⟨(some 29), .pick (.t 22) (.k (.s (.b true))) (.t 28), none⟩)])
  (.cond (.t 29)
  (.seq (.reg [⟨(some 2), .mv (.k (.s (.b false))), none⟩])
  (.ret))
  (.skip)))
  (.seq (.seq (.reg [⟨(some 30), .mv (.t 3), none⟩,
  ⟨(some 31), .bin .gtr (.t 30) (.k (.s (.i .i64 0))), none⟩,
  ⟨(some 32), .mv (.t 31), none⟩,
  ⟨(some 33), .fa (.t 1) 1, (some (32, true))⟩,
  ⟨(some 34), .ld (.t 33) none, (some (32, true))⟩,
  ⟨(some 35), .bin .lss (.t 34) (.k (.s (.i .i64 1024))), (some (32, true))⟩,
  ⟨(some 36), .mv (.t 35), (some (32, true))⟩,
  ⟨(some 37), .fa (.t 1) 1, (some (36, false))⟩,
  ⟨(some 38), .ld (.t 37) none, (some (36, false))⟩,
  ⟨(some 39), .bin .gtr (.t 38) (.k (.s (.i .i64 65535))), (some (36, false))⟩,
  ⟨(some 40), .pick (.t 36) (.k (.s (.b true))) (.t 39), (some (32, true))⟩,
  ⟨(some 41), .mv (.t 40), (some (32, true))⟩,
  ⟨(some 42), .fa (.t 1) 1, (some (41, false))⟩,
  ⟨(some 43), .ld (.t 42) none, (some (41, false))⟩,
  ⟨(some 44), .mv (.t 3), (some (41, false))⟩,
  ⟨(some 45), .bin .rem (.t 43) (.t 44), (some (41, false))⟩,
  ⟨(some 46), .bin .neq (.t 45) (.k (.s (.i .i64 0))), (some (41, false))⟩,
  ⟨(some 47), .pick (.t 41) (.k (.s (.b true))) (.t 46), (some (32, true))⟩,
  ⟨(some 48), .pick (.t 32) (.t 47) (.k (.s (.b false))), none⟩])
  (.cond (.t 48)
  (.seq (.reg [⟨(some 2), .mv (.k (.s (.b false))), none⟩])
  (.ret))
  (.skip)))
  (.seq (.seq (.reg [⟨(some 49), .fa (.t 1) 0, none⟩,
  ⟨(some 50), .ld (.t 49) none, none⟩])
  (.block 0 (.seq (.reg [⟨(some 52), .bin .eql (.t 50) (.k (.s (.i .i64 1))), none⟩,
  ⟨(some 51), .mv (.t 52), none⟩])
  (.cond (.t 51)
  (.seq (.reg [⟨(some 53), .fa (.t 1) 3, none⟩,
  ⟨(some 54), .ld (.t 53) none, none⟩,
  ⟨(some 55), .mv (.t 3), none⟩,
  ⟨(some 56), .call 94 [(.t 54), (.t 55)], none⟩,
  ⟨(some 2), .mv (.t 56), none⟩])
  (.ret))
  (.seq (.reg [⟨(some 58), .bin .eql (.t 50) (.k (.s (.i .i64 2))), none⟩,
  ⟨(some 57), .mv (.t 58), none⟩])
  (.cond (.t 57)
  (.seq (.drm [(true, ⟨(some 59), .fa (.t 1) 5, none⟩),
  (true, ⟨(some 60), .ld (.t 59) none, none⟩),
  (false, ⟨(some 61), .call 94 [(.t 60), (.k (.s (.i .i64 31)))], none⟩),
  (true, ⟨(some 62), .mv (.t 61), none⟩),
  (true, ⟨(some 63), .fa (.t 1) 4, (some (62, true))⟩),
  (true, ⟨(some 64), .ld (.t 63) none, (some (62, true))⟩),
  (true, ⟨(some 65), .fa (.t 1) 5, (some (62, true))⟩),
  (true, ⟨(some 66), .ld (.t 65) none, (some (62, true))⟩),
  (true, ⟨(some 67), .bin .shl (.k (.s (.i .i64 1))) (.t 66), (some (62, true))⟩),
  (true, ⟨(some 68), .bin .sub (.t 67) (.k (.s (.i .i64 1))), (some (62, true))⟩),
  (false, ⟨(some 69), .call 94 [(.t 64), (.t 68)], (some (62, true))⟩),
  (true, ⟨(some 70), .pick (.t 62) (.t 69) (.k (.s (.b false))), none⟩),
  (true, ⟨(some 2), .mv (.t 70), none⟩)])
  (.ret))
  (.seq (.seq (.reg [⟨(some 72), .bin .eql (.t 50) (.k (.s (.i .i64 4))), none⟩,
  ⟨(some 71), .mv (.t 72), none⟩])
  (.cond (.t 71)
  (.skip)
  (.reg [⟨(some 73), .bin .eql (.t 50) (.k (.s (.i .i64 5))), none⟩,
  ⟨(some 71), .mv (.t 73), none⟩])))
  (.cond (.t 71)
  (.seq (.reg [⟨(some 74), .fa (.t 1) 7, none⟩,
  ⟨(some 75), .ld (.t 74) none, none⟩,
  ⟨(some 76), .call 94 [(.t 75), (.k (.s (.i .i64 7)))], none⟩,
  ⟨(some 77), .mv (.t 76), none⟩,
  ⟨(some 78), .fa (.t 1) 6, (some (77, true))⟩,
  ⟨(some 79), .ld (.t 78) none, (some (77, true))⟩,
  ⟨(some 80), .call 94 [(.t 79), (.k (.s (.i .i64 268435455)))], (some (77, true))⟩,
  ⟨(some 81), .pick (.t 77) (.t 80) (.k (.s (.b false))), none⟩,
  ⟨(some 2), .mv (.t 81), none⟩])
  (.ret))
  (.seq (.reg [⟨(some 83), .bin .eql (.t 50) (.k (.s (.i .i64 6))), none⟩,
  ⟨(some 82), .mv (.t 83), none⟩])
  (.cond (.t 82)
  (.seq (.reg [⟨(some 84), .fa (.t 1) 8, none⟩,
  ⟨(some 85), .ld (.t 84) none, none⟩,
  ⟨(some 86), .fa (.t 1) 9, none⟩,
  ⟨(some 87), .ld (.t 86) none, none⟩,
  ⟨(some 88), .call 95 [(.t 85), (.t 87), (.k (.s (.i .i64 1)))], none⟩,
  ⟨(some 2), .mv (.t 88), none⟩])
  (.ret))
  (.seq (.reg [⟨(some 90), .bin .eql (.t 50) (.k (.s (.i .i64 7))), none⟩,
  ⟨(some 89), .mv (.t 90), none⟩])
  (.cond (.t 89)
  (.seq (.reg [⟨(some 91), .fa (.t 1) 8, none⟩,
  ⟨(some 92), .ld (.t 91) none, none⟩,
  ⟨(some 93), .call 94 [(.t 92), (.k (.s (.i .i64 63)))], none⟩,
  ⟨(some 94), .mv (.t 93), none⟩,
  ⟨(some 95), .fa (.t 1) 8, (some (94, true))⟩,
  ⟨(some 96), .ld (.t 95) none, (some (94, true))⟩,
  ⟨(some 97), .bin .rem (.t 96) (.k (.s (.i .i64 8))), (some (94, true))⟩,
  ⟨(some 98), .bin .eql (.t 97) (.k (.s (.i .i64 0))), (some (94, true))⟩,
  ⟨(some 99), .pick (.t 94) (.t 98) (.k (.s (.b false))), none⟩,
  ⟨(some 2), .mv (.t 99), none⟩])
  (.ret))
  (.seq (.reg [⟨(some 101), .bin .eql (.t 50) (.k (.s (.i .i64 8))), none⟩,
  ⟨(some 100), .mv (.t 101), none⟩])
  (.cond (.t 100)
  (.seq (.reg [⟨(some 102), .fa (.t 1) 7, none⟩,
  ⟨(some 103), .ld (.t 102) none, none⟩,
  ⟨(some 104), .call 94 [(.t 103), (.k (.s (.i .i64 7)))], none⟩,
  ⟨(some 105), .mv (.t 104), none⟩,
  ⟨(some 106), .fa (.t 1) 8, (some (105, true))⟩,
  ⟨(some 107), .ld (.t 106) none, (some (105, true))⟩,
  ⟨(some 108), .fa (.t 1) 9, (some (105, true))⟩,
  ⟨(some 109), .ld (.t 108) none, (some (105, true))⟩,
  ⟨(some 110), .call 95 [(.t 107), (.t 109), (.k (.s (.i .i64 16)))], (some (105, true))⟩,
  ⟨(some 111), .pick (.t 105) (.t 110) (.k (.s (.b false))), none⟩,
  ⟨(some 2), .mv (.t 111), none⟩])
  (.ret))
  (.seq (.reg [⟨(some 113), .bin .eql (.t 50) (.k (.s (.i .i64 10))), none⟩,
  ⟨(some 112), .mv (.t 113), none⟩])
  (.cond (.t 112)
  (.seq (.seq (.reg [⟨(some 114), .fa (.t 1) 2, none⟩,
  ⟨(some 115), .ld (.t 114) none, none⟩,
  ⟨(some 116), .bin .eql (.t 115) (.k (.s (.i .i64 31))), none⟩])
  (.cond (.t 116)
  (.seq (.reg [⟨(some 117), .fa (.t 1) 3, none⟩,
  ⟨(some 118), .ld (.t 117) none, none⟩,
  ⟨(some 119), .call 94 [(.t 118), (.k (.s (.i .i64 3)))], none⟩,
  ⟨(some 2), .mv (.t 119), none⟩])
  (.ret))
  (.skip)))
  (.seq (.reg [⟨(some 120), .fa (.t 1) 3, none⟩,
  ⟨(some 121), .ld (.t 120) none, none⟩,
  ⟨(some 122), .mv (.t 3), none⟩,
  ⟨(some 123), .bin .quo (.t 122) (.k (.s (.i .i64 4))), none⟩,
  ⟨(some 124), .call 94 [(.t 121), (.t 123)], none⟩,
  ⟨(some 2), .mv (.t 124), none⟩])
  (.ret)))
  (.seq (.reg [⟨(some 126), .bin .eql (.t 50) (.k (.s (.i .i64 12))), none⟩,
  ⟨(some 125), .mv (.t 126), none⟩])
  (.cond (.t 125)
  (.seq (.reg [⟨(some 127), .fa (.t 1) 10, none⟩,
  ⟨(some 128), .ld (.t 127) none, none⟩,
  ⟨(some 129), .call 94 [(.t 128), (.k (.s (.i .i64 15)))], none⟩,
  ⟨(some 2), .mv (.t 129), none⟩])
  (.ret))
  (.skip)))))))))))))))))))
  (.seq (.reg [⟨(some 2), .mv (.k (.s (.b true))), none⟩])
  (.ret)))))), [.t 2]⟩
theorem dc55 : compF Try.prog Try.f55 = some df55 := by kernel_rfl
theorem ok55 : FnOk Try.prog 55 := ⟨Try.f55, Try.func55, by kernel_rfl, by kernel_rfl⟩

/-- (*citadel/cspace.bits).take -/
def df56 : DF :=
  ⟨34, .seq (.reg [⟨(some 4), .mv (.k (.s (.i .i64 0))), none⟩,
  ⟨(some 5), .mv (.k (.s (.b false))), none⟩])
  (.seq (.seq (.reg [⟨(some 6), .mv (.t 1), none⟩,
  ⟨(some 7), .mv (.t 0), none⟩,
  ⟨(some 8), .nil (.t 7), none⟩,
  ⟨(some 9), .fa (.t 8) 1, none⟩,
  ⟨(some 10), .ld (.t 9) none, none⟩,
  ⟨(some 11), .bin .gtr (.t 6) (.t 10), none⟩])
  (.cond (.t 11)
  (.seq (.reg [⟨(some 4), .mv (.k (.s (.i .i64 0))), none⟩,
  ⟨(some 5), .mv (.k (.s (.b false))), none⟩])
  (.ret))
  (.skip)))
  (.seq (.reg [⟨(some 12), .mv (.t 0), none⟩,
  ⟨(some 13), .nil (.t 12), none⟩,
  ⟨(some 14), .fa (.t 13) 1, none⟩,
  ⟨(some 15), .ld (.t 14) none, none⟩,
  ⟨(some 16), .mv (.t 1), none⟩,
  ⟨(some 17), .bin .sub (.t 15) (.t 16), none⟩,
  ⟨(some 18), .nil (.t 12), none⟩,
  ⟨(some 19), .fa (.t 18) 1, none⟩,
  ⟨none, .st (.t 19) (.t 17) 1, none⟩])
  (.seq (.drq [⟨(some 20), .mv (.t 0), none⟩,
  ⟨(some 21), .nil (.t 20), none⟩,
  ⟨(some 22), .fa (.t 21) 0, none⟩,
  ⟨(some 23), .ld (.t 22) none, none⟩,
  ⟨(some 24), .mv (.t 0), none⟩,
  ⟨(some 25), .nil (.t 24), none⟩,
  ⟨(some 26), .fa (.t 25) 1, none⟩,
  ⟨(some 27), .ld (.t 26) none, none⟩,
  ⟨(some 28), .bin .shr (.t 23) (.t 27), none⟩,
  ⟨(some 29), .mv (.t 1), none⟩,
  ⟨(some 30), .bin .shl (.k (.s (.i .u64 1))) (.t 29), none⟩,
  ⟨(some 31), .bin .sub (.t 30) (.k (.s (.i .u64 1))), none⟩,
  ⟨(some 32), .bin .and (.t 28) (.t 31), none⟩,
  ⟨(some 33), .conv .i64 (.t 32), none⟩,
  ⟨(some 4), .mv (.t 33), none⟩,
  ⟨(some 5), .mv (.k (.s (.b true))), none⟩])
  (.ret)))), [.t 4, .t 5]⟩
theorem dc56 : compF Try.prog Try.f56 = some df56 := by kernel_rfl
theorem ok56 : FnOk Try.prog 56 := ⟨Try.f56, Try.func56, by kernel_rfl, by kernel_rfl⟩

/-- citadel/slots.Get -/
def df57 : DF :=
  ⟨78, .seq (.reg [⟨(some 4), .new [.i .i64 0, .i .i64 0, .i .i64 0, .i .i64 0, .i .i64 0, .i .i64 0, .i .i64 0, .i .i64 0, .i .i64 0, .i .i64 0, .i .i64 0, .i .i64 0, .i .i64 0, .i .i64 0], none⟩,
  ⟨(some 5), .mv (.k (.s (.i .i64 0))), none⟩])
  (.seq (.seq (.reg [⟨(some 13), .mv (.t 0), none⟩,
  ⟨(some 14), .mv (.t 1), none⟩,
  ⟨(some 15), .call 96 [(.t 13), (.t 14)], none⟩,
  ⟨(some 16), .un .not (.t 15), none⟩])
  (.cond (.t 16)
  (.seq (.reg [⟨(some 17), .build [.i .i64 0, .i .i64 0, .i .i64 0, .i .i64 0, .i .i64 0, .i .i64 0, .i .i64 0, .i .i64 0, .i .i64 0, .i .i64 0, .i .i64 0, .i .i64 0, .i .i64 0, .i .i64 0] [], none⟩,
  ⟨none, .st (.t 4) (.t 17) 14, none⟩,
  ⟨(some 5), .mv (.k (.s (.i .i64 20))), none⟩])
  (.ret))
  (.skip)))
  (.seq (.reg [⟨(some 6), .new [.i .u64 0, .i .u64 0, .i .u64 0, .i .u64 0], none⟩])
  (.seq (.seq (.reg [⟨(some 18), .mv (.k (.s (.i .i64 0))), none⟩])
  (.block 0 (.loop (.seq (.reg [⟨(some 19), .bin .lss (.t 18) (.k (.s (.i .i64 4))), none⟩])
  (.seq (.cond (.t 19)
  (.skip)
  (.exit 0))
  (.seq (.block 1 (.seq (.reg [⟨(some 20), .mv (.t 18), none⟩,
  ⟨(some 7), .mv (.t 20), none⟩])
  (.reg [⟨(some 22), .mv (.t 7), none⟩,
  ⟨(some 23), .mv (.t 0), none⟩,
  ⟨(some 24), .mv (.t 1), none⟩,
  ⟨(some 25), .mv (.t 7), none⟩,
  ⟨(some 26), .bin .add (.t 24) (.t 25), none⟩,
  ⟨(some 27), .call 70 [(.t 23), (.t 26)], none⟩,
  ⟨(some 21), .mv (.t 27), none⟩,
  ⟨(some 28), .ext (.t 21) 0, none⟩,
  ⟨(some 29), .ext (.t 21) 1, none⟩,
  ⟨(some 30), .ia (some 4) 1 (.t 6) (.t 22), none⟩,
  ⟨none, .st (.t 30) (.t 28) 1, none⟩])))
  (.reg [⟨(some 31), .bin .add (.t 18) (.k (.s (.i .i64 1))), none⟩,
  ⟨(some 18), .mv (.t 31), none⟩])))))))
  (.seq (.reg [⟨(some 33), .ia (some 4) 1 (.t 6) (.k (.s (.i .i64 0))), none⟩,
  ⟨(some 34), .ld (.t 33) none, none⟩,
  ⟨(some 35), .ia (some 4) 1 (.t 6) (.k (.s (.i .i64 1))), none⟩,
  ⟨(some 36), .ld (.t 35) none, none⟩,
  ⟨(some 37), .call 97 [(.t 34), (.t 36)], none⟩,
  ⟨(some 32), .mv (.t 37), none⟩,
  ⟨(some 38), .ext (.t 32) 0, none⟩,
  ⟨(some 39), .ext (.t 32) 1, none⟩,
  ⟨(some 8), .new [.i .i64 0, .i .i64 0, .i .i64 0, .i .i64 0, .i .i64 0, .i .i64 0, .i .i64 0, .i .i64 0, .i .i64 0, .i .i64 0, .i .i64 0], none⟩,
  ⟨none, .st (.t 8) (.t 38) 11, none⟩,
  ⟨(some 9), .mv (.t 39), none⟩])
  (.seq (.reg [⟨(some 41), .ia (some 4) 1 (.t 6) (.k (.s (.i .i64 2))), none⟩,
  ⟨(some 42), .ld (.t 41) none, none⟩,
  ⟨(some 43), .bsl 3 [.i .i64 0, .i .i64 0, .i .i64 0] [(0, 1, (.k (.s (.i .i64 16)))), (1, 1, (.k (.s (.i .i64 16)))), (2, 1, (.k (.s (.i .i64 16))))], none⟩,
  ⟨(some 44), .call 98 [(.t 42), (.t 43)], none⟩,
  ⟨(some 40), .mv (.t 44), none⟩,
  ⟨(some 45), .ext (.t 40) 0, none⟩,
  ⟨(some 46), .ext (.t 40) 1, none⟩,
  ⟨(some 10), .mv (.t 45), none⟩,
  ⟨(some 11), .mv (.t 46), none⟩])
  (.seq (.seq (.reg [⟨(some 47), .mv (.t 9), none⟩,
  ⟨(some 48), .bin .neq (.t 47) (.k (.s (.i .i64 0))), none⟩,
  ⟨(some 49), .mv (.t 48), none⟩,
  ⟨(some 50), .mv (.t 11), (some (49, false))⟩,
  ⟨(some 51), .bin .neq (.t 50) (.k (.s (.i .i64 0))), (some (49, false))⟩,
  ⟨(some 52), .pick (.t 49) (.k (.s (.b true))) (.t 51), none⟩,
  ⟨(some 53), .mv (.t 52), none⟩,
  ⟨(some 54), .ia (some 4) 1 (.t 6) (.k (.s (.i .i64 3))), (some (53, false))⟩,
  ⟨(some 55), .ld (.t 54) none, (some (53, false))⟩,
  ⟨(some 56), .bin .neq (.t 55) (.k (.s (.i .u64 0))), (some (53, false))⟩,
  ⟨(some 57), .pick (.t 53) (.k (.s (.b true))) (.t 56), none⟩])
  (.cond (.t 57)
  (.seq (.reg [⟨(some 58), .build [.i .i64 0, .i .i64 0, .i .i64 0, .i .i64 0, .i .i64 0, .i .i64 0, .i .i64 0, .i .i64 0, .i .i64 0, .i .i64 0, .i .i64 0, .i .i64 0, .i .i64 0, .i .i64 0] [], none⟩,
  ⟨none, .st (.t 4) (.t 58) 14, none⟩,
  ⟨(some 5), .mv (.k (.s (.i .i64 110))), none⟩])
  (.ret))
  (.skip)))
  (.seq (.drm [(true, ⟨(some 59), .ld (.t 8) (some 11), none⟩),
  (true, ⟨(some 60), .mv (.t 10), none⟩),
  (true, ⟨(some 61), .ia none 1 (.t 60) (.k (.s (.i .i64 0))), none⟩),
  (true, ⟨(some 62), .ld (.t 61) none, none⟩),
  (true, ⟨(some 63), .conv .i64 (.t 62), none⟩),
  (true, ⟨(some 64), .mv (.t 10), none⟩),
  (true, ⟨(some 65), .ia none 1 (.t 64) (.k (.s (.i .i64 1))), none⟩),
  (true, ⟨(some 66), .ld (.t 65) none, none⟩),
  (true, ⟨(some 67), .conv .i64 (.t 66), none⟩),
  (true, ⟨(some 68), .mv (.t 10), none⟩),
  (true, ⟨(some 69), .ia none 1 (.t 68) (.k (.s (.i .i64 2))), none⟩),
  (true, ⟨(some 70), .ld (.t 69) none, none⟩),
  (true, ⟨(some 71), .conv .i64 (.t 70), none⟩),
  (true, ⟨(some 72), .build [.i .i64 0, .i .i64 0, .i .i64 0, .i .i64 0, .i .i64 0, .i .i64 0, .i .i64 0, .i .i64 0, .i .i64 0, .i .i64 0, .i .i64 0, .i .i64 0, .i .i64 0, .i .i64 0] [(0, 11, (.t 59)), (11, 1, (.t 63)), (12, 1, (.t 67)), (13, 1, (.t 71))], none⟩),
  (false, ⟨(some 12), .new [.i .i64 0, .i .i64 0, .i .i64 0, .i .i64 0, .i .i64 0, .i .i64 0, .i .i64 0, .i .i64 0, .i .i64 0, .i .i64 0, .i .i64 0, .i .i64 0, .i .i64 0, .i .i64 0], none⟩),
  (false, ⟨none, .st (.t 12) (.t 72) 14, none⟩)])
  (.seq (.seq (.reg [⟨(some 73), .ld (.t 12) (some 14), none⟩,
  ⟨(some 74), .call 99 [(.t 73)], none⟩,
  ⟨(some 75), .un .not (.t 74), none⟩])
  (.cond (.t 75)
  (.seq (.reg [⟨(some 76), .build [.i .i64 0, .i .i64 0, .i .i64 0, .i .i64 0, .i .i64 0, .i .i64 0, .i .i64 0, .i .i64 0, .i .i64 0, .i .i64 0, .i .i64 0, .i .i64 0, .i .i64 0, .i .i64 0] [], none⟩,
  ⟨none, .st (.t 4) (.t 76) 14, none⟩,
  ⟨(some 5), .mv (.k (.s (.i .i64 110))), none⟩])
  (.ret))
  (.skip)))
  (.seq (.reg [⟨(some 77), .ld (.t 12) (some 14), none⟩,
  ⟨none, .st (.t 4) (.t 77) 14, none⟩,
  ⟨(some 5), .mv (.k (.s (.i .i64 0))), none⟩])
  (.ret)))))))))), [.c 4 (some 14), .t 5]⟩
theorem dc57 : compF Try.prog Try.f57 = some df57 := by kernel_rfl
theorem ok57 : FnOk Try.prog 57 := ⟨Try.f57, Try.func57, by kernel_rfl, by kernel_rfl⟩

/-- citadel/citadelref07.Get -/
def df58 : DF :=
  ⟨89, .seq (.reg [⟨(some 4), .new [.i .i64 0, .i .i64 0, .i .i64 0, .i .i64 0, .i .i64 0, .i .i64 0, .i .i64 0, .i .i64 0, .i .i64 0, .i .i64 0, .i .i64 0, .i .i64 0, .i .i64 0, .i .i64 0], none⟩,
  ⟨(some 5), .mv (.k (.s (.i .i64 0))), none⟩])
  (.seq (.reg [⟨(some 19), .mv (.t 0), none⟩,
  ⟨(some 20), .mv (.t 1), none⟩,
  ⟨(some 21), .call 88 [(.t 19), (.t 20)], none⟩,
  ⟨(some 6), .mv (.t 21), none⟩])
  (.seq (.seq (.reg [⟨(some 22), .mv (.t 6), none⟩,
  ⟨(some 23), .un .not (.t 22), none⟩])
  (.cond (.t 23)
  (.seq (.reg [⟨(some 24), .build [.i .i64 0, .i .i64 0, .i .i64 0, .i .i64 0, .i .i64 0, .i .i64 0, .i .i64 0, .i .i64 0, .i .i64 0, .i .i64 0, .i .i64 0, .i .i64 0, .i .i64 0, .i .i64 0] [], none⟩,
  ⟨none, .st (.t 4) (.t 24) 14, none⟩,
  ⟨(some 5), .mv (.k (.s (.i .i64 20))), none⟩])
  (.ret))
  (.skip)))
  (.seq (.reg [⟨(some 26), .mv (.t 0), none⟩,
  ⟨(some 27), .mv (.t 1), none⟩,
  ⟨(some 28), .call 100 [(.t 26), (.t 27)], none⟩,
  ⟨(some 25), .mv (.t 28), none⟩,
  ⟨(some 29), .ext (.t 25) 0, none⟩,
  ⟨(some 30), .ext (.t 25) 1, none⟩,
  ⟨(some 7), .mv (.t 29), none⟩,
  ⟨(some 8), .mv (.t 30), none⟩])
  (.seq (.reg [⟨(some 32), .mv (.t 0), none⟩,
  ⟨(some 33), .mv (.t 1), none⟩,
  ⟨(some 34), .bin .add (.t 33) (.k (.s (.i .i64 1))), none⟩,
  ⟨(some 35), .call 100 [(.t 32), (.t 34)], none⟩,
  ⟨(some 31), .mv (.t 35), none⟩,
  ⟨(some 36), .ext (.t 31) 0, none⟩,
  ⟨(some 37), .ext (.t 31) 1, none⟩,
  ⟨(some 9), .mv (.t 36), none⟩,
  ⟨(some 10), .mv (.t 37), none⟩])
  (.seq (.reg [⟨(some 39), .mv (.t 0), none⟩,
  ⟨(some 40), .mv (.t 1), none⟩,
  ⟨(some 41), .bin .add (.t 40) (.k (.s (.i .i64 2))), none⟩,
  ⟨(some 42), .call 100 [(.t 39), (.t 41)], none⟩,
  ⟨(some 38), .mv (.t 42), none⟩,
  ⟨(some 43), .ext (.t 38) 0, none⟩,
  ⟨(some 44), .ext (.t 38) 1, none⟩,
  ⟨(some 11), .mv (.t 43), none⟩,
  ⟨(some 12), .mv (.t 44), none⟩])
  (.seq (.reg [⟨(some 46), .mv (.t 0), none⟩,
  ⟨(some 47), .mv (.t 1), none⟩,
  ⟨(some 48), .bin .add (.t 47) (.k (.s (.i .i64 3))), none⟩,
  ⟨(some 49), .call 100 [(.t 46), (.t 48)], none⟩,
  ⟨(some 45), .mv (.t 49), none⟩,
  ⟨(some 50), .ext (.t 45) 0, none⟩,
  ⟨(some 51), .ext (.t 45) 1, none⟩,
  ⟨(some 13), .mv (.t 50), none⟩,
  ⟨(some 14), .mv (.t 51), none⟩])
  (.seq (.reg [⟨(some 53), .mv (.t 7), none⟩,
  ⟨(some 54), .mv (.t 9), none⟩,
  ⟨(some 55), .call 101 [(.t 53), (.t 54)], none⟩,
  ⟨(some 52), .mv (.t 55), none⟩,
  ⟨(some 56), .ext (.t 52) 0, none⟩,
  ⟨(some 57), .ext (.t 52) 1, none⟩,
  ⟨(some 15), .new [.i .i64 0, .i .i64 0, .i .i64 0, .i .i64 0, .i .i64 0, .i .i64 0, .i .i64 0, .i .i64 0, .i .i64 0, .i .i64 0, .i .i64 0], none⟩,
  ⟨none, .st (.t 15) (.t 56) 11, none⟩,
  ⟨(some 16), .mv (.t 57), none⟩])
  (.seq (.reg [⟨(some 58), .ld (.t 15) (some 11), none⟩,
  ⟨(some 59), .mv (.t 11), none⟩,
  ⟨(some 60), .bin .rem (.t 59) (.k (.s (.i .u64 65536))), none⟩,
  ⟨(some 61), .conv .i64 (.t 60), none⟩,
  ⟨(some 62), .mv (.t 11), none⟩,
  ⟨(some 63), .bin .shr (.t 62) (.k (.s (.i .u64 16))), none⟩,
  ⟨(some 64), .bin .rem (.t 63) (.k (.s (.i .u64 65536))), none⟩,
  ⟨(some 65), .conv .i64 (.t 64), none⟩,
  ⟨(some 66), .mv (.t 11), none⟩,
  ⟨(some 67), .bin .shr (.t 66) (.k (.s (.i .u64 32))), none⟩,
  ⟨(some 68), .bin .rem (.t 67) (.k (.s (.i .u64 65536))), none⟩,
  ⟨(some 69), .conv .i64 (.t 68), none⟩,
  ⟨(some 70), .build [.i .i64 0, .i .i64 0, .i .i64 0, .i .i64 0, .i .i64 0, .i .i64 0, .i .i64 0, .i .i64 0, .i .i64 0, .i .i64 0, .i .i64 0, .i .i64 0, .i .i64 0, .i .i64 0] [(0, 11, (.t 58)), (11, 1, (.t 61)), (12, 1, (.t 65)), (13, 1, (.t 69))], none⟩,
  ⟨(some 17), .new [.i .i64 0, .i .i64 0, .i .i64 0, .i .i64 0, .i .i64 0, .i .i64 0, .i .i64 0, .i .i64 0, .i .i64 0, .i .i64 0, .i .i64 0, .i .i64 0, .i .i64 0, .i .i64 0], none⟩,
  ⟨none, .st (.t 17) (.t 70) 14, none⟩])
  (.seq (.reg [⟨(some 71), .ld (.t 17) (some 14), none⟩,
  ⟨(some 72), .call 89 [(.t 71)], none⟩,
  ⟨(some 18), .mv (.t 72), none⟩])
  (.seq (.seq (.reg [⟨(some 73), .mv (.t 16), none⟩,
  ⟨(some 74), .bin .neq (.t 73) (.k (.s (.i .i64 0))), none⟩,
  ⟨(some 75), .mv (.t 74), none⟩,
  ⟨(some 76), .mv (.t 18), (some (75, false))⟩,
  ⟨(some 77), .un .not (.t 76), (some (75, false))⟩,
  ⟨(some 78), .pick (.t 75) (.k (.s (.b true))) (.t 77), none⟩,
  ⟨(some 79), .mv (.t 78), none⟩,
  ⟨(some 80), .mv (.t 11), (some (79, false))⟩,
  ⟨(some 81), .bin .geq (.t 80) (.k (.s (.i .u64 281474976710656))), (some (79, false))⟩,
  ⟨(some 82), .pick (.t 79) (.k (.s (.b true))) (.t 81), none⟩,
  ⟨(some 83), .mv (.t 82), none⟩,
  ⟨(some 84), .mv (.t 13), (some (83, false))⟩,
  ⟨(some 85), .bin .neq (.t 84) (.k (.s (.i .u64 0))), (some (83, false))⟩,
  ⟨(some 86), .pick (.t 83) (.k (.s (.b true))) (.t 85), none⟩])
  (.cond (.t 86)
  (.seq (.reg [⟨(some 87), .build [.i .i64 0, .i .i64 0, .i .i64 0, .i .i64 0, .i .i64 0, .i .i64 0, .i .i64 0, .i .i64 0, .i .i64 0, .i .i64 0, .i .i64 0, .i .i64 0, .i .i64 0, .i .i64 0] [], none⟩,
  ⟨none, .st (.t 4) (.t 87) 14, none⟩,
  ⟨(some 5), .mv (.k (.s (.i .i64 110))), none⟩])
  (.ret))
  (.skip)))
  (.seq (.reg [⟨(some 88), .ld (.t 17) (some 14), none⟩,
  ⟨none, .st (.t 4) (.t 88) 14, none⟩,
  ⟨(some 5), .mv (.k (.s (.i .i64 0))), none⟩])
  (.ret)))))))))))), [.c 4 (some 14), .t 5]⟩
theorem dc58 : compF Try.prog Try.f58 = some df58 := by kernel_rfl
theorem ok58 : FnOk Try.prog 58 := ⟨Try.f58, Try.func58, by kernel_rfl, by kernel_rfl⟩

/-- citadel/citadelref10.bits -/
def df59 : DF :=
  ⟨26, .seq (.reg [⟨(some 6), .mv (.k (.s (.i .i64 0))), none⟩])
  (.seq (.reg [⟨(some 7), .mv (.k (.s (.i .i64 0))), none⟩])
  (.seq (.seq (.reg [⟨(some 9), .mv (.t 2), none⟩,
  ⟨(some 10), .bin .sub (.t 9) (.k (.s (.i .i64 1))), none⟩,
  ⟨(some 8), .mv (.t 10), none⟩])
  (.block 0 (.loop (.seq (.seq (.reg [⟨(some 11), .mv (.t 8), none⟩,
  ⟨(some 12), .bin .geq (.t 11) (.k (.s (.i .i64 0))), none⟩])
  (.cond (.t 12)
  (.skip)
  (.exit 0)))
  (.seq (.block 1 (.reg [⟨(some 15), .mv (.t 7), none⟩,
  ⟨(some 16), .bin .mul (.k (.s (.i .i64 2))) (.t 15), none⟩,
  ⟨(some 17), .mv (.t 0), none⟩,
  ⟨(some 18), .mv (.t 1), none⟩,
  ⟨(some 19), .mv (.t 8), none⟩,
  ⟨(some 20), .bin .add (.t 18) (.t 19), none⟩,
  ⟨(some 21), .bin .shr (.t 17) (.t 20), none⟩,
  ⟨(some 22), .bin .and (.t 21) (.k (.s (.i .u64 1))), none⟩,
  ⟨(some 23), .conv .i64 (.t 22), none⟩,
  ⟨(some 24), .bin .add (.t 16) (.t 23), none⟩,
  ⟨(some 7), .mv (.t 24), none⟩]))
  (.reg [⟨(some 13), .mv (.t 8), none⟩,
  ⟨(some 14), .bin .sub (.t 13) (.k (.s (.i .i64 1))), none⟩,
  ⟨(some 8), .mv (.t 14), none⟩]))))))
  (.seq (.reg [⟨(some 25), .mv (.t 7), none⟩,
  ⟨(some 6), .mv (.t 25), none⟩])
  (.ret)))), [.t 6]⟩
theorem dc59 : compF Try.prog Try.f59 = some df59 := by kernel_rfl
theorem ok59 : FnOk Try.prog 59 := ⟨Try.f59, Try.func59, by kernel_rfl, by kernel_rfl⟩

/-- (*citadel/mem.Memory).span -/
def df60 : DF :=
  ⟨43, .seq (.reg [⟨(some 6), .mv (.k (.s (.ns))), none⟩,
  ⟨(some 7), .mv (.k (.s (.b false))), none⟩])
  (.seq (.seq (.reg [⟨(some 8), .mv (.t 1), none⟩,
  ⟨(some 9), .bin .lss (.t 8) (.k (.s (.i .i64 0))), none⟩,
  ⟨(some 10), .mv (.t 9), none⟩,
  ⟨(some 11), .mv (.t 2), (some (10, false))⟩,
  ⟨(some 12), .bin .lss (.t 11) (.k (.s (.i .i64 0))), (some (10, false))⟩,
  ⟨(some 13), .pick (.t 10) (.k (.s (.b true))) (.t 12), none⟩,
  ⟨(some 14), .mv (.t 13), none⟩,
  ⟨(some 15), .mv (.t 1), (some (14, false))⟩,
  ⟨(some 16), .mv (.t 0), (some (14, false))⟩,
  ⟨(some 17), .nil (.t 16), (some (14, false))⟩,
  ⟨(some 18), .fa (.t 17) 0, (some (14, false))⟩,
  ⟨(some 19), .ld (.t 18) none, (some (14, false))⟩,
  ⟨(some 20), .len (.t 19), (some (14, false))⟩,
  ⟨(some 21), .bin .gtr (.t 15) (.t 20), (some (14, false))⟩,
  ⟨(some 22), .pick (.t 14) (.k (.s (.b true))) (.t 21), none⟩,
  ⟨(some 23), .mv (.t 22), none⟩,
  ⟨(some 24), .mv (.t 2), (some (23, false))⟩,
  ⟨(some 25), .mv (.t 0), (some (23, false))⟩,
  ⟨(some 26), .nil (.t 25), (some (23, false))⟩,
  ⟨(some 27), .fa (.t 26) 0, (some (23, false))⟩,
  ⟨(some 28), .ld (.t 27) none, (some (23, false))⟩,
  ⟨(some 29), .len (.t 28), (some (23, false))⟩,
  ⟨(some 30), .mv (.t 1), (some (23, false))⟩,
  ⟨(some 31), .bin .sub (.t 29) (.t 30), (some (23, false))⟩,
  ⟨(some 32), .bin .gtr (.t 24) (.t 31), (some (23, false))⟩,
  ⟨(some 33), .pick (.t 23) (.k (.s (.b true))) (.t 32), none⟩])
  (.cond (.t 33)
  (.seq (.reg [⟨(some 6), .mv (.k (.s (.ns))), none⟩,
  ⟨(some 7), .mv (.k (.s (.b false))), none⟩])
  (.ret))
  (.skip)))
  (.seq (.reg [⟨(some 34), .mv (.t 0), none⟩,
  ⟨(some 35), .nil (.t 34), none⟩,
  ⟨(some 36), .fa (.t 35) 0, none⟩,
  ⟨(some 37), .ld (.t 36) none, none⟩,
  ⟨(some 38), .mv (.t 1), none⟩,
  ⟨(some 39), .mv (.t 1), none⟩,
  ⟨(some 40), .mv (.t 2), none⟩,
  ⟨(some 41), .bin .add (.t 39) (.t 40), none⟩,
  ⟨(some 42), .slc none 1 (.t 37) (some (.t 38)) (some (.t 41)), none⟩,
  ⟨(some 6), .mv (.t 42), none⟩,
  ⟨(some 7), .mv (.k (.s (.b true))), none⟩])
  (.ret))), [.t 6, .t 7]⟩
theorem dc60 : compF Try.prog Try.f60 = some df60 := by kernel_rfl
theorem ok60 : FnOk Try.prog 60 := ⟨Try.f60, Try.func60, by kernel_rfl, by kernel_rfl⟩

/-- slices.Clone[[]uint64,uint64] -/
def df61 : DF :=
  ⟨8, .seq (.reg [⟨(some 2), .mv (.k (.s (.ns))), none⟩])
  (.seq (.seq (.reg [⟨(some 3), .mv (.t 0), none⟩,
  ⟨(some 4), .eqn true false (.t 3), none⟩])
  (.cond (.t 4)
  (.seq (.reg [⟨(some 2), .mv (.k (.s (.ns))), none⟩])
  (.ret))
  (.skip)))
  (.seq (.reg [⟨(some 5), .bsl 0 [] [], none⟩,
  ⟨(some 6), .mv (.t 0), none⟩,
  ⟨(some 7), .app 1 8 (.t 5) (.t 6), none⟩,
  ⟨(some 2), .mv (.t 7), none⟩])
  (.ret))), [.t 2]⟩
theorem dc61 : compF Try.prog Try.f61 = some df61 := by kernel_rfl
theorem ok61 : FnOk Try.prog 61 := ⟨Try.f61, Try.func61, by kernel_rfl, by kernel_rfl⟩

/-- (*citadel/citadelref02.Memory).Load -/
def df68 : DF :=
  ⟨34, .seq (.reg [⟨(some 6), .mv (.k (.s (.i .i64 0))), none⟩])
  (.seq (.reg [⟨(some 9), .mv (.t 0), none⟩,
  ⟨(some 10), .mv (.t 1), none⟩,
  ⟨(some 11), .mv (.t 2), none⟩,
  ⟨(some 12), .len (.t 11), none⟩,
  ⟨(some 13), .call 110 [(.t 9), (.t 10), (.t 12)], none⟩,
  ⟨(some 7), .mv (.t 13), none⟩])
  (.seq (.seq (.reg [⟨(some 14), .mv (.t 7), none⟩,
  ⟨(some 15), .un .not (.t 14), none⟩])
  (.cond (.t 15)
  (.seq (.reg [⟨(some 6), .mv (.k (.s (.i .i64 20))), none⟩])
  (.ret))
  (.skip)))
  (.seq (.seq (.reg [⟨(some 8), .mv (.k (.s (.i .i64 0))), none⟩])
  (.block 0 (.loop (.seq (.seq (.reg [⟨(some 16), .mv (.t 8), none⟩,
  ⟨(some 17), .mv (.t 2), none⟩,
  ⟨(some 18), .len (.t 17), none⟩,
  ⟨(some 19), .bin .lss (.t 16) (.t 18), none⟩])
  (.cond (.t 19)
  (.skip)
  (.exit 0)))
  (.seq (.block 1 (.drt 12 [⟨(some 22), .mv (.t 0), none⟩,
  ⟨(some 23), .nil (.t 22), none⟩,
  ⟨(some 24), .fa (.t 23) 0, none⟩,
  ⟨(some 25), .ld (.t 24) none, none⟩,
  ⟨(some 26), .mv (.t 1), none⟩,
  ⟨(some 27), .mv (.t 8), none⟩,
  ⟨(some 28), .bin .add (.t 26) (.t 27), none⟩,
  ⟨(some 29), .mv (.t 2), none⟩,
  ⟨(some 30), .mv (.t 8), none⟩,
  ⟨(some 31), .ia none 1 (.t 29) (.t 30), none⟩,
  ⟨(some 32), .ld (.t 31) none, none⟩,
  ⟨(some 33), .ia none 1 (.t 25) (.t 28), none⟩,
  ⟨none, .st (.t 33) (.t 32) 1, none⟩]))
  (.reg [⟨(some 20), .mv (.t 8), none⟩,
  ⟨(some 21), .bin .add (.t 20) (.k (.s (.i .i64 1))), none⟩,
  ⟨(some 8), .mv (.t 21), none⟩]))))))
  (.seq (.reg [⟨(some 6), .mv (.k (.s (.i .i64 0))), none⟩])
  (.ret))))), [.t 6]⟩
theorem dc68 : compF Try.prog Try.f68 = some df68 := by kernel_rfl
theorem ok68 : FnOk Try.prog 68 := ⟨Try.f68, Try.func68, by kernel_rfl, by kernel_rfl⟩

/-- (*citadel/mem.Memory).Read -/
def df70 : DF :=
  ⟨26, .seq (.reg [⟨(some 4), .mv (.k (.s (.i .u64 0))), none⟩,
  ⟨(some 5), .mv (.k (.s (.i .i64 0))), none⟩])
  (.seq (.reg [⟨(some 9), .mv (.t 0), none⟩,
  ⟨(some 10), .mv (.t 1), none⟩,
  ⟨(some 11), .call 60 [(.t 9), (.t 10), (.k (.s (.i .i64 1)))], none⟩,
  ⟨(some 8), .mv (.t 11), none⟩,
  ⟨(some 12), .ext (.t 8) 0, none⟩,
  ⟨(some 13), .ext (.t 8) 1, none⟩,
  ⟨(some 6), .mv (.t 12), none⟩,
  ⟨(some 7), .mv (.t 13), none⟩])
  (.seq (.seq (.reg [⟨(some 14), .mv (.t 7), none⟩,
  ⟨(some 15), .un .not (.t 14), none⟩])
  (.cond (.t 15)
  (.seq (.reg [⟨(some 4), .mv (.k (.s (.i .u64 0))), none⟩,
  ⟨(some 5), .mv (.k (.s (.i .i64 20))), none⟩])
  (.ret))
  (.skip)))
  (.seq (.reg [⟨(some 16), .mv (.t 0), none⟩,
  ⟨(some 17), .nil (.t 16), none⟩,
  ⟨(some 18), .fa (.t 17) 1, none⟩,
  ⟨(some 19), .ld (.t 18) none, none⟩,
  ⟨(some 20), .bin .add (.t 19) (.k (.s (.i .i64 1))), none⟩,
  ⟨(some 21), .nil (.t 16), none⟩,
  ⟨(some 22), .fa (.t 21) 1, none⟩,
  ⟨none, .st (.t 22) (.t 20) 1, none⟩])
  (.seq (.reg [⟨(some 23), .mv (.t 6), none⟩,
  ⟨(some 24), .ia none 1 (.t 23) (.k (.s (.i .i64 0))), none⟩,
  ⟨(some 25), .ld (.t 24) none, none⟩,
  ⟨(some 4), .mv (.t 25), none⟩,
  ⟨(some 5), .mv (.k (.s (.i .i64 0))), none⟩])
  (.ret))))), [.t 4, .t 5]⟩
theorem dc70 : compF Try.prog Try.f70 = some df70 := by kernel_rfl
theorem ok70 : FnOk Try.prog 70 := ⟨Try.f70, Try.func70, by kernel_rfl, by kernel_rfl⟩

/-- (*citadel/mem.Memory).Write -/
def df78 : DF :=
  ⟨11, .seq (.reg [⟨(some 6), .mv (.k (.s (.i .i64 0))), none⟩])
  (.seq (.reg [⟨(some 7), .mv (.t 0), none⟩,
  ⟨(some 8), .mv (.t 1), none⟩,
  ⟨(some 9), .mv (.t 2), none⟩,
  ⟨(some 10), .call 38 [(.t 7), (.t 8), (.k (.s (.i .i64 1))), (.t 9)], none⟩,
  ⟨(some 6), .mv (.t 10), none⟩])
  (.ret)), [.t 6]⟩
theorem dc78 : compF Try.prog Try.f78 = some df78 := by kernel_rfl
theorem ok78 : FnOk Try.prog 78 := ⟨Try.f78, Try.func78, by kernel_rfl, by kernel_rfl⟩

/-- citadel/citadelref07.at -/
def df88 : DF :=
  ⟨19, .seq (.reg [⟨(some 4), .mv (.k (.s (.b false))), none⟩])
  (.seq (.reg [⟨(some 6), .mv (.t 0), none⟩,
  ⟨(some 7), .mv (.t 1), none⟩,
  ⟨(some 8), .call 110 [(.t 6), (.t 7), (.k (.s (.i .i64 4)))], none⟩,
  ⟨(some 5), .mv (.t 8), none⟩])
  (.seq (.reg [⟨(some 9), .mv (.t 5), none⟩,
  ⟨(some 10), .mv (.t 9), none⟩,
  ⟨(some 11), .mv (.t 1), (some (10, true))⟩,
  ⟨(some 12), .bin .geq (.t 11) (.k (.s (.i .i64 4))), (some (10, true))⟩,
  ⟨(some 13), .pick (.t 10) (.t 12) (.k (.s (.b false))), none⟩,
  ⟨(some 14), .mv (.t 13), none⟩,
  ⟨(some 15), .mv (.t 1), (some (14, true))⟩,
  ⟨(some 16), .bin .rem (.t 15) (.k (.s (.i .i64 4))), (some (14, true))⟩,
  ⟨(some 17), .bin .eql (.t 16) (.k (.s (.i .i64 0))), (some (14, true))⟩,
  ⟨(some 18), .pick (.t 14) (.t 17) (.k (.s (.b false))), none⟩,
  ⟨(some 4), .mv (.t 18), none⟩])
  (.ret))), [.t 4]⟩
theorem dc88 : compF Try.prog Try.f88 = some df88 := by kernel_rfl
theorem ok88 : FnOk Try.prog 88 := ⟨Try.f88, Try.func88, by kernel_rfl, by kernel_rfl⟩

/-- citadel/citadelref07.Right -/
def df89 : DF :=
  ⟨44, .seq (.reg [⟨(some 1), .box (.t 0), none⟩,
  ⟨(some 2), .mv (.k (.s (.b false))), none⟩])
  (.seq (.reg [⟨(some 6), .fa (.t 1) 0, none⟩,
  ⟨(some 7), .ld (.t 6) (some 11), none⟩,
  ⟨(some 8), .call 14 [(.t 7)], none⟩,
  ⟨(some 3), .mv (.t 8), none⟩])
  (.seq (.reg [⟨(some 9), .fa (.t 1) 11, none⟩,
  ⟨(some 10), .ld (.t 9) none, none⟩,
  ⟨(some 11), .call 117 [(.t 10)], none⟩,
  ⟨(some 4), .mv (.t 11), none⟩])
  (.seq (.reg [⟨(some 12), .fa (.t 1) 12, none⟩,
  ⟨(some 13), .ld (.t 12) none, none⟩,
  ⟨(some 14), .call 117 [(.t 13)], none⟩,
  ⟨(some 5), .mv (.t 14), none⟩])
  (.seq (.seq (.reg [⟨(some 15), .mv (.t 3), none⟩,
  ⟨(some 16), .un .not (.t 15), none⟩,
  ⟨(some 17), .mv (.t 16), none⟩,
  ⟨(some 18), .mv (.t 4), (some (17, false))⟩,
  ⟨(some 19), .un .not (.t 18), (some (17, false))⟩,
  ⟨(some 20), .pick (.t 17) (.k (.s (.b true))) (.t 19), none⟩,
  ⟨(some 21), .mv (.t 20), none⟩,
  ⟨(some 22), .mv (.t 5), (some (21, false))⟩,
  ⟨(some 23), .un .not (.t 22), (some (21, false))⟩,
  ⟨(some 24), .pick (.t 21) (.k (.s (.b true))) (.t 23), none⟩,
  ⟨(some 25), .mv (.t 24), none⟩,
  ⟨(some 26), .fa (.t 1) 13, (some (25, false))⟩,
  ⟨(some 27), .ld (.t 26) none, (some (25, false))⟩,
  ⟨(some 28), .bin .lss (.t 27) (.k (.s (.i .i64 0))), (some (25, false))⟩,
  ⟨(some 29), .pick (.t 25) (.k (.s (.b true))) (.t 28), none⟩,
  ⟨(some 30), .mv (.t 29), none⟩,
  ⟨(some 31), .fa (.t 1) 13, (some (30, false))⟩,
  ⟨(some 32), .ld (.t 31) none, (some (30, false))⟩,
  ⟨(some 33), .bin .gtr (.t 32) (.k (.s (.i .i64 65535))), (some (30, false))⟩,
  ⟨(some 34), .pick (.t 30) (.k (.s (.b true))) (.t 33), none⟩])
  (.cond (.t 34)
  (.seq (.reg [⟨(some 2), .mv (.k (.s (.b false))), none⟩])
  (.ret))
  (.skip)))
  (.seq (.reg [⟨(some 35), .fa (.t 1) 0, none⟩,
  ⟨(some 36), .fa (.t 35) 0, none⟩,
  ⟨(some 37), .ld (.t 36) none, none⟩,
  ⟨(some 38), .bin .neq (.t 37) (.k (.s (.i .i64 0))), none⟩,
  ⟨(some 39), .mv (.t 38), none⟩,
  ⟨(some 40), .ld (.t 1) (some 14), (some (39, false))⟩,
  ⟨(some 41), .build [.i .i64 0, .i .i64 0, .i .i64 0, .i .i64 0, .i .i64 0, .i .i64 0, .i .i64 0, .i .i64 0, .i .i64 0, .i .i64 0, .i .i64 0, .i .i64 0, .i .i64 0, .i .i64 0] [], (some (39, false))⟩,
  ⟨(some 42), .eqa false [true, true, true, true, true, true, true, true, true, true, true, true, true, true] (.t 40) (.t 41), (some (39, false))⟩,
  ⟨(some 43), .pick (.t 39) (.k (.s (.b true))) (.t 42), none⟩,
  ⟨(some 2), .mv (.t 43), none⟩])
  (.ret)))))), [.t 2]⟩
theorem dc89 : compF Try.prog Try.f89 = some df89 := by kernel_rfl
theorem ok89 : FnOk Try.prog 89 := ⟨Try.f89, Try.func89, by kernel_rfl, by kernel_rfl⟩

/-- citadel/citadelref06.Encode -/
def df90 : DF :=
  ⟨66, .seq (.reg [⟨(some 1), .box (.t 0), none⟩,
  ⟨(some 2), .mv (.k (.s (.i .u64 0))), none⟩,
  ⟨(some 3), .mv (.k (.s (.i .u64 0))), none⟩,
  ⟨(some 4), .mv (.k (.s (.i .i64 0))), none⟩])
  (.seq (.reg [⟨(some 8), .ld (.t 1) (some 11), none⟩,
  ⟨(some 9), .call 14 [(.t 8)], none⟩,
  ⟨(some 5), .mv (.t 9), none⟩])
  (.seq (.seq (.reg [⟨(some 10), .mv (.t 5), none⟩,
  ⟨(some 11), .un .not (.t 10), none⟩])
  (.cond (.t 11)
  (.seq (.reg [⟨(some 2), .mv (.k (.s (.i .u64 0))), none⟩,
  ⟨(some 3), .mv (.k (.s (.i .u64 0))), none⟩,
  ⟨(some 4), .mv (.k (.s (.i .i64 60))), none⟩])
  (.ret))
  (.skip)))
  (.seq (.reg [⟨(some 12), .fa (.t 1) 0, none⟩,
  ⟨(some 13), .ld (.t 12) none, none⟩,
  ⟨(some 14), .conv .u64 (.t 13), none⟩,
  ⟨(some 15), .fa (.t 1) 1, none⟩,
  ⟨(some 16), .ld (.t 15) none, none⟩,
  ⟨(some 17), .conv .u64 (.t 16), none⟩,
  ⟨(some 18), .bin .shl (.t 17) (.k (.s (.i .u64 4))), none⟩,
  ⟨(some 19), .bin .add (.t 14) (.t 18), none⟩,
  ⟨(some 20), .fa (.t 1) 2, none⟩,
  ⟨(some 21), .ld (.t 20) none, none⟩,
  ⟨(some 22), .conv .u64 (.t 21), none⟩,
  ⟨(some 23), .bin .shl (.t 22) (.k (.s (.i .u64 20))), none⟩,
  ⟨(some 24), .bin .add (.t 19) (.t 23), none⟩,
  ⟨(some 25), .fa (.t 1) 7, none⟩,
  ⟨(some 26), .ld (.t 25) none, none⟩,
  ⟨(some 27), .conv .u64 (.t 26), none⟩,
  ⟨(some 28), .bin .shl (.t 27) (.k (.s (.i .u64 25))), none⟩,
  ⟨(some 29), .bin .add (.t 24) (.t 28), none⟩,
  ⟨(some 30), .fa (.t 1) 10, none⟩,
  ⟨(some 31), .ld (.t 30) none, none⟩,
  ⟨(some 32), .conv .u64 (.t 31), none⟩,
  ⟨(some 33), .bin .shl (.t 32) (.k (.s (.i .u64 28))), none⟩,
  ⟨(some 34), .bin .add (.t 29) (.t 33), none⟩,
  ⟨(some 35), .fa (.t 1) 8, none⟩,
  ⟨(some 36), .ld (.t 35) none, none⟩,
  ⟨(some 37), .conv .u64 (.t 36), none⟩,
  ⟨(some 38), .bin .shl (.t 37) (.k (.s (.i .u64 32))), none⟩,
  ⟨(some 39), .bin .add (.t 34) (.t 38), none⟩,
  ⟨(some 40), .fa (.t 1) 5, none⟩,
  ⟨(some 41), .ld (.t 40) none, none⟩,
  ⟨(some 42), .conv .u64 (.t 41), none⟩,
  ⟨(some 43), .bin .shl (.t 42) (.k (.s (.i .u64 38))), none⟩,
  ⟨(some 44), .bin .add (.t 39) (.t 43), none⟩,
  ⟨(some 6), .mv (.t 44), none⟩])
  (.seq (.reg [⟨(some 45), .fa (.t 1) 3, none⟩,
  ⟨(some 46), .ld (.t 45) none, none⟩,
  ⟨(some 7), .mv (.t 46), none⟩])
  (.seq (.seq (.reg [⟨(some 47), .fa (.t 1) 0, none⟩,
  ⟨(some 48), .ld (.t 47) none, none⟩])
  (.block 0 (.seq (.reg [⟨(some 50), .bin .eql (.t 48) (.k (.s (.i .i64 2))), none⟩,
  ⟨(some 49), .mv (.t 50), none⟩])
  (.cond (.t 49)
  (.reg [⟨(some 51), .fa (.t 1) 4, none⟩,
  ⟨(some 52), .ld (.t 51) none, none⟩,
  ⟨(some 7), .mv (.t 52), none⟩])
  (.seq (.seq (.reg [⟨(some 54), .bin .eql (.t 48) (.k (.s (.i .i64 4))), none⟩,
  ⟨(some 53), .mv (.t 54), none⟩])
  (.cond (.t 53)
  (.skip)
  (.reg [⟨(some 55), .bin .eql (.t 48) (.k (.s (.i .i64 5))), none⟩,
  ⟨(some 53), .mv (.t 55), none⟩])))
  (.cond (.t 53)
  (.reg [⟨(some 56), .fa (.t 1) 6, none⟩,
  ⟨(some 57), .ld (.t 56) none, none⟩,
  ⟨(some 7), .mv (.t 57), none⟩])
  (.seq (.seq (.reg [⟨(some 59), .bin .eql (.t 48) (.k (.s (.i .i64 6))), none⟩,
  ⟨(some 58), .mv (.t 59), none⟩])
  (.cond (.t 58)
  (.skip)
  (.reg [⟨(some 60), .bin .eql (.t 48) (.k (.s (.i .i64 8))), none⟩,
  ⟨(some 58), .mv (.t 60), none⟩])))
  (.cond (.t 58)
  (.reg [⟨(some 61), .fa (.t 1) 9, none⟩,
  ⟨(some 62), .ld (.t 61) none, none⟩,
  ⟨(some 7), .mv (.t 62), none⟩])
  (.skip)))))))))
  (.seq (.reg [⟨(some 63), .mv (.t 6), none⟩,
  ⟨(some 64), .mv (.t 7), none⟩,
  ⟨(some 65), .conv .u64 (.t 64), none⟩,
  ⟨(some 2), .mv (.t 63), none⟩,
  ⟨(some 3), .mv (.t 65), none⟩,
  ⟨(some 4), .mv (.k (.s (.i .i64 0))), none⟩])
  (.ret))))))), [.t 2, .t 3, .t 4]⟩
theorem dc90 : compF Try.prog Try.f90 = some df90 := by kernel_rfl
theorem ok90 : FnOk Try.prog 90 := ⟨Try.f90, Try.func90, by kernel_rfl, by kernel_rfl⟩

/-- (*citadel/citadelref02.Memory).Write -/
def df91 : DF :=
  ⟨28, .seq (.reg [⟨(some 6), .mv (.k (.s (.i .i64 0))), none⟩])
  (.seq (.reg [⟨(some 8), .mv (.t 0), none⟩,
  ⟨(some 9), .mv (.t 1), none⟩,
  ⟨(some 10), .call 110 [(.t 8), (.t 9), (.k (.s (.i .i64 1)))], none⟩,
  ⟨(some 7), .mv (.t 10), none⟩])
  (.seq (.seq (.reg [⟨(some 11), .mv (.t 7), none⟩,
  ⟨(some 12), .un .not (.t 11), none⟩])
  (.cond (.t 12)
  (.seq (.reg [⟨(some 6), .mv (.k (.s (.i .i64 20))), none⟩])
  (.ret))
  (.skip)))
  (.seq (.reg [⟨(some 13), .mv (.t 0), none⟩,
  ⟨(some 14), .mv (.t 0), none⟩,
  ⟨(some 15), .nil (.t 14), none⟩,
  ⟨(some 16), .fa (.t 15) 1, none⟩,
  ⟨(some 17), .ld (.t 16) none, none⟩,
  ⟨(some 18), .bin .add (.t 17) (.k (.s (.i .i64 1))), none⟩,
  ⟨(some 19), .nil (.t 13), none⟩,
  ⟨(some 20), .fa (.t 19) 1, none⟩,
  ⟨none, .st (.t 20) (.t 18) 1, none⟩])
  (.seq (.reg [⟨(some 21), .mv (.t 0), none⟩,
  ⟨(some 22), .nil (.t 21), none⟩,
  ⟨(some 23), .fa (.t 22) 0, none⟩,
  ⟨(some 24), .ld (.t 23) none, none⟩,
  ⟨(some 25), .mv (.t 1), none⟩,
  ⟨(some 26), .mv (.t 2), none⟩,
  ⟨(some 27), .ia none 1 (.t 24) (.t 25), none⟩,
  ⟨none, .st (.t 27) (.t 26) 1, none⟩])
  (.seq (.reg [⟨(some 6), .mv (.k (.s (.i .i64 0))), none⟩])
  (.ret)))))), [.t 6]⟩
theorem dc91 : compF Try.prog Try.f91 = some df91 := by kernel_rfl
theorem ok91 : FnOk Try.prog 91 := ⟨Try.f91, Try.func91, by kernel_rfl, by kernel_rfl⟩

/-- citadel/caps.sizes -/
def df92 : DF :=
  ⟨54, .seq (.reg [⟨(some 1), .box (.t 0), none⟩,
  ⟨(some 2), .mv (.k (.s (.i .i64 0))), none⟩,
  ⟨(some 3), .mv (.k (.s (.b false))), none⟩])
  (.seq (.reg [⟨(some 4), .mv (.k (.s (.fn 118 []))), none⟩])
  (.seq (.seq (.reg [⟨(some 5), .fa (.t 1) 0, none⟩,
  ⟨(some 6), .ld (.t 5) none, none⟩])
  (.block 0 (.seq (.reg [⟨(some 8), .bin .eql (.t 6) (.k (.s (.i .i64 1))), none⟩,
  ⟨(some 7), .mv (.t 8), none⟩])
  (.cond (.t 7)
  (.seq (.drq [⟨(some 9), .fa (.t 1) 2, none⟩,
  ⟨(some 10), .ld (.t 9) none, none⟩,
  ⟨(some 11), .bin .and (.t 10) (.k (.s (.i .i64 31))), none⟩,
  ⟨(some 12), .mx true (.t 11) (.k (.s (.i .i64 0))), none⟩,
  ⟨(some 13), .bin .shl (.k (.s (.i .i64 1))) (.t 12), none⟩,
  ⟨(some 14), .fa (.t 1) 2, none⟩,
  ⟨(some 15), .ld (.t 14) none, none⟩,
  ⟨(some 16), .bin .geq (.t 15) (.k (.s (.i .i64 4))), none⟩,
  ⟨(some 17), .mv (.t 16), none⟩,
  ⟨(some 18), .fa (.t 1) 2, (some (17, true))⟩,
  ⟨(some 19), .ld (.t 18) none, (some (17, true))⟩,
  ⟨(some 20), .bin .leq (.t 19) (.k (.s (.i .i64 15))), (some (17, true))⟩,
  ⟨(some 21), .pick (.t 17) (.t 20) (.k (.s (.b false))), none⟩,
  ⟨(some 2), .mv (.t 13), none⟩,
  ⟨(some 3), .mv (.t 21), none⟩])
  (.ret))
  (.seq (.reg [⟨(some 23), .bin .eql (.t 6) (.k (.s (.i .i64 2))), none⟩,
  ⟨(some 22), .mv (.t 23), none⟩])
  (.cond (.t 22)
  (.seq (.reg [⟨(some 24), .mv (.t 4), none⟩,
  ⟨(some 25), .fa (.t 1) 2, none⟩,
  ⟨(some 26), .ld (.t 25) none, none⟩,
  ⟨(some 27), .mx false (.t 26) (.k (.s (.i .i64 9))), none⟩,
  ⟨(some 28), .callv (.t 24) [(.t 27)], none⟩,
  ⟨(some 29), .ext (.t 28) 0, none⟩,
  ⟨(some 30), .ext (.t 28) 1, none⟩,
  ⟨(some 2), .mv (.t 29), none⟩,
  ⟨(some 3), .mv (.t 30), none⟩])
  (.ret))
  (.seq (.reg [⟨(some 32), .bin .eql (.t 6) (.k (.s (.i .i64 10))), none⟩,
  ⟨(some 31), .mv (.t 32), none⟩])
  (.cond (.t 31)
  (.seq (.seq (.reg [⟨(some 33), .fa (.t 1) 2, none⟩,
  ⟨(some 34), .ld (.t 33) none, none⟩,
  ⟨(some 35), .bin .eql (.t 34) (.k (.s (.i .i64 31))), none⟩])
  (.cond (.t 35)
  (.seq (.reg [⟨(some 2), .mv (.k (.s (.i .i64 64))), none⟩,
  ⟨(some 3), .mv (.k (.s (.b true))), none⟩])
  (.ret))
  (.skip)))
  (.seq (.reg [⟨(some 36), .mv (.t 4), none⟩,
  ⟨(some 37), .fa (.t 1) 2, none⟩,
  ⟨(some 38), .ld (.t 37) none, none⟩,
  ⟨(some 39), .mx false (.t 38) (.k (.s (.i .i64 9))), none⟩,
  ⟨(some 40), .callv (.t 36) [(.t 39)], none⟩,
  ⟨(some 41), .ext (.t 40) 0, none⟩,
  ⟨(some 42), .ext (.t 40) 1, none⟩,
  ⟨(some 2), .mv (.t 41), none⟩,
  ⟨(some 3), .mv (.t 42), none⟩])
  (.ret)))
  (.seq (.seq (.reg [⟨(some 44), .bin .eql (.t 6) (.k (.s (.i .i64 3))), none⟩,
  ⟨(some 43), .mv (.t 44), none⟩])
  (.cond (.t 43)
  (.skip)
  (.reg [⟨(some 45), .bin .eql (.t 6) (.k (.s (.i .i64 9))), none⟩,
  ⟨(some 43), .mv (.t 45), none⟩])))
  (.cond (.t 43)
  (.seq (.reg [⟨(some 2), .mv (.k (.s (.i .i64 64))), none⟩,
  ⟨(some 3), .mv (.k (.s (.b true))), none⟩])
  (.ret))
  (.seq (.reg [⟨(some 47), .bin .eql (.t 6) (.k (.s (.i .i64 4))), none⟩,
  ⟨(some 46), .mv (.t 47), none⟩])
  (.cond (.t 46)
  (.seq (.reg [⟨(some 2), .mv (.k (.s (.i .i64 4))), none⟩,
  ⟨(some 3), .mv (.k (.s (.b true))), none⟩])
  (.ret))
  (.seq (.seq (.reg [⟨(some 49), .bin .eql (.t 6) (.k (.s (.i .i64 5))), none⟩,
  ⟨(some 48), .mv (.t 49), none⟩])
  (.cond (.t 48)
  (.skip)
  (.seq (.reg [⟨(some 50), .bin .eql (.t 6) (.k (.s (.i .i64 6))), none⟩,
  ⟨(some 48), .mv (.t 50), none⟩])
  (.cond (.t 48)
  (.skip)
  (.reg [⟨(some 51), .bin .eql (.t 6) (.k (.s (.i .i64 7))), none⟩,
  ⟨(some 48), .mv (.t 51), none⟩])))))
  (.cond (.t 48)
  (.seq (.reg [⟨(some 2), .mv (.k (.s (.i .i64 8))), none⟩,
  ⟨(some 3), .mv (.k (.s (.b true))), none⟩])
  (.ret))
  (.seq (.reg [⟨(some 53), .bin .eql (.t 6) (.k (.s (.i .i64 8))), none⟩,
  ⟨(some 52), .mv (.t 53), none⟩])
  (.cond (.t 52)
  (.seq (.reg [⟨(some 2), .mv (.k (.s (.i .i64 16))), none⟩,
  ⟨(some 3), .mv (.k (.s (.b true))), none⟩])
  (.ret))
  (.skip)))))))))))))))))
  (.seq (.reg [⟨(some 2), .mv (.k (.s (.i .i64 0))), none⟩,
  ⟨(some 3), .mv (.k (.s (.b true))), none⟩])
  (.ret)))), [.t 2, .t 3]⟩
theorem dc92 : compF Try.prog Try.f92 = some df92 := by kernel_rfl
theorem ok92 : FnOk Try.prog 92 := ⟨Try.f92, Try.func92, by kernel_rfl, by kernel_rfl⟩

/-- citadel/caps.bare -/
def df93 : DF :=
  ⟨46, .seq (.reg [⟨(some 1), .box (.t 0), none⟩,
  ⟨(some 2), .new [.i .i64 0, .i .i64 0, .i .i64 0, .i .i64 0, .i .i64 0, .i .i64 0, .i .i64 0, .i .i64 0, .i .i64 0, .i .i64 0, .i .i64 0], none⟩])
  (.seq (.seq (.reg [⟨(some 3), .fa (.t 1) 0, none⟩,
  ⟨(some 4), .ld (.t 3) none, none⟩])
  (.block 0 (.seq (.seq (.reg [⟨(some 6), .bin .eql (.t 4) (.k (.s (.i .i64 1))), none⟩,
  ⟨(some 5), .mv (.t 6), none⟩])
  (.cond (.t 5)
  (.skip)
  (.reg [⟨(some 7), .bin .eql (.t 4) (.k (.s (.i .i64 10))), none⟩,
  ⟨(some 5), .mv (.t 7), none⟩])))
  (.cond (.t 5)
  (.reg [⟨(some 8), .fa (.t 1) 1, none⟩,
  ⟨none, .st (.t 8) (.k (.s (.i .i64 0))) 1, none⟩,
  ⟨(some 9), .fa (.t 1) 2, none⟩,
  ⟨none, .st (.t 9) (.k (.s (.i .i64 0))) 1, none⟩,
  ⟨(some 10), .fa (.t 1) 3, none⟩,
  ⟨none, .st (.t 10) (.k (.s (.i .i64 0))) 1, none⟩])
  (.seq (.reg [⟨(some 12), .bin .eql (.t 4) (.k (.s (.i .i64 2))), none⟩,
  ⟨(some 11), .mv (.t 12), none⟩])
  (.cond (.t 11)
  (.reg [⟨(some 13), .fa (.t 1) 1, none⟩,
  ⟨none, .st (.t 13) (.k (.s (.i .i64 0))) 1, none⟩,
  ⟨(some 14), .fa (.t 1) 2, none⟩,
  ⟨none, .st (.t 14) (.k (.s (.i .i64 0))) 1, none⟩,
  ⟨(some 15), .fa (.t 1) 4, none⟩,
  ⟨none, .st (.t 15) (.k (.s (.i .i64 0))) 1, none⟩,
  ⟨(some 16), .fa (.t 1) 5, none⟩,
  ⟨none, .st (.t 16) (.k (.s (.i .i64 0))) 1, none⟩])
  (.seq (.seq (.reg [⟨(some 18), .bin .eql (.t 4) (.k (.s (.i .i64 3))), none⟩,
  ⟨(some 17), .mv (.t 18), none⟩])
  (.cond (.t 17)
  (.skip)
  (.reg [⟨(some 19), .bin .eql (.t 4) (.k (.s (.i .i64 9))), none⟩,
  ⟨(some 17), .mv (.t 19), none⟩])))
  (.cond (.t 17)
  (.reg [⟨(some 20), .fa (.t 1) 1, none⟩,
  ⟨none, .st (.t 20) (.k (.s (.i .i64 0))) 1, none⟩])
  (.seq (.seq (.reg [⟨(some 22), .bin .eql (.t 4) (.k (.s (.i .i64 4))), none⟩,
  ⟨(some 21), .mv (.t 22), none⟩])
  (.cond (.t 21)
  (.skip)
  (.reg [⟨(some 23), .bin .eql (.t 4) (.k (.s (.i .i64 5))), none⟩,
  ⟨(some 21), .mv (.t 23), none⟩])))
  (.cond (.t 21)
  (.reg [⟨(some 24), .fa (.t 1) 1, none⟩,
  ⟨none, .st (.t 24) (.k (.s (.i .i64 0))) 1, none⟩,
  ⟨(some 25), .fa (.t 1) 7, none⟩,
  ⟨none, .st (.t 25) (.k (.s (.i .i64 0))) 1, none⟩,
  ⟨(some 26), .fa (.t 1) 6, none⟩,
  ⟨none, .st (.t 26) (.k (.s (.i .i64 0))) 1, none⟩])
  (.seq (.reg [⟨(some 28), .bin .eql (.t 4) (.k (.s (.i .i64 6))), none⟩,
  ⟨(some 27), .mv (.t 28), none⟩])
  (.cond (.t 27)
  (.reg [⟨(some 29), .fa (.t 1) 1, none⟩,
  ⟨none, .st (.t 29) (.k (.s (.i .i64 0))) 1, none⟩,
  ⟨(some 30), .fa (.t 1) 8, none⟩,
  ⟨none, .st (.t 30) (.k (.s (.i .i64 0))) 1, none⟩,
  ⟨(some 31), .fa (.t 1) 9, none⟩,
  ⟨none, .st (.t 31) (.k (.s (.i .i64 0))) 1, none⟩])
  (.seq (.reg [⟨(some 33), .bin .eql (.t 4) (.k (.s (.i .i64 7))), none⟩,
  ⟨(some 32), .mv (.t 33), none⟩])
  (.cond (.t 32)
  (.reg [⟨(some 34), .fa (.t 1) 1, none⟩,
  ⟨none, .st (.t 34) (.k (.s (.i .i64 0))) 1, none⟩,
  ⟨(some 35), .fa (.t 1) 8, none⟩,
  ⟨none, .st (.t 35) (.k (.s (.i .i64 0))) 1, none⟩])
  (.seq (.reg [⟨(some 37), .bin .eql (.t 4) (.k (.s (.i .i64 8))), none⟩,
  ⟨(some 36), .mv (.t 37), none⟩])
  (.cond (.t 36)
  (.reg [⟨(some 38), .fa (.t 1) 1, none⟩,
  ⟨none, .st (.t 38) (.k (.s (.i .i64 0))) 1, none⟩,
  ⟨(some 39), .fa (.t 1) 7, none⟩,
  ⟨none, .st (.t 39) (.k (.s (.i .i64 0))) 1, none⟩,
  ⟨(some 40), .fa (.t 1) 8, none⟩,
  ⟨none, .st (.t 40) (.k (.s (.i .i64 0))) 1, none⟩,
  ⟨(some 41), .fa (.t 1) 9, none⟩,
  ⟨none, .st (.t 41) (.k (.s (.i .i64 0))) 1, none⟩])
  (.seq (.reg [⟨(some 43), .bin .eql (.t 4) (.k (.s (.i .i64 12))), none⟩,
  ⟨(some 42), .mv (.t 43), none⟩])
  (.cond (.t 42)
  (.reg [⟨(some 44), .fa (.t 1) 10, none⟩,
  ⟨none, .st (.t 44) (.k (.s (.i .i64 0))) 1, none⟩])
  (.skip)))))))))))))))))))
  (.seq (.reg [⟨(some 45), .ld (.t 1) (some 11), none⟩,
  ⟨none, .st (.t 2) (.t 45) 11, none⟩])
  (.ret))), [.c 2 (some 11)]⟩
theorem dc93 : compF Try.prog Try.f93 = some df93 := by kernel_rfl
theorem ok93 : FnOk Try.prog 93 := ⟨Try.f93, Try.func93, by kernel_rfl, by kernel_rfl⟩

/-- citadel/caps.in -/
def df94 : DF :=
  ⟨12, .seq (.reg [⟨(some 4), .mv (.k (.s (.b false))), none⟩])
  (.seq (.reg [⟨(some 5), .mv (.t 0), none⟩,
  ⟨(some 6), .bin .geq (.t 5) (.k (.s (.i .i64 0))), none⟩,
  ⟨(some 7), .mv (.t 6), none⟩,
  ⟨(some 8), .mv (.t 0), (some (7, true))⟩,
  ⟨(some 9), .mv (.t 1), (some (7, true))⟩,
  ⟨(some 10), .bin .leq (.t 8) (.t 9), (some (7, true))⟩,
  ⟨(some 11), .pick (.t 7) (.t 10) (.k (.s (.b false))), none⟩,
  ⟨(some 4), .mv (.t 11), none⟩])
  (.ret)), [.t 4]⟩
theorem dc94 : compF Try.prog Try.f94 = some df94 := by kernel_rfl
theorem ok94 : FnOk Try.prog 94 := ⟨Try.f94, Try.func94, by kernel_rfl, by kernel_rfl⟩

/-- citadel/caps.mapped -/
def df95 : DF :=
  ⟨27, .seq (.reg [⟨(some 6), .mv (.k (.s (.b false))), none⟩])
  (.seq (.reg [⟨(some 7), .mv (.t 0), none⟩,
  ⟨(some 8), .call 94 [(.t 7), (.k (.s (.i .i64 63)))], none⟩,
  ⟨(some 9), .mv (.t 8), none⟩,
  ⟨(some 10), .mv (.t 1), (some (9, true))⟩,
  ⟨(some 11), .call 94 [(.t 10), (.k (.s (.i .i64 65535)))], (some (9, true))⟩,
  ⟨(some 12), .pick (.t 9) (.t 11) (.k (.s (.b false))), none⟩,
  ⟨(some 13), .mv (.t 12), none⟩,
  ⟨(some 14), .mv (.t 1), (some (13, true))⟩,
  ⟨(some 15), .mv (.t 2), (some (13, true))⟩,
  ⟨(some 16), .bin .rem (.t 14) (.t 15), (some (13, true))⟩,
  ⟨(some 17), .bin .eql (.t 16) (.k (.s (.i .i64 0))), (some (13, true))⟩,
  ⟨(some 18), .pick (.t 13) (.t 17) (.k (.s (.b false))), none⟩,
  ⟨(some 19), .mv (.t 18), none⟩,
  ⟨(some 20), .mv (.t 0), (some (19, true))⟩,
  ⟨(some 21), .bin .gtr (.t 20) (.k (.s (.i .i64 0))), (some (19, true))⟩,
  ⟨(some 22), .mv (.t 21), (some (19, true))⟩,
  ⟨(some 23), .mv (.t 1), (some (22, false))⟩,
  ⟨(some 24), .bin .eql (.t 23) (.k (.s (.i .i64 0))), (some (22, false))⟩,
  ⟨(some 25), .pick (.t 22) (.k (.s (.b true))) (.t 24), (some (19, true))⟩,
  ⟨(some 26), .pick (.t 19) (.t 25) (.k (.s (.b false))), none⟩,
  ⟨(some 6), .mv (.t 26), none⟩])
  (.ret)), [.t 6]⟩
theorem dc95 : compF Try.prog Try.f95 = some df95 := by kernel_rfl
theorem ok95 : FnOk Try.prog 95 := ⟨Try.f95, Try.func95, by kernel_rfl, by kernel_rfl⟩

/-- citadel/slots.there -/
def df96 : DF :=
  ⟨19, .seq (.reg [⟨(some 4), .mv (.k (.s (.b false))), none⟩])
  (.seq (.reg [⟨(some 5), .mv (.t 1), none⟩,
  ⟨(some 6), .bin .geq (.t 5) (.k (.s (.i .i64 4))), none⟩,
  ⟨(some 7), .mv (.t 6), none⟩,
  ⟨(some 8), .mv (.t 1), (some (7, true))⟩,
  ⟨(some 9), .bin .rem (.t 8) (.k (.s (.i .i64 4))), (some (7, true))⟩,
  ⟨(some 10), .bin .eql (.t 9) (.k (.s (.i .i64 0))), (some (7, true))⟩,
  ⟨(some 11), .pick (.t 7) (.t 10) (.k (.s (.b false))), none⟩,
  ⟨(some 12), .mv (.t 11), none⟩,
  ⟨(some 13), .mv (.t 1), (some (12, true))⟩,
  ⟨(some 14), .mv (.t 0), (some (12, true))⟩,
  ⟨(some 15), .call 111 [(.t 14)], (some (12, true))⟩,
  ⟨(some 16), .bin .sub (.t 15) (.k (.s (.i .i64 4))), (some (12, true))⟩,
  ⟨(some 17), .bin .leq (.t 13) (.t 16), (some (12, true))⟩,
  ⟨(some 18), .pick (.t 12) (.t 17) (.k (.s (.b false))), none⟩,
  ⟨(some 4), .mv (.t 18), none⟩])
  (.ret)), [.t 4]⟩
theorem dc96 : compF Try.prog Try.f96 = some df96 := by kernel_rfl
theorem ok96 : FnOk Try.prog 96 := ⟨Try.f96, Try.func96, by kernel_rfl, by kernel_rfl⟩

/-- citadel/caps.Decode -/
def df97 : DF :=
  ⟨77, .seq (.reg [⟨(some 4), .new [.i .i64 0, .i .i64 0, .i .i64 0, .i .i64 0, .i .i64 0, .i .i64 0, .i .i64 0, .i .i64 0, .i .i64 0, .i .i64 0, .i .i64 0], none⟩,
  ⟨(some 5), .mv (.k (.s (.i .i64 0))), none⟩])
  (.seq (.reg [⟨(some 11), .mv (.t 0), none⟩,
  ⟨(some 12), .bsl 7 [.i .i64 0, .i .i64 0, .i .i64 0, .i .i64 0, .i .i64 0, .i .i64 0, .i .i64 0] [(0, 1, (.k (.s (.i .i64 4)))), (1, 1, (.k (.s (.i .i64 16)))), (2, 1, (.k (.s (.i .i64 5)))), (3, 1, (.k (.s (.i .i64 3)))), (4, 1, (.k (.s (.i .i64 4)))), (5, 1, (.k (.s (.i .i64 6)))), (6, 1, (.k (.s (.i .i64 5))))], none⟩,
  ⟨(some 13), .call 98 [(.t 11), (.t 12)], none⟩,
  ⟨(some 10), .mv (.t 13), none⟩,
  ⟨(some 14), .ext (.t 10) 0, none⟩,
  ⟨(some 15), .ext (.t 10) 1, none⟩,
  ⟨(some 6), .mv (.t 14), none⟩,
  ⟨(some 7), .mv (.t 15), none⟩])
  (.seq (.seq (.reg [⟨(some 16), .mv (.t 7), none⟩,
  ⟨(some 17), .bin .neq (.t 16) (.k (.s (.i .i64 0))), none⟩,
  ⟨(some 18), .mv (.t 17), none⟩,
  ⟨(some 19), .mv (.t 1), (some (18, false))⟩,
  ⟨(some 20), .bin .geq (.t 19) (.k (.s (.i .u64 4294967296))), (some (18, false))⟩,
  ⟨(some 21), .pick (.t 18) (.k (.s (.b true))) (.t 20), none⟩])
  (.cond (.t 21)
  (.seq (.reg [⟨(some 22), .build [.i .i64 0, .i .i64 0, .i .i64 0, .i .i64 0, .i .i64 0, .i .i64 0, .i .i64 0, .i .i64 0, .i .i64 0, .i .i64 0, .i .i64 0] [], none⟩,
  ⟨none, .st (.t 4) (.t 22) 11, none⟩,
  ⟨(some 5), .mv (.k (.s (.i .i64 60))), none⟩])
  (.ret))
  (.skip)))
  (.seq (.drm [(true, ⟨(some 23), .mv (.t 6), none⟩),
  (true, ⟨(some 24), .ia none 1 (.t 23) (.k (.s (.i .i64 0))), none⟩),
  (true, ⟨(some 25), .ld (.t 24) none, none⟩),
  (true, ⟨(some 26), .conv .i64 (.t 25), none⟩),
  (true, ⟨(some 27), .mv (.t 6), none⟩),
  (true, ⟨(some 28), .ia none 1 (.t 27) (.k (.s (.i .i64 1))), none⟩),
  (true, ⟨(some 29), .ld (.t 28) none, none⟩),
  (true, ⟨(some 30), .conv .i64 (.t 29), none⟩),
  (true, ⟨(some 31), .mv (.t 6), none⟩),
  (true, ⟨(some 32), .ia none 1 (.t 31) (.k (.s (.i .i64 2))), none⟩),
  (true, ⟨(some 33), .ld (.t 32) none, none⟩),
  (true, ⟨(some 34), .conv .i64 (.t 33), none⟩),
  (true, ⟨(some 35), .mv (.t 6), none⟩),
  (true, ⟨(some 36), .ia none 1 (.t 35) (.k (.s (.i .i64 3))), none⟩),
  (true, ⟨(some 37), .ld (.t 36) none, none⟩),
  (true, ⟨(some 38), .conv .i64 (.t 37), none⟩),
  (true, ⟨(some 39), .mv (.t 6), none⟩),
  (true, ⟨(some 40), .ia none 1 (.t 39) (.k (.s (.i .i64 4))), none⟩),
  (true, ⟨(some 41), .ld (.t 40) none, none⟩),
  (true, ⟨(some 42), .conv .i64 (.t 41), none⟩),
  (true, ⟨(some 43), .mv (.t 6), none⟩),
  (true, ⟨(some 44), .ia none 1 (.t 43) (.k (.s (.i .i64 5))), none⟩),
  (true, ⟨(some 45), .ld (.t 44) none, none⟩),
  (true, ⟨(some 46), .conv .i64 (.t 45), none⟩),
  (true, ⟨(some 47), .mv (.t 6), none⟩),
  (true, ⟨(some 48), .ia none 1 (.t 47) (.k (.s (.i .i64 6))), none⟩),
  (true, ⟨(some 49), .ld (.t 48) none, none⟩),
  (true, ⟨(some 50), .conv .i64 (.t 49), none⟩),
  (true, ⟨(some 51), .build [.i .i64 0, .i .i64 0, .i .i64 0, .i .i64 0, .i .i64 0, .i .i64 0, .i .i64 0, .i .i64 0, .i .i64 0, .i .i64 0, .i .i64 0] [(0, 1, (.t 26)), (1, 1, (.t 30)), (2, 1, (.t 34)), (7, 1, (.t 38)), (10, 1, (.t 42)), (8, 1, (.t 46)), (5, 1, (.t 50))], none⟩),
  (false, ⟨(some 8), .new [.i .i64 0, .i .i64 0, .i .i64 0, .i .i64 0, .i .i64 0, .i .i64 0, .i .i64 0, .i .i64 0, .i .i64 0, .i .i64 0, .i .i64 0], none⟩),
  (false, ⟨none, .st (.t 8) (.t 51) 11, none⟩)])
  (.seq (.reg [⟨(some 52), .mv (.t 1), none⟩,
  ⟨(some 53), .conv .i64 (.t 52), none⟩,
  ⟨(some 9), .mv (.t 53), none⟩])
  (.seq (.seq (.reg [⟨(some 54), .fa (.t 8) 0, none⟩,
  ⟨(some 55), .ld (.t 54) none, none⟩])
  (.block 0 (.seq (.reg [⟨(some 59), .bin .eql (.t 55) (.k (.s (.i .i64 2))), none⟩,
  ⟨(some 58), .mv (.t 59), none⟩])
  (.cond (.t 58)
  (.reg [⟨(some 60), .mv (.t 9), none⟩,
  ⟨(some 61), .fa (.t 8) 4, none⟩,
  ⟨none, .st (.t 61) (.t 60) 1, none⟩])
  (.seq (.seq (.reg [⟨(some 63), .bin .eql (.t 55) (.k (.s (.i .i64 4))), none⟩,
  ⟨(some 62), .mv (.t 63), none⟩])
  (.cond (.t 62)
  (.skip)
  (.reg [⟨(some 64), .bin .eql (.t 55) (.k (.s (.i .i64 5))), none⟩,
  ⟨(some 62), .mv (.t 64), none⟩])))
  (.cond (.t 62)
  (.reg [⟨(some 65), .mv (.t 9), none⟩,
  ⟨(some 66), .fa (.t 8) 6, none⟩,
  ⟨none, .st (.t 66) (.t 65) 1, none⟩])
  (.seq (.seq (.reg [⟨(some 68), .bin .eql (.t 55) (.k (.s (.i .i64 6))), none⟩,
  ⟨(some 67), .mv (.t 68), none⟩])
  (.cond (.t 67)
  (.skip)
  (.reg [⟨(some 69), .bin .eql (.t 55) (.k (.s (.i .i64 8))), none⟩,
  ⟨(some 67), .mv (.t 69), none⟩])))
  (.cond (.t 67)
  (.reg [⟨(some 70), .mv (.t 9), none⟩,
  ⟨(some 71), .fa (.t 8) 9, none⟩,
  ⟨none, .st (.t 71) (.t 70) 1, none⟩])
  (.reg [⟨(some 56), .mv (.t 9), none⟩,
  ⟨(some 57), .fa (.t 8) 3, none⟩,
  ⟨none, .st (.t 57) (.t 56) 1, none⟩])))))))))
  (.seq (.seq (.reg [⟨(some 72), .ld (.t 8) (some 11), none⟩,
  ⟨(some 73), .call 55 [(.t 72)], none⟩,
  ⟨(some 74), .un .not (.t 73), none⟩])
  (.cond (.t 74)
  (.seq (.reg [⟨(some 75), .build [.i .i64 0, .i .i64 0, .i .i64 0, .i .i64 0, .i .i64 0, .i .i64 0, .i .i64 0, .i .i64 0, .i .i64 0, .i .i64 0, .i .i64 0] [], none⟩,
  ⟨none, .st (.t 4) (.t 75) 11, none⟩,
  ⟨(some 5), .mv (.k (.s (.i .i64 60))), none⟩])
  (.ret))
  (.skip)))
  (.seq (.reg [⟨(some 76), .ld (.t 8) (some 11), none⟩,
  ⟨none, .st (.t 4) (.t 76) 11, none⟩,
  ⟨(some 5), .mv (.k (.s (.i .i64 0))), none⟩])
  (.ret)))))))), [.c 4 (some 11), .t 5]⟩
theorem dc97 : compF Try.prog Try.f97 = some df97 := by kernel_rfl
theorem ok97 : FnOk Try.prog 97 := ⟨Try.f97, Try.func97, by kernel_rfl, by kernel_rfl⟩

/-- citadel/word.Unpack -/
def df98 : DF :=
  ⟨41, .seq (.reg [⟨(some 4), .mv (.k (.s (.ns))), none⟩,
  ⟨(some 5), .mv (.k (.s (.i .i64 0))), none⟩])
  (.seq (.reg [⟨(some 6), .mv (.k (.s (.ns))), none⟩])
  (.seq (.reg [⟨(some 7), .mv (.k (.s (.i .i64 0))), none⟩])
  (.seq (.seq (.reg [⟨(some 12), .mv (.t 1), none⟩,
  ⟨(some 13), .len (.t 12), none⟩,
  ⟨(some 14), .mv (.k (.s (.i .i64 0))), none⟩])
  (.block 0 (.loop (.seq (.reg [⟨(some 15), .bin .lss (.t 14) (.t 13), none⟩])
  (.seq (.cond (.t 15)
  (.skip)
  (.exit 0))
  (.seq (.block 1 (.seq (.reg [⟨(some 16), .ia none 1 (.t 12) (.t 14), none⟩,
  ⟨(some 17), .ld (.t 16) none, none⟩,
  ⟨(some 9), .mv (.t 17), none⟩])
  (.seq (.reg [⟨(some 19), .mv (.t 0), none⟩,
  ⟨(some 20), .mv (.t 7), none⟩,
  ⟨(some 21), .mv (.t 9), none⟩,
  ⟨(some 22), .call 119 [(.t 19), (.t 20), (.t 21)], none⟩,
  ⟨(some 18), .mv (.t 22), none⟩,
  ⟨(some 23), .ext (.t 18) 0, none⟩,
  ⟨(some 24), .ext (.t 18) 1, none⟩,
  ⟨(some 10), .mv (.t 23), none⟩,
  ⟨(some 11), .mv (.t 24), none⟩])
  (.seq (.seq (.reg [⟨(some 25), .mv (.t 11), none⟩,
  ⟨(some 26), .bin .neq (.t 25) (.k (.s (.i .i64 0))), none⟩])
  (.cond (.t 26)
  (.seq (.reg [⟨(some 27), .mv (.t 11), none⟩,
  ⟨(some 4), .mv (.k (.s (.ns))), none⟩,
  ⟨(some 5), .mv (.t 27), none⟩])
  (.ret))
  (.skip)))
  (.seq (.reg [⟨(some 28), .mv (.t 6), none⟩,
  ⟨(some 29), .mv (.t 10), none⟩,
  ⟨(some 30), .bsl 1 [.i .u64 0] [(0, 1, (.t 29))], none⟩,
  ⟨(some 31), .app 1 8 (.t 28) (.t 30), none⟩,
  ⟨(some 6), .mv (.t 31), none⟩])
  (.reg [⟨(some 32), .mv (.t 7), none⟩,
  ⟨(some 33), .mv (.t 9), none⟩,
  ⟨(some 34), .bin .add (.t 32) (.t 33), none⟩,
  ⟨(some 7), .mv (.t 34), none⟩]))))))
  (.reg [⟨(some 35), .bin .add (.t 14) (.k (.s (.i .i64 1))), none⟩,
  ⟨(some 14), .mv (.t 35), none⟩])))))))
  (.seq (.seq (.reg [⟨(some 36), .mv (.t 0), none⟩,
  ⟨(some 37), .mv (.t 7), none⟩,
  ⟨(some 38), .bin .shr (.t 36) (.t 37), none⟩,
  ⟨(some 39), .bin .neq (.t 38) (.k (.s (.i .u64 0))), none⟩])
  (.cond (.t 39)
  (.seq (.reg [⟨(some 4), .mv (.k (.s (.ns))), none⟩,
  ⟨(some 5), .mv (.k (.s (.i .i64 10))), none⟩])
  (.ret))
  (.skip)))
  (.seq (.reg [⟨(some 40), .mv (.t 6), none⟩,
  ⟨(some 4), .mv (.t 40), none⟩,
  ⟨(some 5), .mv (.k (.s (.i .i64 0))), none⟩])
  (.ret)))))), [.t 4, .t 5]⟩
theorem dc98 : compF Try.prog Try.f98 = some df98 := by kernel_rfl
theorem ok98 : FnOk Try.prog 98 := ⟨Try.f98, Try.func98, by kernel_rfl, by kernel_rfl⟩

/-- citadel/slots.Right -/
def df99 : DF :=
  ⟨35, .seq (.reg [⟨(some 1), .box (.t 0), none⟩,
  ⟨(some 2), .mv (.k (.s (.b false))), none⟩])
  (.seq (.seq (.reg [⟨(some 3), .fa (.t 1) 0, none⟩,
  ⟨(some 4), .fa (.t 3) 0, none⟩,
  ⟨(some 5), .ld (.t 4) none, none⟩,
  ⟨(some 6), .bin .eql (.t 5) (.k (.s (.i .i64 0))), none⟩,
  ⟨(some 7), .mv (.t 6), none⟩,
  ⟨(some 8), .ld (.t 1) (some 14), (some (7, true))⟩,
  ⟨(some 9), .build [.i .i64 0, .i .i64 0, .i .i64 0, .i .i64 0, .i .i64 0, .i .i64 0, .i .i64 0, .i .i64 0, .i .i64 0, .i .i64 0, .i .i64 0, .i .i64 0, .i .i64 0, .i .i64 0] [], (some (7, true))⟩,
  ⟨(some 10), .eqa true [true, true, true, true, true, true, true, true, true, true, true, true, true, true] (.t 8) (.t 9), (some (7, true))⟩,
  ⟨(some 11), .pick (.t 7) (.t 10) (.k (.s (.b false))), none⟩])
  (.cond (.t 11)
  (.seq (.reg [⟨(some 2), .mv (.k (.s (.b false))), none⟩])
  (.ret))
  (.skip)))
  (.seq (.reg [⟨(some 12), .fa (.t 1) 0, none⟩,
  ⟨(some 13), .ld (.t 12) (some 11), none⟩,
  ⟨(some 14), .call 55 [(.t 13)], none⟩,
  ⟨(some 15), .mv (.t 14), none⟩,
  ⟨(some 16), .fa (.t 1) 11, (some (15, true))⟩,
  ⟨(some 17), .ld (.t 16) none, (some (15, true))⟩,
  ⟨(some 18), .call 120 [(.t 17)], (some (15, true))⟩,
  ⟨(some 19), .pick (.t 15) (.t 18) (.k (.s (.b false))), none⟩,
  ⟨(some 20), .mv (.t 19), none⟩,
  ⟨(some 21), .fa (.t 1) 12, (some (20, true))⟩,
  ⟨(some 22), .ld (.t 21) none, (some (20, true))⟩,
  ⟨(some 23), .call 120 [(.t 22)], (some (20, true))⟩,
  ⟨(some 24), .pick (.t 20) (.t 23) (.k (.s (.b false))), none⟩,
  ⟨(some 25), .mv (.t 24), none⟩,
  ⟨(some 26), .fa (.t 1) 13, (some (25, true))⟩,
  ⟨(some 27), .ld (.t 26) none, (some (25, true))⟩,
  ⟨(some 28), .bin .geq (.t 27) (.k (.s (.i .i64 0))), (some (25, true))⟩,
  ⟨(some 29), .pick (.t 25) (.t 28) (.k (.s (.b false))), none⟩,
  ⟨(some 30), .mv (.t 29), none⟩,
  ⟨(some 31), .fa (.t 1) 13, (some (30, true))⟩,
  ⟨(some 32), .ld (.t 31) none, (some (30, true))⟩,
  ⟨(some 33), .bin .lss (.t 32) (.k (.s (.i .i64 65536))), (some (30, true))⟩,
  ⟨(some 34), .pick (.t 30) (.t 33) (.k (.s (.b false))), none⟩,
  ⟨(some 2), .mv (.t 34), none⟩])
  (.ret))), [.t 2]⟩
theorem dc99 : compF Try.prog Try.f99 = some df99 := by kernel_rfl
theorem ok99 : FnOk Try.prog 99 := ⟨Try.f99, Try.func99, by kernel_rfl, by kernel_rfl⟩

/-- (*citadel/citadelref02.Memory).Read -/
def df100 : DF :=
  ⟨27, .seq (.reg [⟨(some 4), .mv (.k (.s (.i .u64 0))), none⟩,
  ⟨(some 5), .mv (.k (.s (.i .i64 0))), none⟩])
  (.seq (.reg [⟨(some 7), .mv (.t 0), none⟩,
  ⟨(some 8), .mv (.t 1), none⟩,
  ⟨(some 9), .call 110 [(.t 7), (.t 8), (.k (.s (.i .i64 1)))], none⟩,
  ⟨(some 6), .mv (.t 9), none⟩])
  (.seq (.seq (.reg [⟨(some 10), .mv (.t 6), none⟩,
  ⟨(some 11), .un .not (.t 10), none⟩])
  (.cond (.t 11)
  (.seq (.reg [⟨(some 4), .mv (.k (.s (.i .u64 0))), none⟩,
  ⟨(some 5), .mv (.k (.s (.i .i64 20))), none⟩])
  (.ret))
  (.skip)))
  (.seq (.reg [⟨(some 12), .mv (.t 0), none⟩,
  ⟨(some 13), .mv (.t 0), none⟩,
  ⟨(some 14), .nil (.t 13), none⟩,
  ⟨(some 15), .fa (.t 14) 1, none⟩,
  ⟨(some 16), .ld (.t 15) none, none⟩,
  ⟨(some 17), .bin .add (.t 16) (.k (.s (.i .i64 1))), none⟩,
  ⟨(some 18), .nil (.t 12), none⟩,
  ⟨(some 19), .fa (.t 18) 1, none⟩,
  ⟨none, .st (.t 19) (.t 17) 1, none⟩])
  (.seq (.reg [⟨(some 20), .mv (.t 0), none⟩,
  ⟨(some 21), .nil (.t 20), none⟩,
  ⟨(some 22), .fa (.t 21) 0, none⟩,
  ⟨(some 23), .ld (.t 22) none, none⟩,
  ⟨(some 24), .mv (.t 1), none⟩,
  ⟨(some 25), .ia none 1 (.t 23) (.t 24), none⟩,
  ⟨(some 26), .ld (.t 25) none, none⟩,
  ⟨(some 4), .mv (.t 26), none⟩,
  ⟨(some 5), .mv (.k (.s (.i .i64 0))), none⟩])
  (.ret))))), [.t 4, .t 5]⟩
theorem dc100 : compF Try.prog Try.f100 = some df100 := by kernel_rfl
theorem ok100 : FnOk Try.prog 100 := ⟨Try.f100, Try.func100, by kernel_rfl, by kernel_rfl⟩

/-- citadel/citadelref06.Decode -/
def df101 : DF :=
  ⟨86, .seq (.reg [⟨(some 4), .new [.i .i64 0, .i .i64 0, .i .i64 0, .i .i64 0, .i .i64 0, .i .i64 0, .i .i64 0, .i .i64 0, .i .i64 0, .i .i64 0, .i .i64 0], none⟩,
  ⟨(some 5), .mv (.k (.s (.i .i64 0))), none⟩])
  (.seq (.seq (.reg [⟨(some 10), .mv (.t 1), none⟩,
  ⟨(some 11), .bin .geq (.t 10) (.k (.s (.i .u64 4294967296))), none⟩])
  (.cond (.t 11)
  (.seq (.reg [⟨(some 12), .build [.i .i64 0, .i .i64 0, .i .i64 0, .i .i64 0, .i .i64 0, .i .i64 0, .i .i64 0, .i .i64 0, .i .i64 0, .i .i64 0, .i .i64 0] [], none⟩,
  ⟨none, .st (.t 4) (.t 12) 11, none⟩,
  ⟨(some 5), .mv (.k (.s (.i .i64 60))), none⟩])
  (.ret))
  (.skip)))
  (.seq (.reg [⟨(some 13), .mv (.t 0), none⟩,
  ⟨(some 14), .bin .rem (.t 13) (.k (.s (.i .u64 16))), none⟩,
  ⟨(some 15), .conv .i64 (.t 14), none⟩,
  ⟨(some 16), .mv (.t 0), none⟩,
  ⟨(some 17), .bin .shr (.t 16) (.k (.s (.i .u64 4))), none⟩,
  ⟨(some 18), .bin .rem (.t 17) (.k (.s (.i .u64 65536))), none⟩,
  ⟨(some 19), .conv .i64 (.t 18), none⟩,
  ⟨(some 20), .mv (.t 0), none⟩,
  ⟨(some 21), .bin .shr (.t 20) (.k (.s (.i .u64 20))), none⟩,
  ⟨(some 22), .bin .rem (.t 21) (.k (.s (.i .u64 32))), none⟩,
  ⟨(some 23), .conv .i64 (.t 22), none⟩,
  ⟨(some 24), .mv (.t 0), none⟩,
  ⟨(some 25), .bin .shr (.t 24) (.k (.s (.i .u64 25))), none⟩,
  ⟨(some 26), .bin .rem (.t 25) (.k (.s (.i .u64 8))), none⟩,
  ⟨(some 27), .conv .i64 (.t 26), none⟩,
  ⟨(some 28), .mv (.t 0), none⟩,
  ⟨(some 29), .bin .shr (.t 28) (.k (.s (.i .u64 28))), none⟩,
  ⟨(some 30), .bin .rem (.t 29) (.k (.s (.i .u64 16))), none⟩,
  ⟨(some 31), .conv .i64 (.t 30), none⟩,
  ⟨(some 32), .mv (.t 0), none⟩,
  ⟨(some 33), .bin .shr (.t 32) (.k (.s (.i .u64 32))), none⟩,
  ⟨(some 34), .bin .rem (.t 33) (.k (.s (.i .u64 64))), none⟩,
  ⟨(some 35), .conv .i64 (.t 34), none⟩,
  ⟨(some 36), .mv (.t 0), none⟩,
  ⟨(some 37), .bin .shr (.t 36) (.k (.s (.i .u64 38))), none⟩,
  ⟨(some 38), .bin .rem (.t 37) (.k (.s (.i .u64 32))), none⟩,
  ⟨(some 39), .conv .i64 (.t 38), none⟩,
  ⟨(some 40), .build [.i .i64 0, .i .i64 0, .i .i64 0, .i .i64 0, .i .i64 0, .i .i64 0, .i .i64 0, .i .i64 0, .i .i64 0, .i .i64 0, .i .i64 0] [(0, 1, (.t 15)), (1, 1, (.t 19)), (2, 1, (.t 23)), (7, 1, (.t 27)), (10, 1, (.t 31)), (8, 1, (.t 35)), (5, 1, (.t 39))], none⟩,
  ⟨(some 6), .new [.i .i64 0, .i .i64 0, .i .i64 0, .i .i64 0, .i .i64 0, .i .i64 0, .i .i64 0, .i .i64 0, .i .i64 0, .i .i64 0, .i .i64 0], none⟩,
  ⟨none, .st (.t 6) (.t 40) 11, none⟩])
  (.seq (.seq (.reg [⟨(some 41), .fa (.t 6) 0, none⟩,
  ⟨(some 42), .ld (.t 41) none, none⟩])
  (.block 0 (.seq (.seq (.reg [⟨(some 44), .bin .eql (.t 42) (.k (.s (.i .i64 1))), none⟩,
  ⟨(some 43), .mv (.t 44), none⟩])
  (.cond (.t 43)
  (.skip)
  (.reg [⟨(some 45), .bin .eql (.t 42) (.k (.s (.i .i64 10))), none⟩,
  ⟨(some 43), .mv (.t 45), none⟩])))
  (.cond (.t 43)
  (.reg [⟨(some 46), .mv (.t 1), none⟩,
  ⟨(some 47), .conv .i64 (.t 46), none⟩,
  ⟨(some 48), .fa (.t 6) 3, none⟩,
  ⟨none, .st (.t 48) (.t 47) 1, none⟩])
  (.seq (.reg [⟨(some 50), .bin .eql (.t 42) (.k (.s (.i .i64 2))), none⟩,
  ⟨(some 49), .mv (.t 50), none⟩])
  (.cond (.t 49)
  (.reg [⟨(some 51), .mv (.t 1), none⟩,
  ⟨(some 52), .conv .i64 (.t 51), none⟩,
  ⟨(some 53), .fa (.t 6) 4, none⟩,
  ⟨none, .st (.t 53) (.t 52) 1, none⟩])
  (.seq (.seq (.reg [⟨(some 55), .bin .eql (.t 42) (.k (.s (.i .i64 4))), none⟩,
  ⟨(some 54), .mv (.t 55), none⟩])
  (.cond (.t 54)
  (.skip)
  (.reg [⟨(some 56), .bin .eql (.t 42) (.k (.s (.i .i64 5))), none⟩,
  ⟨(some 54), .mv (.t 56), none⟩])))
  (.cond (.t 54)
  (.reg [⟨(some 57), .mv (.t 1), none⟩,
  ⟨(some 58), .conv .i64 (.t 57), none⟩,
  ⟨(some 59), .fa (.t 6) 6, none⟩,
  ⟨none, .st (.t 59) (.t 58) 1, none⟩])
  (.seq (.seq (.reg [⟨(some 61), .bin .eql (.t 42) (.k (.s (.i .i64 6))), none⟩,
  ⟨(some 60), .mv (.t 61), none⟩])
  (.cond (.t 60)
  (.skip)
  (.reg [⟨(some 62), .bin .eql (.t 42) (.k (.s (.i .i64 8))), none⟩,
  ⟨(some 60), .mv (.t 62), none⟩])))
  (.cond (.t 60)
  (.reg [⟨(some 63), .mv (.t 1), none⟩,
  ⟨(some 64), .conv .i64 (.t 63), none⟩,
  ⟨(some 65), .fa (.t 6) 9, none⟩,
  ⟨none, .st (.t 65) (.t 64) 1, none⟩])
  (.skip)))))))))))
  (.seq (.reg [⟨(some 67), .ld (.t 6) (some 11), none⟩,
  ⟨(some 68), .call 90 [(.t 67)], none⟩,
  ⟨(some 66), .mv (.t 68), none⟩,
  ⟨(some 69), .ext (.t 66) 0, none⟩,
  ⟨(some 70), .ext (.t 66) 1, none⟩,
  ⟨(some 71), .ext (.t 66) 2, none⟩,
  ⟨(some 7), .mv (.t 69), none⟩,
  ⟨(some 8), .mv (.t 70), none⟩,
  ⟨(some 9), .mv (.t 71), none⟩])
  (.seq (.seq (.reg [⟨(some 72), .mv (.t 9), none⟩,
  ⟨(some 73), .bin .neq (.t 72) (.k (.s (.i .i64 0))), none⟩,
  ⟨(some 74), .mv (.t 73), none⟩,
  ⟨(some 75), .mv (.t 7), (some (74, false))⟩,
  ⟨(some 76), .mv (.t 0), (some (74, false))⟩,
  ⟨(some 77), .bin .neq (.t 75) (.t 76), (some (74, false))⟩,
  ⟨(some 78), .pick (.t 74) (.k (.s (.b true))) (.t 77), none⟩,
  ⟨(some 79), .mv (.t 78), none⟩,
  ⟨(some 80), .mv (.t 8), (some (79, false))⟩,
  ⟨(some 81), .mv (.t 1), (some (79, false))⟩,
  ⟨(some 82), .bin .neq (.t 80) (.t 81), (some (79, false))⟩,
  ⟨(some 83), .pick (.t 79) (.k (.s (.b true))) (.t 82), none⟩])
  (.cond (.t 83)
  (.seq (.reg [⟨(some 84), .build [.i .i64 0, .i .i64 0, .i .i64 0, .i .i64 0, .i .i64 0, .i .i64 0, .i .i64 0, .i .i64 0, .i .i64 0, .i .i64 0, .i .i64 0] [], none⟩,
  ⟨none, .st (.t 4) (.t 84) 11, none⟩,
  ⟨(some 5), .mv (.k (.s (.i .i64 60))), none⟩])
  (.ret))
  (.skip)))
  (.seq (.reg [⟨(some 85), .ld (.t 6) (some 11), none⟩,
  ⟨none, .st (.t 4) (.t 85) 11, none⟩,
  ⟨(some 5), .mv (.k (.s (.i .i64 0))), none⟩])
  (.ret))))))), [.c 4 (some 11), .t 5]⟩
theorem dc101 : compF Try.prog Try.f101 = some df101 := by kernel_rfl
theorem ok101 : FnOk Try.prog 101 := ⟨Try.f101, Try.func101, by kernel_rfl, by kernel_rfl⟩

/-- (*citadel/citadelref02.Memory).There -/
def df110 : DF :=
  ⟨33, .seq (.reg [⟨(some 6), .mv (.k (.s (.b false))), none⟩])
  (.seq (.reg [⟨(some 7), .mv (.t 1), none⟩,
  ⟨(some 8), .bin .geq (.t 7) (.k (.s (.i .i64 0))), none⟩,
  ⟨(some 9), .mv (.t 8), none⟩,
  ⟨(some 10), .mv (.t 2), (some (9, true))⟩,
  ⟨(some 11), .bin .geq (.t 10) (.k (.s (.i .i64 0))), (some (9, true))⟩,
  ⟨(some 12), .pick (.t 9) (.t 11) (.k (.s (.b false))), none⟩,
  ⟨(some 13), .mv (.t 12), none⟩,
  ⟨(some 14), .mv (.t 1), (some (13, true))⟩,
  ⟨(some 15), .mv (.t 0), (some (13, true))⟩,
  ⟨(some 16), .nil (.t 15), (some (13, true))⟩,
  ⟨(some 17), .fa (.t 16) 0, (some (13, true))⟩,
  ⟨(some 18), .ld (.t 17) none, (some (13, true))⟩,
  ⟨(some 19), .len (.t 18), (some (13, true))⟩,
  ⟨(some 20), .bin .leq (.t 14) (.t 19), (some (13, true))⟩,
  ⟨(some 21), .pick (.t 13) (.t 20) (.k (.s (.b false))), none⟩,
  ⟨(some 22), .mv (.t 21), none⟩,
  ⟨(some 23), .mv (.t 2), (some (22, true))⟩,
  ⟨(some 24), .mv (.t 0), (some (22, true))⟩,
  ⟨(some 25), .nil (.t 24), (some (22, true))⟩,
  ⟨(some 26), .fa (.t 25) 0, (some (22, true))⟩,
  ⟨(some 27), .ld (.t 26) none, (some (22, true))⟩,
  ⟨(some 28), .len (.t 27), (some (22, true))⟩,
  ⟨(some 29), .mv (.t 1), (some (22, true))⟩,
  ⟨(some 30), .bin .sub (.t 28) (.t 29), (some (22, true))⟩,
  ⟨(some 31), .bin .leq (.t 23) (.t 30), (some (22, true))⟩,
  ⟨(some 32), .pick (.t 22) (.t 31) (.k (.s (.b false))), none⟩,
  ⟨(some 6), .mv (.t 32), none⟩])
  (.ret)), [.t 6]⟩
theorem dc110 : compF Try.prog Try.f110 = some df110 := by kernel_rfl
theorem ok110 : FnOk Try.prog 110 := ⟨Try.f110, Try.func110, by kernel_rfl, by kernel_rfl⟩

/-- (*citadel/mem.Memory).Words -/
def df111 : DF :=
  ⟨8, .seq (.reg [⟨(some 2), .mv (.k (.s (.i .i64 0))), none⟩])
  (.seq (.reg [⟨(some 3), .mv (.t 0), none⟩,
  ⟨(some 4), .nil (.t 3), none⟩,
  ⟨(some 5), .fa (.t 4) 0, none⟩,
  ⟨(some 6), .ld (.t 5) none, none⟩,
  ⟨(some 7), .len (.t 6), none⟩,
  ⟨(some 2), .mv (.t 7), none⟩])
  (.ret)), [.t 2]⟩
theorem dc111 : compF Try.prog Try.f111 = some df111 := by kernel_rfl
theorem ok111 : FnOk Try.prog 111 := ⟨Try.f111, Try.func111, by kernel_rfl, by kernel_rfl⟩

/-- citadel/word.Pack -/
def df114 : DF :=
  ⟨34, .seq (.reg [⟨(some 2), .mv (.k (.s (.i .u64 0))), none⟩,
  ⟨(some 3), .mv (.k (.s (.i .i64 0))), none⟩])
  (.seq (.reg [⟨(some 4), .mv (.k (.s (.i .u64 0))), none⟩,
  ⟨(some 5), .mv (.k (.s (.i .i64 0))), none⟩])
  (.seq (.seq (.reg [⟨(some 9), .mv (.t 0), none⟩,
  ⟨(some 10), .len (.t 9), none⟩,
  ⟨(some 11), .mv (.k (.s (.i .i64 0))), none⟩])
  (.block 0 (.loop (.seq (.reg [⟨(some 12), .bin .lss (.t 11) (.t 10), none⟩])
  (.seq (.cond (.t 12)
  (.skip)
  (.exit 0))
  (.seq (.block 1 (.seq (.reg [⟨(some 13), .ia none 2 (.t 9) (.t 11), none⟩,
  ⟨(some 14), .ld (.t 13) (some 2), none⟩,
  ⟨(some 7), .new [.i .i64 0, .i .u64 0], none⟩,
  ⟨none, .st (.t 7) (.t 14) 2, none⟩])
  (.seq (.reg [⟨(some 8), .mv (.k (.s (.i .i64 0))), none⟩])
  (.seq (.seq (.reg [⟨(some 16), .mv (.t 4), none⟩,
  ⟨(some 17), .mv (.t 5), none⟩,
  ⟨(some 18), .fa (.t 7) 0, none⟩,
  ⟨(some 19), .ld (.t 18) none, none⟩,
  ⟨(some 20), .fa (.t 7) 1, none⟩,
  ⟨(some 21), .ld (.t 20) none, none⟩,
  ⟨(some 22), .call 124 [(.t 16), (.t 17), (.t 19), (.t 21)], none⟩,
  ⟨(some 15), .mv (.t 22), none⟩,
  ⟨(some 23), .ext (.t 15) 0, none⟩,
  ⟨(some 24), .ext (.t 15) 1, none⟩,
  ⟨(some 4), .mv (.t 23), none⟩,
  ⟨(some 8), .mv (.t 24), none⟩])
  (.seq (.reg [⟨(some 25), .mv (.t 8), none⟩,
  ⟨(some 26), .bin .neq (.t 25) (.k (.s (.i .i64 0))), none⟩])
  (.cond (.t 26)
  (.seq (.reg [⟨(some 27), .mv (.t 8), none⟩,
  ⟨(some 2), .mv (.k (.s (.i .u64 0))), none⟩,
  ⟨(some 3), .mv (.t 27), none⟩])
  (.ret))
  (.skip))))
  (.reg [⟨(some 28), .mv (.t 5), none⟩,
  ⟨(some 29), .fa (.t 7) 0, none⟩,
  ⟨(some 30), .ld (.t 29) none, none⟩,
  ⟨(some 31), .bin .add (.t 28) (.t 30), none⟩,
  ⟨(some 5), .mv (.t 31), none⟩])))))
  (.reg [⟨(some 32), .bin .add (.t 11) (.k (.s (.i .i64 1))), none⟩,
  ⟨(some 11), .mv (.t 32), none⟩])))))))
  (.seq (.reg [⟨(some 33), .mv (.t 4), none⟩,
  ⟨(some 2), .mv (.t 33), none⟩,
  ⟨(some 3), .mv (.k (.s (.i .i64 0))), none⟩])
  (.ret)))), [.t 2, .t 3]⟩
theorem dc114 : compF Try.prog Try.f114 = some df114 := by kernel_rfl
theorem ok114 : FnOk Try.prog 114 := ⟨Try.f114, Try.func114, by kernel_rfl, by kernel_rfl⟩

/-- citadel/citadelref07.Link -/
def df117 : DF :=
  ⟨14, .seq (.reg [⟨(some 2), .mv (.k (.s (.b false))), none⟩])
  (.seq (.reg [⟨(some 3), .mv (.t 0), none⟩,
  ⟨(some 4), .bin .geq (.t 3) (.k (.s (.i .i64 0))), none⟩,
  ⟨(some 5), .mv (.t 4), none⟩,
  ⟨(some 6), .mv (.t 0), (some (5, true))⟩,
  ⟨(some 7), .bin .leq (.t 6) (.k (.s (.i .i64 65532))), (some (5, true))⟩,
  ⟨(some 8), .pick (.t 5) (.t 7) (.k (.s (.b false))), none⟩,
  ⟨(some 9), .mv (.t 8), none⟩,
  ⟨(some 10), .mv (.t 0), (some (9, true))⟩,
  ⟨(some 11), .bin .rem (.t 10) (.k (.s (.i .i64 4))), (some (9, true))⟩,
  ⟨(some 12), .bin .eql (.t 11) (.k (.s (.i .i64 0))), (some (9, true))⟩,
  ⟨(some 13), .pick (.t 9) (.t 12) (.k (.s (.b false))), none⟩,
  ⟨(some 2), .mv (.t 13), none⟩])
  (.ret)), [.t 2]⟩
theorem dc117 : compF Try.prog Try.f117 = some df117 := by kernel_rfl
theorem ok117 : FnOk Try.prog 117 := ⟨Try.f117, Try.func117, by kernel_rfl, by kernel_rfl⟩

/-- citadel/caps.sizes$1 -/
def df118 : DF :=
  ⟨13, .seq (.reg [⟨(some 2), .mv (.k (.s (.i .i64 0))), none⟩,
  ⟨(some 3), .mv (.k (.s (.b false))), none⟩])
  (.seq (.reg [⟨(some 4), .mv (.t 0), none⟩,
  ⟨(some 5), .mx true (.t 4) (.k (.s (.i .i64 0))), none⟩,
  ⟨(some 6), .bin .shl (.k (.s (.i .i64 4))) (.t 5), none⟩,
  ⟨(some 7), .mv (.t 0), none⟩,
  ⟨(some 8), .bin .geq (.t 7) (.k (.s (.i .i64 1))), none⟩,
  ⟨(some 9), .mv (.t 8), none⟩,
  ⟨(some 10), .mv (.t 0), (some (9, true))⟩,
  ⟨(some 11), .bin .leq (.t 10) (.k (.s (.i .i64 8))), (some (9, true))⟩,
  ⟨(some 12), .pick (.t 9) (.t 11) (.k (.s (.b false))), none⟩,
  ⟨(some 2), .mv (.t 6), none⟩,
  ⟨(some 3), .mv (.t 12), none⟩])
  (.ret)), [.t 2, .t 3]⟩
theorem dc118 : compF Try.prog Try.f118 = some df118 := by kernel_rfl
theorem ok118 : FnOk Try.prog 118 := ⟨Try.f118, Try.func118, by kernel_rfl, by kernel_rfl⟩

/-- citadel/word.Get -/
def df119 : DF :=
  ⟨23, .seq (.reg [⟨(some 6), .mv (.k (.s (.i .u64 0))), none⟩,
  ⟨(some 7), .mv (.k (.s (.i .i64 0))), none⟩])
  (.seq (.reg [⟨(some 11), .mv (.t 1), none⟩,
  ⟨(some 12), .mv (.t 2), none⟩,
  ⟨(some 13), .call 126 [(.t 11), (.t 12)], none⟩,
  ⟨(some 10), .mv (.t 13), none⟩,
  ⟨(some 14), .ext (.t 10) 0, none⟩,
  ⟨(some 15), .ext (.t 10) 1, none⟩,
  ⟨(some 8), .mv (.t 14), none⟩,
  ⟨(some 9), .mv (.t 15), none⟩])
  (.seq (.seq (.reg [⟨(some 16), .mv (.t 9), none⟩,
  ⟨(some 17), .un .not (.t 16), none⟩])
  (.cond (.t 17)
  (.seq (.reg [⟨(some 6), .mv (.k (.s (.i .u64 0))), none⟩,
  ⟨(some 7), .mv (.k (.s (.i .i64 10))), none⟩])
  (.ret))
  (.skip)))
  (.seq (.reg [⟨(some 18), .mv (.t 0), none⟩,
  ⟨(some 19), .mv (.t 8), none⟩,
  ⟨(some 20), .bin .and (.t 18) (.t 19), none⟩,
  ⟨(some 21), .mv (.t 1), none⟩,
  ⟨(some 22), .bin .shr (.t 20) (.t 21), none⟩,
  ⟨(some 6), .mv (.t 22), none⟩,
  ⟨(some 7), .mv (.k (.s (.i .i64 0))), none⟩])
  (.ret)))), [.t 6, .t 7]⟩
theorem dc119 : compF Try.prog Try.f119 = some df119 := by kernel_rfl
theorem ok119 : FnOk Try.prog 119 := ⟨Try.f119, Try.func119, by kernel_rfl, by kernel_rfl⟩

/-- citadel/slots.link -/
def df120 : DF :=
  ⟨14, .seq (.reg [⟨(some 2), .mv (.k (.s (.b false))), none⟩])
  (.seq (.reg [⟨(some 3), .mv (.t 0), none⟩,
  ⟨(some 4), .bin .geq (.t 3) (.k (.s (.i .i64 0))), none⟩,
  ⟨(some 5), .mv (.t 4), none⟩,
  ⟨(some 6), .mv (.t 0), (some (5, true))⟩,
  ⟨(some 7), .bin .lss (.t 6) (.k (.s (.i .i64 65536))), (some (5, true))⟩,
  ⟨(some 8), .pick (.t 5) (.t 7) (.k (.s (.b false))), none⟩,
  ⟨(some 9), .mv (.t 8), none⟩,
  ⟨(some 10), .mv (.t 0), (some (9, true))⟩,
  ⟨(some 11), .bin .rem (.t 10) (.k (.s (.i .i64 4))), (some (9, true))⟩,
  ⟨(some 12), .bin .eql (.t 11) (.k (.s (.i .i64 0))), (some (9, true))⟩,
  ⟨(some 13), .pick (.t 9) (.t 12) (.k (.s (.b false))), none⟩,
  ⟨(some 2), .mv (.t 13), none⟩])
  (.ret)), [.t 2]⟩
theorem dc120 : compF Try.prog Try.f120 = some df120 := by kernel_rfl
theorem ok120 : FnOk Try.prog 120 := ⟨Try.f120, Try.func120, by kernel_rfl, by kernel_rfl⟩

/-- citadel/word.Set -/
def df124 : DF :=
  ⟨44, .seq (.reg [⟨(some 8), .mv (.k (.s (.i .u64 0))), none⟩,
  ⟨(some 9), .mv (.k (.s (.i .i64 0))), none⟩])
  (.seq (.reg [⟨(some 13), .mv (.t 1), none⟩,
  ⟨(some 14), .mv (.t 2), none⟩,
  ⟨(some 15), .call 126 [(.t 13), (.t 14)], none⟩,
  ⟨(some 12), .mv (.t 15), none⟩,
  ⟨(some 16), .ext (.t 12) 0, none⟩,
  ⟨(some 17), .ext (.t 12) 1, none⟩,
  ⟨(some 10), .mv (.t 16), none⟩,
  ⟨(some 11), .mv (.t 17), none⟩])
  (.seq (.seq (.reg [⟨(some 18), .mv (.t 11), none⟩,
  ⟨(some 19), .un .not (.t 18), none⟩,
  ⟨(some 20), .mv (.t 19), none⟩,
  ⟨(some 21), .mv (.t 3), (some (20, false))⟩,
  ⟨(some 22), .mv (.t 1), (some (20, false))⟩,
  ⟨(some 23), .bin .shl (.t 21) (.t 22), (some (20, false))⟩,
  ⟨(some 24), .mv (.t 1), (some (20, false))⟩,
  ⟨(some 25), .bin .shr (.t 23) (.t 24), (some (20, false))⟩,
  ⟨(some 26), .mv (.t 3), (some (20, false))⟩,
  ⟨(some 27), .bin .neq (.t 25) (.t 26), (some (20, false))⟩,
  ⟨(some 28), .pick (.t 20) (.k (.s (.b true))) (.t 27), none⟩,
  ⟨(some 29), .mv (.t 28), none⟩,
  ⟨(some 30), .mv (.t 3), (some (29, false))⟩,
  ⟨(some 31), .mv (.t 1), (some (29, false))⟩,
  ⟨(some 32), .bin .shl (.t 30) (.t 31), (some (29, false))⟩,
  ⟨(some 33), .mv (.t 10), (some (29, false))⟩,
  ⟨(some 34), .bin .andNot (.t 32) (.t 33), (some (29, false))⟩,
  ⟨(some 35), .bin .neq (.t 34) (.k (.s (.i .u64 0))), (some (29, false))⟩,
  ⟨(some 36), .pick (.t 29) (.k (.s (.b true))) (.t 35), none⟩])
  (.cond (.t 36)
  (.seq (.reg [⟨(some 8), .mv (.k (.s (.i .u64 0))), none⟩,
  ⟨(some 9), .mv (.k (.s (.i .i64 10))), none⟩])
  (.ret))
  (.skip)))
  (.seq (.reg [⟨(some 37), .mv (.t 0), none⟩,
  ⟨(some 38), .mv (.t 10), none⟩,
  ⟨(some 39), .bin .andNot (.t 37) (.t 38), none⟩,
  ⟨(some 40), .mv (.t 3), none⟩,
  ⟨(some 41), .mv (.t 1), none⟩,
  ⟨(some 42), .bin .shl (.t 40) (.t 41), none⟩,
  ⟨(some 43), .bin .or (.t 39) (.t 42), none⟩,
  ⟨(some 8), .mv (.t 43), none⟩,
  ⟨(some 9), .mv (.k (.s (.i .i64 0))), none⟩])
  (.ret)))), [.t 8, .t 9]⟩
theorem dc124 : compF Try.prog Try.f124 = some df124 := by kernel_rfl
theorem ok124 : FnOk Try.prog 124 := ⟨Try.f124, Try.func124, by kernel_rfl, by kernel_rfl⟩

/-- citadel/word.mask -/
def df126 : DF :=
  ⟨27, .seq (.reg [⟨(some 4), .mv (.k (.s (.i .u64 0))), none⟩,
  ⟨(some 5), .mv (.k (.s (.b false))), none⟩])
  (.seq (.seq (.reg [⟨(some 6), .mv (.t 0), none⟩,
  ⟨(some 7), .bin .lss (.t 6) (.k (.s (.i .i64 0))), none⟩,
  ⟨(some 8), .mv (.t 7), none⟩,
  ⟨(some 9), .mv (.t 0), (some (8, false))⟩,
  ⟨(some 10), .bin .gtr (.t 9) (.k (.s (.i .i64 63))), (some (8, false))⟩,
  ⟨(some 11), .pick (.t 8) (.k (.s (.b true))) (.t 10), none⟩,
  ⟨(some 12), .mv (.t 11), none⟩,
  ⟨(some 13), .mv (.t 1), (some (12, false))⟩,
  ⟨(some 14), .bin .lss (.t 13) (.k (.s (.i .i64 1))), (some (12, false))⟩,
  ⟨(some 15), .pick (.t 12) (.k (.s (.b true))) (.t 14), none⟩,
  ⟨(some 16), .mv (.t 15), none⟩,
  ⟨(some 17), .mv (.t 1), (some (16, false))⟩,
  ⟨(some 18), .mv (.t 0), (some (16, false))⟩,
  ⟨(some 19), .bin .sub (.k (.s (.i .i64 64))) (.t 18), (some (16, false))⟩,
  ⟨(some 20), .bin .gtr (.t 17) (.t 19), (some (16, false))⟩,
  ⟨(some 21), .pick (.t 16) (.k (.s (.b true))) (.t 20), none⟩])
  (.cond (.t 21)
  (.seq (.reg [⟨(some 4), .mv (.k (.s (.i .u64 0))), none⟩,
  ⟨(some 5), .mv (.k (.s (.b false))), none⟩])
  (.ret))
  (.skip)))
  (.seq (.reg [⟨(some 22), .mv (.t 1), none⟩,
  ⟨(some 23), .bin .sub (.k (.s (.i .i64 64))) (.t 22), none⟩,
  ⟨(some 24), .bin .shr (.k (.s (.i .u64 18446744073709551615))) (.t 23), none⟩,
  ⟨(some 25), .mv (.t 0), none⟩,
  ⟨(some 26), .bin .shl (.t 24) (.t 25), none⟩,
  ⟨(some 4), .mv (.t 26), none⟩,
  ⟨(some 5), .mv (.k (.s (.b true))), none⟩])
  (.ret))), [.t 4, .t 5]⟩
theorem dc126 : compF Try.prog Try.f126 = some df126 := by kernel_rfl
theorem ok126 : FnOk Try.prog 126 := ⟨Try.f126, Try.func126, by kernel_rfl, by kernel_rfl⟩

theorem mixed : Try.prog.follows .mixedOrders = true := by kernel_rfl
end Go.Proofs.Ytdlloccodmdnnaa

