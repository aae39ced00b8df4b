/- The small code of the functions of this seat, printed by a program, and that the model's code compiles to it. -/
import Derived.Test.YtdlloccodmdnnaaProg
import Derived.Test.YtdlloccodmdnnaaZ5
import Derived.KernelRfl
/- The small code of the functions of this seat, printed by a program, and that the model's code compiles to it. -/
namespace Go.Proofs.Ytdlloccodmdnnaa
open Go.D
set_option linter.all false
set_option maxRecDepth 100000

/-- citadel/citadellaw08.ObjsApart -/
def df9 : DF :=
  ⟨131, .seq (.reg [⟨(some 2), .box (.t 0), none⟩,
  ⟨(some 3), .box (.t 1), none⟩,
  ⟨(some 4), .mv (.k (.s (.b false))), none⟩])
  (.seq (.reg [⟨(some 19), .call 28 [], none⟩,
  ⟨(some 5), .mv (.t 19), none⟩])
  (.seq (.reg [⟨(some 21), .call 29 [(.k (.s (.i .i64 12)))], none⟩,
  ⟨(some 20), .mv (.t 21), none⟩,
  ⟨(some 22), .ext (.t 20) 0, none⟩,
  ⟨(some 23), .ext (.t 20) 1, none⟩,
  ⟨(some 6), .mv (.t 22), none⟩,
  ⟨(some 7), .mv (.t 23), none⟩])
  (.seq (.reg [⟨(some 25), .call 30 [(.k (.s (.i .i64 12)))], none⟩,
  ⟨(some 24), .mv (.t 25), none⟩,
  ⟨(some 26), .ext (.t 24) 0, none⟩,
  ⟨(some 27), .ext (.t 24) 1, none⟩,
  ⟨(some 8), .mv (.t 26), none⟩,
  ⟨(some 9), .mv (.t 27), none⟩])
  (.seq (.seq (.reg [⟨(some 28), .mv (.t 6), none⟩,
  ⟨(some 29), .eqn false false (.t 28), none⟩,
  ⟨(some 30), .mv (.t 29), none⟩,
  ⟨(some 31), .mv (.t 7), (some (30, false))⟩,
  ⟨(some 32), .bin .neq (.t 31) (.k (.s (.i .i64 0))), (some (30, false))⟩,
  ⟨(some 33), .pick (.t 30) (.k (.s (.b true))) (.t 32), none⟩,
  ⟨(some 34), .mv (.t 33), none⟩,
  ⟨(some 35), .mv (.t 9), (some (34, false))⟩,
  ⟨(some 36), .bin .neq (.t 35) (.k (.s (.i .i64 0))), (some (34, false))⟩,
  ⟨(some 37), .pick (.t 34) (.k (.s (.b true))) (.t 36), none⟩])
  (.cond (.t 37)
  (.seq (.reg [⟨(some 4), .mv (.k (.s (.b false))), none⟩])
  (.ret))
  (.skip)))
  (.seq (.reg [⟨(some 38), .fa (.t 2) 0, none⟩,
  ⟨(some 39), .ld (.t 38) none, none⟩,
  ⟨(some 40), .call 31 [(.t 39)], none⟩,
  ⟨(some 10), .mv (.t 40), none⟩])
  (.seq (.reg [⟨(some 41), .fa (.t 3) 0, none⟩,
  ⟨(some 42), .ld (.t 41) none, none⟩,
  ⟨(some 43), .call 31 [(.t 42)], none⟩,
  ⟨(some 11), .mv (.t 43), none⟩])
  (.seq (.seq (.reg [⟨(some 44), .mv (.t 10), none⟩,
  ⟨(some 45), .bin .eql (.t 44) (.k (.s (.i .i64 0))), none⟩,
  ⟨(some 46), .mv (.t 45), none⟩,
  ⟨(some 47), .mv (.t 11), (some (46, false))⟩,
  ⟨(some 48), .bin .eql (.t 47) (.k (.s (.i .i64 0))), (some (46, false))⟩,
  ⟨(some 49), .pick (.t 46) (.k (.s (.b true))) (.t 48), none⟩,
  ⟨(some 50), .mv (.t 49), none⟩,
  ⟨(some 51), .fa (.t 2) 1, (some (50, false))⟩,
  ⟨(some 52), .ld (.t 51) none, (some (50, false))⟩,
  ⟨(some 53), .bin .lss (.t 52) (.k (.s (.i .i64 0))), (some (50, false))⟩,
  ⟨(some 54), .pick (.t 50) (.k (.s (.b true))) (.t 53), none⟩,
  ⟨(some 55), .mv (.t 54), none⟩,
  ⟨(some 56), .fa (.t 3) 1, (some (55, false))⟩,
  ⟨(some 57), .ld (.t 56) none, (some (55, false))⟩,
  ⟨(some 58), .bin .lss (.t 57) (.k (.s (.i .i64 0))), (some (55, false))⟩,
  ⟨(some 59), .pick (.t 55) (.k (.s (.b true))) (.t 58), none⟩,
  ⟨(some 60), .mv (.t 59), none⟩,
  ⟨(some 61), .fa (.t 2) 1, (some (60, false))⟩,
  ⟨(some 62), .ld (.t 61) none, (some (60, false))⟩,
  ⟨(some 63), .bin .gtr (.t 62) (.k (.s (.i .i64 4096))), (some (60, false))⟩,
  ⟨(some 64), .pick (.t 60) (.k (.s (.b true))) (.t 63), none⟩,
  ⟨(some 65), .mv (.t 64), none⟩,
  ⟨(some 66), .fa (.t 3) 1, (some (65, false))⟩,
  ⟨(some 67), .ld (.t 66) none, (some (65, false))⟩,
  ⟨(some 68), .bin .gtr (.t 67) (.k (.s (.i .i64 4096))), (some (65, false))⟩,
  ⟨(some 69), .pick (.t 65) (.k (.s (.b true))) (.t 68), none⟩,
  ⟨(some 70), .mv (.t 69), none⟩,
  ⟨(some 71), .fa (.t 2) 1, (some (70, false))⟩,
  ⟨(some 72), .ld (.t 71) none, (some (70, false))⟩,
  ⟨(some 73), .fa (.t 3) 1, (some (70, false))⟩,
  ⟨(some 74), .ld (.t 73) none, (some (70, false))⟩,
  ⟨(some 75), .mv (.t 11), (some (70, false))⟩,
  ⟨(some 76), .bin .add (.t 74) (.t 75), (some (70, false))⟩,
  ⟨(some 77), .bin .lss (.t 72) (.t 76), (some (70, false))⟩,
  ⟨(some 78), .mv (.t 77), (some (70, false))⟩,
  ⟨(some 79), .fa (.t 3) 1, (some (78, true))⟩,
  ⟨(some 80), .ld (.t 79) none, (some (78, true))⟩,
  ⟨(some 81), .fa (.t 2) 1, (some (78, true))⟩,
  ⟨(some 82), .ld (.t 81) none, (some (78, true))⟩,
  ⟨(some 83), .mv (.t 10), (some (78, true))⟩,
  ⟨(some 84), .bin .add (.t 82) (.t 83), (some (78, true))⟩,
  ⟨(some 85), .bin .lss (.t 80) (.t 84), (some (78, true))⟩,
  ⟨(some 86), .pick (.t 78) (.t 85) (.k (.s (.b false))), (some (70, false))⟩,
  ⟨(some 87), .pick (.t 70) (.k (.s (.b true))) (.t 86), none⟩])
  (.cond (.t 87)
  (.seq (.reg [⟨(some 88), .mv (.t 5), none⟩,
  ⟨(some 4), .mv (.t 88), none⟩])
  (.ret))
  (.skip)))
  (.seq (.reg [⟨(some 89), .mv (.t 6), none⟩,
  ⟨(some 90), .mv (.t 8), none⟩,
  ⟨(some 91), .ld (.t 2) (some 47), none⟩,
  ⟨(some 92), .call 32 [(.t 89), (.t 90), (.t 91)], none⟩,
  ⟨(some 12), .mv (.t 92), none⟩])
  (.seq (.reg [⟨(some 94), .mv (.t 6), none⟩,
  ⟨(some 95), .fa (.t 2) 1, none⟩,
  ⟨(some 96), .ld (.t 95) none, none⟩,
  ⟨(some 97), .mv (.t 10), none⟩,
  ⟨(some 98), .call 26 [(.t 94), (.t 96), (.t 97)], none⟩,
  ⟨(some 93), .mv (.t 98), none⟩,
  ⟨(some 99), .ext (.t 93) 0, none⟩,
  ⟨(some 100), .ext (.t 93) 1, none⟩,
  ⟨(some 13), .mv (.t 99), none⟩,
  ⟨(some 14), .mv (.t 100), none⟩])
  (.seq (.reg [⟨(some 101), .mv (.t 6), none⟩,
  ⟨(some 102), .mv (.t 8), none⟩,
  ⟨(some 103), .ld (.t 3) (some 47), none⟩,
  ⟨(some 104), .call 32 [(.t 101), (.t 102), (.t 103)], none⟩,
  ⟨(some 15), .mv (.t 104), none⟩])
  (.seq (.reg [⟨(some 106), .mv (.t 6), none⟩,
  ⟨(some 107), .fa (.t 2) 1, none⟩,
  ⟨(some 108), .ld (.t 107) none, none⟩,
  ⟨(some 109), .mv (.t 10), none⟩,
  ⟨(some 110), .call 26 [(.t 106), (.t 108), (.t 109)], none⟩,
  ⟨(some 105), .mv (.t 110), none⟩,
  ⟨(some 111), .ext (.t 105) 0, none⟩,
  ⟨(some 112), .ext (.t 105) 1, none⟩,
  ⟨(some 16), .mv (.t 111), none⟩,
  ⟨(some 17), .mv (.t 112), none⟩])
  (.seq (.reg [⟨(some 113), .mv (.t 13), none⟩,
  ⟨(some 114), .mv (.t 16), none⟩,
  ⟨(some 115), .call 27 [(.t 113), (.t 114)], none⟩,
  ⟨(some 18), .mv (.t 115), none⟩])
  (.seq (.reg [⟨(some 116), .mv (.t 5), none⟩,
  ⟨(some 117), .mv (.t 116), none⟩,
  ⟨(some 118), .mv (.t 12), (some (117, true))⟩,
  ⟨(some 119), .pick (.t 117) (.t 118) (.k (.s (.b false))), none⟩,
  ⟨(some 120), .mv (.t 119), none⟩,
  ⟨(some 121), .mv (.t 15), (some (120, true))⟩,
  ⟨(some 122), .pick (.t 120) (.t 121) (.k (.s (.b false))), none⟩,
  ⟨(some 123), .mv (.t 122), none⟩,
  ⟨(some 124), .mv (.t 14), (some (123, true))⟩,
  ⟨(some 125), .mv (.t 17), (some (123, true))⟩,
  ⟨(some 126), .bin .eql (.t 124) (.t 125), (some (123, true))⟩,
  ⟨(some 127), .pick (.t 123) (.t 126) (.k (.s (.b false))), none⟩,
  ⟨(some 128), .mv (.t 127), none⟩,
  ⟨(some 129), .mv (.t 18), (some (128, true))⟩,
  ⟨(some 130), .pick (.t 128) (.t 129) (.k (.s (.b false))), none⟩,
  ⟨(some 4), .mv (.t 130), none⟩])
  (.ret)))))))))))))), [.t 4]⟩
theorem dc9 : compF Try.prog Try.f9 = some df9 := by kernel_rfl
/-- (*citadel/mem.Memory).Dump -/
def df26 : DF :=
  ⟨21, .seq (.reg [⟨(some 6), .mv (.k (.s (.ns))), none⟩,
  ⟨(some 7), .mv (.k (.s (.i .i64 0))), none⟩])
  (.seq (.reg [⟨(some 11), .mv (.t 0), none⟩,
  ⟨(some 12), .mv (.t 1), none⟩,
  ⟨(some 13), .mv (.t 2), none⟩,
  ⟨(some 14), .call 60 [(.t 11), (.t 12), (.t 13)], none⟩,
  ⟨(some 10), .mv (.t 14), none⟩,
  ⟨(some 15), .ext (.t 10) 0, none⟩,
  ⟨(some 16), .ext (.t 10) 1, none⟩,
  ⟨(some 8), .mv (.t 15), none⟩,
  ⟨(some 9), .mv (.t 16), none⟩])
  (.seq (.seq (.reg [⟨(some 17), .mv (.t 9), none⟩,
  ⟨(some 18), .un .not (.t 17), none⟩])
  (.cond (.t 18)
  (.seq (.reg [⟨(some 6), .mv (.k (.s (.ns))), none⟩,
  ⟨(some 7), .mv (.k (.s (.i .i64 20))), none⟩])
  (.ret))
  (.skip)))
  (.seq (.reg [⟨(some 19), .mv (.t 8), none⟩,
  ⟨(some 20), .call 61 [(.t 19)], none⟩,
  ⟨(some 6), .mv (.t 20), none⟩,
  ⟨(some 7), .mv (.k (.s (.i .i64 0))), none⟩])
  (.ret)))), [.t 6, .t 7]⟩
theorem dc26 : compF Try.prog Try.f26 = some df26 := by kernel_rfl
theorem ok26 : FnOk Try.prog 26 := ⟨Try.f26, Try.func26, by kernel_rfl, by kernel_rfl⟩

/-- citadel/citadelref02.Same -/
def df27 : DF :=
  ⟨26, .seq (.reg [⟨(some 4), .mv (.k (.s (.b false))), none⟩])
  (.seq (.seq (.reg [⟨(some 6), .mv (.t 0), none⟩,
  ⟨(some 7), .len (.t 6), none⟩,
  ⟨(some 8), .mv (.t 1), none⟩,
  ⟨(some 9), .len (.t 8), none⟩,
  ⟨(some 10), .bin .neq (.t 7) (.t 9), none⟩])
  (.cond (.t 10)
  (.seq (.reg [⟨(some 4), .mv (.k (.s (.b false))), none⟩])
  (.ret))
  (.skip)))
  (.seq (.seq (.reg [⟨(some 5), .mv (.k (.s (.i .i64 0))), none⟩])
  (.block 0 (.loop (.seq (.seq (.reg [⟨(some 11), .mv (.t 5), none⟩,
  ⟨(some 12), .mv (.t 0), none⟩,
  ⟨(some 13), .len (.t 12), none⟩,
  ⟨(some 14), .bin .lss (.t 11) (.t 13), none⟩])
  (.cond (.t 14)
  (.skip)
  (.exit 0)))
  (.seq (.block 1 (.seq (.drq [⟨(some 17), .mv (.t 0), none⟩,
  ⟨(some 18), .mv (.t 5), none⟩,
  ⟨(some 19), .ia none 1 (.t 17) (.t 18), none⟩,
  ⟨(some 20), .ld (.t 19) none, none⟩,
  ⟨(some 21), .mv (.t 1), none⟩,
  ⟨(some 22), .mv (.t 5), none⟩,
  ⟨(some 23), .ia none 1 (.t 21) (.t 22), none⟩,
  ⟨(some 24), .ld (.t 23) none, none⟩,
  ⟨(some 25), .bin .neq (.t 20) (.t 24), none⟩])
  (.cond (.t 25)
  (.seq (.reg [⟨(some 4), .mv (.k (.s (.b false))), none⟩])
  (.ret))
  (.skip))))
  (.reg [⟨(some 15), .mv (.t 5), none⟩,
  ⟨(some 16), .bin .add (.t 15) (.k (.s (.i .i64 1))), none⟩,
  ⟨(some 5), .mv (.t 16), none⟩]))))))
  (.seq (.reg [⟨(some 4), .mv (.k (.s (.b true))), none⟩])
  (.ret)))), [.t 4]⟩
theorem dc27 : compF Try.prog Try.f27 = some df27 := by kernel_rfl
theorem ok27 : FnOk Try.prog 27 := ⟨Try.f27, Try.func27, by kernel_rfl, by kernel_rfl⟩

/-- citadel/citadellaw08.awake -/
def df28 : DF :=
  ⟨118, .seq (.reg [⟨(some 0), .mv (.k (.s (.b false))), none⟩])
  (.seq (.reg [⟨(some 22), .call 29 [(.k (.s (.i .i64 12)))], none⟩,
  ⟨(some 21), .mv (.t 22), none⟩,
  ⟨(some 23), .ext (.t 21) 0, none⟩,
  ⟨(some 24), .ext (.t 21) 1, none⟩,
  ⟨(some 1), .mv (.t 23), none⟩,
  ⟨(some 2), .mv (.t 24), none⟩])
  (.seq (.seq (.reg [⟨(some 25), .mv (.t 1), none⟩,
  ⟨(some 26), .eqn false false (.t 25), none⟩,
  ⟨(some 27), .mv (.t 26), none⟩,
  ⟨(some 28), .mv (.t 2), (some (27, false))⟩,
  ⟨(some 29), .bin .neq (.t 28) (.k (.s (.i .i64 0))), (some (27, false))⟩,
  ⟨(some 30), .pick (.t 27) (.k (.s (.b true))) (.t 29), none⟩])
  (.cond (.t 30)
  (.seq (.reg [⟨(some 0), .mv (.k (.s (.b false))), none⟩])
  (.ret))
  (.skip)))
  (.seq (.reg [⟨(some 31), .mv (.t 1), none⟩,
  ⟨(some 32), .build [.i .i64 0, .i .i64 0, .i .i64 0, .b false, .i .i64 0, .i .i64 0, .i .i64 0, .i .i64 0, .b false, .b false, .i .i64 0, .i .i64 0, .i .i64 0, .i .i64 0, .i .u64 0, .i .u64 0, .i .u64 0, .i .u64 0, .i .u64 0, .i .u64 0, .i .u64 0, .i .u64 0, .i .u64 0, .i .u64 0, .i .u64 0, .i .u64 0, .i .u64 0, .i .u64 0, .i .u64 0, .i .u64 0] [(0, 1, (.k (.s (.i .i64 1)))), (1, 1, (.k (.s (.i .i64 255)))), (2, 1, (.k (.s (.i .i64 5)))), (3, 1, (.k (.s (.b true)))), (6, 1, (.k (.s (.i .i64 1024)))), (10, 1, (.k (.s (.i .i64 2048))))], none⟩,
  ⟨(some 33), .call 39 [(.t 31), (.k (.s (.i .i64 1088))), (.t 32)], none⟩,
  ⟨(some 3), .mv (.t 33), none⟩])
  (.seq (.reg [⟨(some 35), .mv (.t 1), none⟩,
  ⟨(some 36), .call 26 [(.t 35), (.k (.s (.i .i64 1104))), (.k (.s (.i .i64 2)))], none⟩,
  ⟨(some 34), .mv (.t 36), none⟩,
  ⟨(some 37), .ext (.t 34) 0, none⟩,
  ⟨(some 38), .ext (.t 34) 1, none⟩,
  ⟨(some 4), .mv (.t 37), none⟩,
  ⟨(some 5), .mv (.t 38), none⟩])
  (.seq (.reg [⟨(some 39), .mv (.t 1), none⟩,
  ⟨(some 40), .build [.i .i64 0, .i .i64 0, .i .i64 0] [(0, 1, (.k (.s (.i .i64 2)))), (1, 1, (.k (.s (.i .i64 1088)))), (2, 1, (.k (.s (.i .i64 1152))))], none⟩,
  ⟨(some 41), .call 42 [(.t 39), (.k (.s (.i .i64 1024))), (.t 40)], none⟩,
  ⟨(some 6), .mv (.t 41), none⟩])
  (.seq (.reg [⟨(some 43), .mv (.t 1), none⟩,
  ⟨(some 44), .call 26 [(.t 43), (.k (.s (.i .i64 1024))), (.k (.s (.i .i64 1)))], none⟩,
  ⟨(some 42), .mv (.t 44), none⟩,
  ⟨(some 45), .ext (.t 42) 0, none⟩,
  ⟨(some 46), .ext (.t 42) 1, none⟩,
  ⟨(some 7), .mv (.t 45), none⟩,
  ⟨(some 8), .mv (.t 46), none⟩])
  (.seq (.reg [⟨(some 47), .mv (.t 1), none⟩,
  ⟨(some 48), .build [.i .i64 0, .i .i64 0, .i .i64 0, .i .i64 0, .i .i64 0] [(0, 1, (.k (.s (.i .i64 2)))), (3, 1, (.k (.s (.i .i64 5)))), (4, 1, (.k (.s (.i .i64 1088))))], none⟩,
  ⟨(some 49), .call 43 [(.t 47), (.k (.s (.i .i64 1032))), (.t 48)], none⟩,
  ⟨(some 9), .mv (.t 49), none⟩])
  (.seq (.reg [⟨(some 51), .mv (.t 1), none⟩,
  ⟨(some 52), .call 26 [(.t 51), (.k (.s (.i .i64 1032))), (.k (.s (.i .i64 2)))], none⟩,
  ⟨(some 50), .mv (.t 52), none⟩,
  ⟨(some 53), .ext (.t 50) 0, none⟩,
  ⟨(some 54), .ext (.t 50) 1, none⟩,
  ⟨(some 10), .mv (.t 53), none⟩,
  ⟨(some 11), .mv (.t 54), none⟩])
  (.seq (.reg [⟨(some 55), .mv (.t 1), none⟩,
  ⟨(some 56), .call 45 [(.t 55), (.k (.s (.i .i64 1040))), (.k (.s (.i .i64 3))), (.k (.s (.i .i64 2048)))], none⟩,
  ⟨(some 12), .mv (.t 56), none⟩])
  (.seq (.reg [⟨(some 58), .mv (.t 1), none⟩,
  ⟨(some 59), .call 37 [(.t 58), (.k (.s (.i .i64 1040))), (.k (.s (.i .i64 3)))], none⟩,
  ⟨(some 57), .mv (.t 59), none⟩,
  ⟨(some 60), .ext (.t 57) 0, none⟩,
  ⟨(some 61), .ext (.t 57) 1, none⟩,
  ⟨(some 13), .mv (.t 60), none⟩,
  ⟨(some 14), .mv (.t 61), none⟩])
  (.seq (.reg [⟨(some 63), .mv (.t 1), none⟩,
  ⟨(some 64), .call 33 [(.t 63), (.k (.s (.i .i64 1056)))], none⟩,
  ⟨(some 62), .mv (.t 64), none⟩,
  ⟨(some 65), .ext (.t 62) 0, none⟩,
  ⟨(some 66), .ext (.t 62) 1, none⟩,
  ⟨(some 15), .new [.i .i64 0, .i .i64 0, .i .i64 0, .b false, .i .i64 0, .i .i64 0, .i .i64 0, .i .i64 0, .b false, .b false, .i .i64 0, .i .i64 0, .i .i64 0, .i .i64 0, .i .u64 0, .i .u64 0, .i .u64 0, .i .u64 0, .i .u64 0, .i .u64 0, .i .u64 0, .i .u64 0, .i .u64 0, .i .u64 0, .i .u64 0, .i .u64 0, .i .u64 0, .i .u64 0, .i .u64 0, .i .u64 0], none⟩,
  ⟨none, .st (.t 15) (.t 65) 30, none⟩,
  ⟨(some 16), .mv (.t 66), none⟩])
  (.seq (.reg [⟨(some 67), .mv (.t 1), none⟩,
  ⟨(some 68), .build [.b false, .b false, .i .i64 0, .i .i64 0] [], none⟩,
  ⟨(some 69), .call 44 [(.t 67), (.k (.s (.i .i64 1048))), (.k (.s (.i .i64 8))), (.t 68)], none⟩,
  ⟨(some 17), .mv (.t 69), none⟩])
  (.seq (.reg [⟨(some 70), .mv (.t 4), none⟩,
  ⟨(some 71), .bsl 2 [.i .u64 0, .i .u64 0] [(0, 1, (.k (.s (.i .u64 28665)))), (1, 1, (.k (.s (.i .u64 576465150349934592))))], none⟩,
  ⟨(some 72), .call 27 [(.t 70), (.t 71)], none⟩,
  ⟨(some 18), .mv (.t 72), none⟩])
  (.seq (.reg [⟨(some 73), .mv (.t 7), none⟩,
  ⟨(some 74), .bsl 1 [.i .u64 0] [(0, 1, (.k (.s (.i .u64 301994242))))], none⟩,
  ⟨(some 75), .call 27 [(.t 73), (.t 74)], none⟩,
  ⟨(some 19), .mv (.t 75), none⟩])
  (.seq (.reg [⟨(some 76), .mv (.t 10), none⟩,
  ⟨(some 77), .bsl 2 [.i .u64 0, .i .u64 0] [(0, 1, (.k (.s (.i .u64 2)))), (1, 1, (.k (.s (.i .u64 292057776133))))], none⟩,
  ⟨(some 78), .call 27 [(.t 76), (.t 77)], none⟩,
  ⟨(some 20), .mv (.t 78), none⟩])
  (.seq (.reg [⟨(some 79), .mv (.t 3), none⟩,
  ⟨(some 80), .bin .eql (.t 79) (.k (.s (.i .i64 0))), none⟩,
  ⟨(some 81), .mv (.t 80), none⟩,
  ⟨(some 82), .mv (.t 18), (some (81, true))⟩,
  ⟨(some 83), .pick (.t 81) (.t 82) (.k (.s (.b false))), none⟩,
  ⟨(some 84), .mv (.t 83), none⟩,
  ⟨(some 85), .mv (.t 6), (some (84, true))⟩,
  ⟨(some 86), .bin .eql (.t 85) (.k (.s (.i .i64 0))), (some (84, true))⟩,
  ⟨(some 87), .pick (.t 84) (.t 86) (.k (.s (.b false))), none⟩,
  ⟨(some 88), .mv (.t 87), none⟩,
  ⟨(some 89), .mv (.t 19), (some (88, true))⟩,
  ⟨(some 90), .pick (.t 88) (.t 89) (.k (.s (.b false))), none⟩,
  ⟨(some 91), .mv (.t 90), none⟩,
  ⟨(some 92), .mv (.t 9), (some (91, true))⟩,
  ⟨(some 93), .bin .eql (.t 92) (.k (.s (.i .i64 0))), (some (91, true))⟩,
  ⟨(some 94), .pick (.t 91) (.t 93) (.k (.s (.b false))), none⟩,
  ⟨(some 95), .mv (.t 94), none⟩,
  ⟨(some 96), .mv (.t 20), (some (95, true))⟩,
  ⟨(some 97), .pick (.t 95) (.t 96) (.k (.s (.b false))), none⟩,
  ⟨(some 98), .mv (.t 97), none⟩,
  ⟨(some 99), .mv (.t 12), (some (98, true))⟩,
  ⟨(some 100), .bin .eql (.t 99) (.k (.s (.i .i64 0))), (some (98, true))⟩,
  ⟨(some 101), .pick (.t 98) (.t 100) (.k (.s (.b false))), none⟩,
  ⟨(some 102), .mv (.t 101), none⟩,
  ⟨(some 103), .mv (.t 13), (some (102, true))⟩,
  ⟨(some 104), .bin .eql (.t 103) (.k (.s (.i .i64 2048))), (some (102, true))⟩,
  ⟨(some 105), .pick (.t 102) (.t 104) (.k (.s (.b false))), none⟩,
  ⟨(some 106), .mv (.t 105), none⟩,
  ⟨(some 107), .mv (.t 14), (some (106, true))⟩,
  ⟨(some 108), .bin .eql (.t 107) (.k (.s (.i .i64 0))), (some (106, true))⟩,
  ⟨(some 109), .pick (.t 106) (.t 108) (.k (.s (.b false))), none⟩,
  ⟨(some 110), .mv (.t 109), none⟩,
  ⟨(some 111), .mv (.t 16), (some (110, true))⟩,
  ⟨(some 112), .bin .eql (.t 111) (.k (.s (.i .i64 20))), (some (110, true))⟩,
  ⟨(some 113), .pick (.t 110) (.t 112) (.k (.s (.b false))), none⟩,
  ⟨(some 114), .mv (.t 113), none⟩,
  ⟨(some 115), .mv (.t 17), (some (114, true))⟩,
  ⟨(some 116), .bin .eql (.t 115) (.k (.s (.i .i64 1))), (some (114, true))⟩,
  ⟨(some 117), .pick (.t 114) (.t 116) (.k (.s (.b false))), none⟩,
  ⟨(some 0), .mv (.t 117), none⟩])
  (.ret))))))))))))))))), [.t 0]⟩
theorem dc28 : compF Try.prog Try.f28 = some df28 := by kernel_rfl
theorem ok28 : FnOk Try.prog 28 := ⟨Try.f28, Try.func28, by kernel_rfl, by kernel_rfl⟩

/-- citadel/mem.New -/
def df29 : DF :=
  ⟨15, .seq (.reg [⟨(some 2), .mv (.k (.s (.np))), none⟩,
  ⟨(some 3), .mv (.k (.s (.i .i64 0))), none⟩])
  (.seq (.seq (.reg [⟨(some 4), .mv (.t 0), none⟩,
  ⟨(some 5), .bin .lss (.t 4) (.k (.s (.i .i64 11))), none⟩,
  ⟨(some 6), .mv (.t 5), none⟩,
  ⟨(some 7), .mv (.t 0), (some (6, false))⟩,
  ⟨(some 8), .bin .gtr (.t 7) (.k (.s (.i .i64 16))), (some (6, false))⟩,
  ⟨(some 9), .pick (.t 6) (.k (.s (.b true))) (.t 8), none⟩])
  (.cond (.t 9)
  (.seq (.reg [⟨(some 2), .mv (.k (.s (.np))), none⟩,
  ⟨(some 3), .mv (.k (.s (.i .i64 1))), none⟩])
  (.ret))
  (.skip)))
  (.seq (.reg [⟨(some 10), .mv (.t 0), none⟩,
  ⟨(some 11), .bin .shl (.k (.s (.i .i64 1))) (.t 10), none⟩,
  ⟨(some 12), .mks 1 8 [.i .u64 0] (.t 11) (.t 11), none⟩,
  ⟨(some 13), .build [.ns, .i .i64 0] [(0, 1, (.t 12))], none⟩,
  ⟨(some 14), .box (.t 13), none⟩,
  ⟨(some 2), .mv (.t 14), none⟩,
  ⟨(some 3), .mv (.k (.s (.i .i64 0))), none⟩])
  (.ret))), [.t 2, .t 3]⟩
theorem dc29 : compF Try.prog Try.f29 = some df29 := by kernel_rfl
theorem ok29 : FnOk Try.prog 29 := ⟨Try.f29, Try.func29, by kernel_rfl, by kernel_rfl⟩

/-- citadel/citadelref02.New -/
def df30 : DF :=
  ⟨15, .seq (.reg [⟨(some 2), .mv (.k (.s (.np))), none⟩,
  ⟨(some 3), .mv (.k (.s (.i .i64 0))), none⟩])
  (.seq (.seq (.reg [⟨(some 4), .mv (.t 0), none⟩,
  ⟨(some 5), .bin .lss (.t 4) (.k (.s (.i .i64 11))), none⟩,
  ⟨(some 6), .mv (.t 5), none⟩,
  ⟨(some 7), .mv (.t 0), (some (6, false))⟩,
  ⟨(some 8), .bin .gtr (.t 7) (.k (.s (.i .i64 16))), (some (6, false))⟩,
  ⟨(some 9), .pick (.t 6) (.k (.s (.b true))) (.t 8), none⟩])
  (.cond (.t 9)
  (.seq (.reg [⟨(some 2), .mv (.k (.s (.np))), none⟩,
  ⟨(some 3), .mv (.k (.s (.i .i64 1))), none⟩])
  (.ret))
  (.skip)))
  (.seq (.reg [⟨(some 10), .mv (.t 0), none⟩,
  ⟨(some 11), .bin .shl (.k (.s (.i .i64 1))) (.t 10), none⟩,
  ⟨(some 12), .mks 1 8 [.i .u64 0] (.t 11) (.t 11), none⟩,
  ⟨(some 13), .build [.ns, .i .i64 0] [(0, 1, (.t 12))], none⟩,
  ⟨(some 14), .box (.t 13), none⟩,
  ⟨(some 2), .mv (.t 14), none⟩,
  ⟨(some 3), .mv (.k (.s (.i .i64 0))), none⟩])
  (.ret))), [.t 2, .t 3]⟩
theorem dc30 : compF Try.prog Try.f30 = some df30 := by kernel_rfl
theorem ok30 : FnOk Try.prog 30 := ⟨Try.f30, Try.func30, by kernel_rfl, by kernel_rfl⟩

/-- citadel/citadellaw08.words -/
def df31 : DF :=
  ⟨13, .seq (.reg [⟨(some 2), .mv (.k (.s (.i .i64 0))), none⟩])
  (.seq (.seq (.reg [⟨(some 3), .mv (.t 0), none⟩])
  (.block 0 (.seq (.seq (.reg [⟨(some 5), .bin .eql (.t 3) (.k (.s (.i .i64 1))), none⟩,
  ⟨(some 4), .mv (.t 5), none⟩])
  (.cond (.t 4)
  (.skip)
  (.reg [⟨(some 6), .bin .eql (.t 3) (.k (.s (.i .i64 2))), none⟩,
  ⟨(some 4), .mv (.t 6), none⟩])))
  (.cond (.t 4)
  (.seq (.reg [⟨(some 2), .mv (.k (.s (.i .i64 64))), none⟩])
  (.ret))
  (.seq (.reg [⟨(some 8), .bin .eql (.t 3) (.k (.s (.i .i64 3))), none⟩,
  ⟨(some 7), .mv (.t 8), none⟩])
  (.cond (.t 7)
  (.seq (.reg [⟨(some 2), .mv (.k (.s (.i .i64 4))), none⟩])
  (.ret))
  (.seq (.seq (.reg [⟨(some 10), .bin .eql (.t 3) (.k (.s (.i .i64 4))), none⟩,
  ⟨(some 9), .mv (.t 10), none⟩])
  (.cond (.t 9)
  (.skip)
  (.seq (.reg [⟨(some 11), .bin .eql (.t 3) (.k (.s (.i .i64 5))), none⟩,
  ⟨(some 9), .mv (.t 11), none⟩])
  (.cond (.t 9)
  (.skip)
  (.reg [⟨(some 12), .bin .eql (.t 3) (.k (.s (.i .i64 6))), none⟩,
  ⟨(some 9), .mv (.t 12), none⟩])))))
  (.cond (.t 9)
  (.seq (.reg [⟨(some 2), .mv (.k (.s (.i .i64 8))), none⟩])
  (.ret))
  (.skip)))))))))
  (.seq (.reg [⟨(some 2), .mv (.k (.s (.i .i64 0))), none⟩])
  (.ret))), [.t 2]⟩
theorem dc31 : compF Try.prog Try.f31 = some df31 := by kernel_rfl
theorem ok31 : FnOk Try.prog 31 := ⟨Try.f31, Try.func31, by kernel_rfl, by kernel_rfl⟩

/-- citadel/citadellaw08.sets -/
def df32 : DF :=
  ⟨126, .seq (.reg [⟨(some 5), .box (.t 2), none⟩,
  ⟨(some 6), .mv (.k (.s (.b false))), none⟩])
  (.seq (.reg [⟨(some 7), .mv (.k (.s (.i .i64 0))), none⟩])
  (.seq (.reg [⟨(some 8), .mv (.k (.s (.i .i64 0))), none⟩])
  (.seq (.seq (.reg [⟨(some 9), .fa (.t 5) 0, none⟩,
  ⟨(some 10), .ld (.t 9) none, none⟩])
  (.block 0 (.seq (.reg [⟨(some 12), .bin .eql (.t 10) (.k (.s (.i .i64 1))), none⟩,
  ⟨(some 11), .mv (.t 12), none⟩])
  (.cond (.t 11)
  (.seq (.reg [⟨(some 13), .mv (.t 0), none⟩,
  ⟨(some 14), .fa (.t 5) 1, none⟩,
  ⟨(some 15), .ld (.t 14) none, none⟩,
  ⟨(some 16), .fa (.t 5) 4, none⟩,
  ⟨(some 17), .ld (.t 16) (some 30), none⟩,
  ⟨(some 18), .call 39 [(.t 13), (.t 15), (.t 17)], none⟩,
  ⟨(some 7), .mv (.t 18), none⟩])
  (.reg [⟨(some 19), .mv (.t 1), none⟩,
  ⟨(some 20), .fa (.t 5) 1, none⟩,
  ⟨(some 21), .ld (.t 20) none, none⟩,
  ⟨(some 22), .fa (.t 5) 4, none⟩,
  ⟨(some 23), .ld (.t 22) (some 30), none⟩,
  ⟨(some 24), .call 62 [(.t 19), (.t 21), (.t 23)], none⟩,
  ⟨(some 8), .mv (.t 24), none⟩]))
  (.seq (.reg [⟨(some 26), .bin .eql (.t 10) (.k (.s (.i .i64 2))), none⟩,
  ⟨(some 25), .mv (.t 26), none⟩])
  (.cond (.t 25)
  (.seq (.reg [⟨(some 27), .mv (.t 0), none⟩,
  ⟨(some 28), .fa (.t 5) 1, none⟩,
  ⟨(some 29), .ld (.t 28) none, none⟩,
  ⟨(some 30), .fa (.t 5) 2, none⟩,
  ⟨(some 31), .ld (.t 30) none, none⟩,
  ⟨(some 32), .fa (.t 5) 3, none⟩,
  ⟨(some 33), .ld (.t 32) none, none⟩,
  ⟨(some 34), .call 40 [(.t 27), (.t 29), (.t 31), (.t 33)], none⟩,
  ⟨(some 7), .mv (.t 34), none⟩])
  (.reg [⟨(some 35), .mv (.t 1), none⟩,
  ⟨(some 36), .fa (.t 5) 1, none⟩,
  ⟨(some 37), .ld (.t 36) none, none⟩,
  ⟨(some 38), .fa (.t 5) 2, none⟩,
  ⟨(some 39), .ld (.t 38) none, none⟩,
  ⟨(some 40), .fa (.t 5) 3, none⟩,
  ⟨(some 41), .ld (.t 40) none, none⟩,
  ⟨(some 42), .call 63 [(.t 35), (.t 37), (.t 39), (.t 41)], none⟩,
  ⟨(some 8), .mv (.t 42), none⟩]))
  (.seq (.reg [⟨(some 44), .bin .eql (.t 10) (.k (.s (.i .i64 3))), none⟩,
  ⟨(some 43), .mv (.t 44), none⟩])
  (.cond (.t 43)
  (.seq (.reg [⟨(some 45), .mv (.t 0), none⟩,
  ⟨(some 46), .fa (.t 5) 1, none⟩,
  ⟨(some 47), .ld (.t 46) none, none⟩,
  ⟨(some 48), .fa (.t 5) 34, none⟩,
  ⟨(some 49), .ld (.t 48) (some 3), none⟩,
  ⟨(some 50), .call 42 [(.t 45), (.t 47), (.t 49)], none⟩,
  ⟨(some 7), .mv (.t 50), none⟩])
  (.reg [⟨(some 51), .mv (.t 1), none⟩,
  ⟨(some 52), .fa (.t 5) 1, none⟩,
  ⟨(some 53), .ld (.t 52) none, none⟩,
  ⟨(some 54), .fa (.t 5) 34, none⟩,
  ⟨(some 55), .ld (.t 54) (some 3), none⟩,
  ⟨(some 56), .call 64 [(.t 51), (.t 53), (.t 55)], none⟩,
  ⟨(some 8), .mv (.t 56), none⟩]))
  (.seq (.reg [⟨(some 58), .bin .eql (.t 10) (.k (.s (.i .i64 4))), none⟩,
  ⟨(some 57), .mv (.t 58), none⟩])
  (.cond (.t 57)
  (.seq (.reg [⟨(some 59), .mv (.t 0), none⟩,
  ⟨(some 60), .fa (.t 5) 1, none⟩,
  ⟨(some 61), .ld (.t 60) none, none⟩,
  ⟨(some 62), .fa (.t 5) 37, none⟩,
  ⟨(some 63), .ld (.t 62) (some 5), none⟩,
  ⟨(some 64), .call 43 [(.t 59), (.t 61), (.t 63)], none⟩,
  ⟨(some 7), .mv (.t 64), none⟩])
  (.reg [⟨(some 65), .mv (.t 1), none⟩,
  ⟨(some 66), .fa (.t 5) 1, none⟩,
  ⟨(some 67), .ld (.t 66) none, none⟩,
  ⟨(some 68), .fa (.t 5) 37, none⟩,
  ⟨(some 69), .ld (.t 68) (some 5), none⟩,
  ⟨(some 70), .call 65 [(.t 65), (.t 67), (.t 69)], none⟩,
  ⟨(some 8), .mv (.t 70), none⟩]))
  (.seq (.reg [⟨(some 72), .bin .eql (.t 10) (.k (.s (.i .i64 5))), none⟩,
  ⟨(some 71), .mv (.t 72), none⟩])
  (.cond (.t 71)
  (.seq (.reg [⟨(some 73), .mv (.t 0), none⟩,
  ⟨(some 74), .fa (.t 5) 1, none⟩,
  ⟨(some 75), .ld (.t 74) none, none⟩,
  ⟨(some 76), .fa (.t 5) 2, none⟩,
  ⟨(some 77), .ld (.t 76) none, none⟩,
  ⟨(some 78), .fa (.t 5) 42, none⟩,
  ⟨(some 79), .ld (.t 78) (some 4), none⟩,
  ⟨(some 80), .call 44 [(.t 73), (.t 75), (.t 77), (.t 79)], none⟩,
  ⟨(some 7), .mv (.t 80), none⟩])
  (.reg [⟨(some 81), .mv (.t 1), none⟩,
  ⟨(some 82), .fa (.t 5) 1, none⟩,
  ⟨(some 83), .ld (.t 82) none, none⟩,
  ⟨(some 84), .fa (.t 5) 2, none⟩,
  ⟨(some 85), .ld (.t 84) none, none⟩,
  ⟨(some 86), .fa (.t 5) 42, none⟩,
  ⟨(some 87), .ld (.t 86) (some 4), none⟩,
  ⟨(some 88), .call 66 [(.t 81), (.t 83), (.t 85), (.t 87)], none⟩,
  ⟨(some 8), .mv (.t 88), none⟩]))
  (.seq (.reg [⟨(some 90), .bin .eql (.t 10) (.k (.s (.i .i64 6))), none⟩,
  ⟨(some 89), .mv (.t 90), none⟩])
  (.cond (.t 89)
  (.seq (.reg [⟨(some 91), .mv (.t 0), none⟩,
  ⟨(some 92), .fa (.t 5) 1, none⟩,
  ⟨(some 93), .ld (.t 92) none, none⟩,
  ⟨(some 94), .fa (.t 5) 2, none⟩,
  ⟨(some 95), .ld (.t 94) none, none⟩,
  ⟨(some 96), .fa (.t 5) 46, none⟩,
  ⟨(some 97), .ld (.t 96) none, none⟩,
  ⟨(some 98), .call 45 [(.t 91), (.t 93), (.t 95), (.t 97)], none⟩,
  ⟨(some 7), .mv (.t 98), none⟩])
  (.reg [⟨(some 99), .mv (.t 1), none⟩,
  ⟨(some 100), .fa (.t 5) 1, none⟩,
  ⟨(some 101), .ld (.t 100) none, none⟩,
  ⟨(some 102), .fa (.t 5) 2, none⟩,
  ⟨(some 103), .ld (.t 102) none, none⟩,
  ⟨(some 104), .fa (.t 5) 46, none⟩,
  ⟨(some 105), .ld (.t 104) none, none⟩,
  ⟨(some 106), .call 67 [(.t 99), (.t 101), (.t 103), (.t 105)], none⟩,
  ⟨(some 8), .mv (.t 106), none⟩]))
  (.seq (.reg [⟨(some 108), .bin .eql (.t 10) (.k (.s (.i .i64 7))), none⟩,
  ⟨(some 107), .mv (.t 108), none⟩])
  (.cond (.t 107)
  (.seq (.reg [⟨(some 109), .mv (.t 0), none⟩,
  ⟨(some 110), .fa (.t 5) 1, none⟩,
  ⟨(some 111), .ld (.t 110) none, none⟩,
  ⟨(some 112), .fa (.t 5) 3, none⟩,
  ⟨(some 113), .ld (.t 112) none, none⟩,
  ⟨(some 114), .bsl 1 [.i .u64 0] [(0, 1, (.t 113))], none⟩,
  ⟨(some 115), .call 54 [(.t 109), (.t 111), (.t 114)], none⟩,
  ⟨(some 7), .mv (.t 115), none⟩])
  (.reg [⟨(some 116), .mv (.t 1), none⟩,
  ⟨(some 117), .fa (.t 5) 1, none⟩,
  ⟨(some 118), .ld (.t 117) none, none⟩,
  ⟨(some 119), .fa (.t 5) 3, none⟩,
  ⟨(some 120), .ld (.t 119) none, none⟩,
  ⟨(some 121), .bsl 1 [.i .u64 0] [(0, 1, (.t 120))], none⟩,
  ⟨(some 122), .call 68 [(.t 116), (.t 118), (.t 121)], none⟩,
  ⟨(some 8), .mv (.t 122), none⟩]))
  (.skip)))))))))))))))))
  (.seq (.reg [⟨(some 123), .mv (.t 7), none⟩,
  ⟨(some 124), .mv (.t 8), none⟩,
  ⟨(some 125), .bin .eql (.t 123) (.t 124), none⟩,
  ⟨(some 6), .mv (.t 125), none⟩])
  (.ret))))), [.t 6]⟩
theorem dc32 : compF Try.prog Try.f32 = some df32 := by kernel_rfl
theorem ok32 : FnOk Try.prog 32 := ⟨Try.f32, Try.func32, by kernel_rfl, by kernel_rfl⟩

/-- citadel/objs.Thread -/
def df33 : DF :=
  ⟨152, .seq (.reg [⟨(some 4), .new [.i .i64 0, .i .i64 0, .i .i64 0, .b false, .i .i64 0, .i .i64 0, .i .i64 0, .i .i64 0, .b false, .b false, .i .i64 0, .i .i64 0, .i .i64 0, .i .i64 0, .i .u64 0, .i .u64 0, .i .u64 0, .i .u64 0, .i .u64 0, .i .u64 0, .i .u64 0, .i .u64 0, .i .u64 0, .i .u64 0, .i .u64 0, .i .u64 0, .i .u64 0, .i .u64 0, .i .u64 0, .i .u64 0], none⟩,
  ⟨(some 5), .mv (.k (.s (.i .i64 0))), none⟩])
  (.seq (.seq (.reg [⟨(some 18), .mv (.t 0), none⟩,
  ⟨(some 19), .mv (.t 1), none⟩,
  ⟨(some 20), .call 69 [(.t 18), (.t 19), (.k (.s (.i .i64 64)))], none⟩,
  ⟨(some 21), .un .not (.t 20), none⟩])
  (.cond (.t 21)
  (.seq (.reg [⟨(some 22), .build [.i .i64 0, .i .i64 0, .i .i64 0, .b false, .i .i64 0, .i .i64 0, .i .i64 0, .i .i64 0, .b false, .b false, .i .i64 0, .i .i64 0, .i .i64 0, .i .i64 0, .i .u64 0, .i .u64 0, .i .u64 0, .i .u64 0, .i .u64 0, .i .u64 0, .i .u64 0, .i .u64 0, .i .u64 0, .i .u64 0, .i .u64 0, .i .u64 0, .i .u64 0, .i .u64 0, .i .u64 0, .i .u64 0] [], none⟩,
  ⟨none, .st (.t 4) (.t 22) 30, none⟩,
  ⟨(some 5), .mv (.k (.s (.i .i64 20))), none⟩])
  (.ret))
  (.skip)))
  (.seq (.reg [⟨(some 6), .new [.i .u64 0, .i .u64 0, .i .u64 0, .i .u64 0], none⟩])
  (.seq (.seq (.reg [⟨(some 23), .mv (.k (.s (.i .i64 0))), none⟩])
  (.block 0 (.loop (.seq (.reg [⟨(some 24), .bin .lss (.t 23) (.k (.s (.i .i64 4))), none⟩])
  (.seq (.cond (.t 24)
  (.skip)
  (.exit 0))
  (.seq (.block 1 (.seq (.reg [⟨(some 25), .mv (.t 23), none⟩,
  ⟨(some 7), .mv (.t 25), none⟩])
  (.reg [⟨(some 27), .mv (.t 7), none⟩,
  ⟨(some 28), .mv (.t 0), none⟩,
  ⟨(some 29), .mv (.t 1), none⟩,
  ⟨(some 30), .bin .add (.t 29) (.k (.s (.i .i64 16))), none⟩,
  ⟨(some 31), .mv (.t 7), none⟩,
  ⟨(some 32), .bin .add (.t 30) (.t 31), none⟩,
  ⟨(some 33), .call 70 [(.t 28), (.t 32)], none⟩,
  ⟨(some 26), .mv (.t 33), none⟩,
  ⟨(some 34), .ext (.t 26) 0, none⟩,
  ⟨(some 35), .ext (.t 26) 1, none⟩,
  ⟨(some 36), .ia (some 4) 1 (.t 6) (.t 27), none⟩,
  ⟨none, .st (.t 36) (.t 34) 1, none⟩])))
  (.reg [⟨(some 37), .bin .add (.t 23) (.k (.s (.i .i64 1))), none⟩,
  ⟨(some 23), .mv (.t 37), none⟩])))))))
  (.seq (.reg [⟨(some 39), .ia (some 4) 1 (.t 6) (.k (.s (.i .i64 0))), none⟩,
  ⟨(some 40), .ld (.t 39) none, none⟩,
  ⟨(some 41), .bsl 7 [.i .i64 0, .i .i64 0, .i .i64 0, .i .i64 0, .i .i64 0, .i .i64 0, .i .i64 0] [(0, 1, (.k (.s (.i .i64 3)))), (1, 1, (.k (.s (.i .i64 8)))), (2, 1, (.k (.s (.i .i64 3)))), (3, 1, (.k (.s (.i .i64 1)))), (4, 1, (.k (.s (.i .i64 1)))), (5, 1, (.k (.s (.i .i64 1)))), (6, 1, (.k (.s (.i .i64 2))))], none⟩,
  ⟨(some 42), .call 71 [(.t 40), (.t 41)], none⟩,
  ⟨(some 38), .mv (.t 42), none⟩,
  ⟨(some 43), .ext (.t 38) 0, none⟩,
  ⟨(some 44), .ext (.t 38) 1, none⟩,
  ⟨(some 8), .mv (.t 43), none⟩,
  ⟨(some 9), .mv (.t 44), none⟩])
  (.seq (.reg [⟨(some 46), .ia (some 4) 1 (.t 6) (.k (.s (.i .i64 1))), none⟩,
  ⟨(some 47), .ld (.t 46) none, none⟩,
  ⟨(some 48), .bsl 4 [.i .i64 0, .i .i64 0, .i .i64 0, .i .i64 0] [(0, 1, (.k (.s (.i .i64 16)))), (1, 1, (.k (.s (.i .i64 16)))), (2, 1, (.k (.s (.i .i64 16)))), (3, 1, (.k (.s (.i .i64 16))))], none⟩,
  ⟨(some 49), .call 71 [(.t 47), (.t 48)], none⟩,
  ⟨(some 45), .mv (.t 49), none⟩,
  ⟨(some 50), .ext (.t 45) 0, none⟩,
  ⟨(some 51), .ext (.t 45) 1, none⟩,
  ⟨(some 10), .mv (.t 50), none⟩,
  ⟨(some 11), .mv (.t 51), none⟩])
  (.seq (.reg [⟨(some 53), .ia (some 4) 1 (.t 6) (.k (.s (.i .i64 2))), none⟩,
  ⟨(some 54), .ld (.t 53) none, none⟩,
  ⟨(some 55), .bsl 1 [.i .i64 0] [(0, 1, (.k (.s (.i .i64 28))))], none⟩,
  ⟨(some 56), .call 71 [(.t 54), (.t 55)], none⟩,
  ⟨(some 52), .mv (.t 56), none⟩,
  ⟨(some 57), .ext (.t 52) 0, none⟩,
  ⟨(some 58), .ext (.t 52) 1, none⟩,
  ⟨(some 12), .mv (.t 57), none⟩,
  ⟨(some 13), .mv (.t 58), none⟩])
  (.seq (.reg [⟨(some 60), .ia (some 4) 1 (.t 6) (.k (.s (.i .i64 3))), none⟩,
  ⟨(some 61), .ld (.t 60) none, none⟩,
  ⟨(some 62), .bsl 2 [.i .i64 0, .i .i64 0] [(0, 1, (.k (.s (.i .i64 32)))), (1, 1, (.k (.s (.i .i64 32))))], none⟩,
  ⟨(some 63), .call 71 [(.t 61), (.t 62)], none⟩,
  ⟨(some 59), .mv (.t 63), none⟩,
  ⟨(some 64), .ext (.t 59) 0, none⟩,
  ⟨(some 65), .ext (.t 59) 1, none⟩,
  ⟨(some 14), .mv (.t 64), none⟩,
  ⟨(some 15), .mv (.t 65), none⟩])
  (.seq (.seq (.reg [⟨(some 66), .mv (.t 9), none⟩,
  ⟨(some 67), .un .not (.t 66), none⟩,
  ⟨(some 68), .mv (.t 67), none⟩,
  ⟨(some 69), .mv (.t 11), (some (68, false))⟩,
  ⟨(some 70), .un .not (.t 69), (some (68, false))⟩,
  ⟨(some 71), .pick (.t 68) (.k (.s (.b true))) (.t 70), none⟩,
  ⟨(some 72), .mv (.t 71), none⟩,
  ⟨(some 73), .mv (.t 13), (some (72, false))⟩,
  ⟨(some 74), .un .not (.t 73), (some (72, false))⟩,
  ⟨(some 75), .pick (.t 72) (.k (.s (.b true))) (.t 74), none⟩,
  ⟨(some 76), .mv (.t 75), none⟩,
  ⟨(some 77), .mv (.t 8), (some (76, false))⟩,
  ⟨(some 78), .ia none 1 (.t 77) (.k (.s (.i .i64 0))), (some (76, false))⟩,
  ⟨(some 79), .ld (.t 78) none, (some (76, false))⟩,
  ⟨(some 80), .bin .gtr (.t 79) (.k (.s (.i .i64 5))), (some (76, false))⟩,
  ⟨(some 81), .pick (.t 76) (.k (.s (.b true))) (.t 80), none⟩,
  ⟨(some 82), .mv (.t 81), none⟩,
  ⟨(some 83), .mv (.t 8), (some (82, false))⟩,
  ⟨(some 84), .ia none 1 (.t 83) (.k (.s (.i .i64 2))), (some (82, false))⟩,
  ⟨(some 85), .ld (.t 84) none, (some (82, false))⟩,
  ⟨(some 86), .bin .gtr (.t 85) (.k (.s (.i .i64 5))), (some (82, false))⟩,
  ⟨(some 87), .pick (.t 82) (.k (.s (.b true))) (.t 86), none⟩])
  (.cond (.t 87)
  (.seq (.reg [⟨(some 88), .build [.i .i64 0, .i .i64 0, .i .i64 0, .b false, .i .i64 0, .i .i64 0, .i .i64 0, .i .i64 0, .b false, .b false, .i .i64 0, .i .i64 0, .i .i64 0, .i .i64 0, .i .u64 0, .i .u64 0, .i .u64 0, .i .u64 0, .i .u64 0, .i .u64 0, .i .u64 0, .i .u64 0, .i .u64 0, .i .u64 0, .i .u64 0, .i .u64 0, .i .u64 0, .i .u64 0, .i .u64 0, .i .u64 0] [], none⟩,
  ⟨none, .st (.t 4) (.t 88) 30, none⟩,
  ⟨(some 5), .mv (.k (.s (.i .i64 90))), none⟩])
  (.ret))
  (.skip)))
  (.seq (.drm [(true, ⟨(some 89), .mv (.t 8), none⟩),
  (true, ⟨(some 90), .ia none 1 (.t 89) (.k (.s (.i .i64 0))), none⟩),
  (true, ⟨(some 91), .ld (.t 90) none, none⟩),
  (true, ⟨(some 92), .mv (.t 8), none⟩),
  (true, ⟨(some 93), .ia none 1 (.t 92) (.k (.s (.i .i64 1))), none⟩),
  (true, ⟨(some 94), .ld (.t 93) none, none⟩),
  (true, ⟨(some 95), .mv (.t 8), none⟩),
  (true, ⟨(some 96), .ia none 1 (.t 95) (.k (.s (.i .i64 2))), none⟩),
  (true, ⟨(some 97), .ld (.t 96) none, none⟩),
  (true, ⟨(some 98), .mv (.t 8), none⟩),
  (true, ⟨(some 99), .ia none 1 (.t 98) (.k (.s (.i .i64 3))), none⟩),
  (true, ⟨(some 100), .ld (.t 99) none, none⟩),
  (true, ⟨(some 101), .bin .eql (.t 100) (.k (.s (.i .i64 1))), none⟩),
  (true, ⟨(some 102), .mv (.t 8), none⟩),
  (true, ⟨(some 103), .ia none 1 (.t 102) (.k (.s (.i .i64 4))), none⟩),
  (true, ⟨(some 104), .ld (.t 103) none, none⟩),
  (true, ⟨(some 105), .bin .eql (.t 104) (.k (.s (.i .i64 1))), none⟩),
  (true, ⟨(some 106), .mv (.t 8), none⟩),
  (true, ⟨(some 107), .ia none 1 (.t 106) (.k (.s (.i .i64 5))), none⟩),
  (true, ⟨(some 108), .ld (.t 107) none, none⟩),
  (true, ⟨(some 109), .bin .eql (.t 108) (.k (.s (.i .i64 1))), none⟩),
  (true, ⟨(some 110), .mv (.t 8), none⟩),
  (true, ⟨(some 111), .ia none 1 (.t 110) (.k (.s (.i .i64 6))), none⟩),
  (true, ⟨(some 112), .ld (.t 111) none, none⟩),
  (true, ⟨(some 113), .mv (.t 10), none⟩),
  (true, ⟨(some 114), .ia none 1 (.t 113) (.k (.s (.i .i64 0))), none⟩),
  (true, ⟨(some 115), .ld (.t 114) none, none⟩),
  (true, ⟨(some 116), .mv (.t 10), none⟩),
  (true, ⟨(some 117), .ia none 1 (.t 116) (.k (.s (.i .i64 1))), none⟩),
  (true, ⟨(some 118), .ld (.t 117) none, none⟩),
  (true, ⟨(some 119), .mv (.t 10), none⟩),
  (true, ⟨(some 120), .ia none 1 (.t 119) (.k (.s (.i .i64 2))), none⟩),
  (true, ⟨(some 121), .ld (.t 120) none, none⟩),
  (true, ⟨(some 122), .mv (.t 10), none⟩),
  (true, ⟨(some 123), .ia none 1 (.t 122) (.k (.s (.i .i64 3))), none⟩),
  (true, ⟨(some 124), .ld (.t 123) none, none⟩),
  (true, ⟨(some 125), .mv (.t 12), none⟩),
  (true, ⟨(some 126), .ia none 1 (.t 125) (.k (.s (.i .i64 0))), none⟩),
  (true, ⟨(some 127), .ld (.t 126) none, none⟩),
  (true, ⟨(some 128), .mv (.t 14), none⟩),
  (true, ⟨(some 129), .ia none 1 (.t 128) (.k (.s (.i .i64 0))), none⟩),
  (true, ⟨(some 130), .ld (.t 129) none, none⟩),
  (true, ⟨(some 131), .mv (.t 14), none⟩),
  (true, ⟨(some 132), .ia none 1 (.t 131) (.k (.s (.i .i64 1))), none⟩),
  (true, ⟨(some 133), .ld (.t 132) none, none⟩),
  (true, ⟨(some 134), .build [.i .i64 0, .i .i64 0, .i .i64 0, .b false, .i .i64 0, .i .i64 0, .i .i64 0, .i .i64 0, .b false, .b false, .i .i64 0, .i .i64 0, .i .i64 0, .i .i64 0, .i .u64 0, .i .u64 0, .i .u64 0, .i .u64 0, .i .u64 0, .i .u64 0, .i .u64 0, .i .u64 0, .i .u64 0, .i .u64 0, .i .u64 0, .i .u64 0, .i .u64 0, .i .u64 0, .i .u64 0, .i .u64 0] [(0, 1, (.t 91)), (1, 1, (.t 94)), (2, 1, (.t 97)), (3, 1, (.t 101)), (8, 1, (.t 105)), (9, 1, (.t 109)), (12, 1, (.t 112)), (4, 1, (.t 115)), (5, 1, (.t 118)), (6, 1, (.t 121)), (10, 1, (.t 124)), (7, 1, (.t 127)), (11, 1, (.t 130)), (13, 1, (.t 133))], none⟩),
  (false, ⟨(some 16), .new [.i .i64 0, .i .i64 0, .i .i64 0, .b false, .i .i64 0, .i .i64 0, .i .i64 0, .i .i64 0, .b false, .b false, .i .i64 0, .i .i64 0, .i .i64 0, .i .i64 0, .i .u64 0, .i .u64 0, .i .u64 0, .i .u64 0, .i .u64 0, .i .u64 0, .i .u64 0, .i .u64 0, .i .u64 0, .i .u64 0, .i .u64 0, .i .u64 0, .i .u64 0, .i .u64 0, .i .u64 0, .i .u64 0], none⟩),
  (false, ⟨none, .st (.t 16) (.t 134) 30, none⟩)])
  (.seq (.seq (.reg [⟨(some 135), .mv (.k (.s (.i .i64 0))), none⟩])
  (.block 2 (.loop (.seq (.reg [⟨(some 136), .bin .lss (.t 135) (.k (.s (.i .i64 16))), none⟩])
  (.seq (.cond (.t 136)
  (.skip)
  (.exit 2))
  (.seq (.block 3 (.seq (.reg [⟨(some 137), .mv (.t 135), none⟩,
  ⟨(some 17), .mv (.t 137), none⟩])
  (.reg [⟨(some 139), .mv (.t 17), none⟩,
  ⟨(some 140), .mv (.t 0), none⟩,
  ⟨(some 141), .mv (.t 1), none⟩,
  ⟨(some 142), .bin .add (.t 141) (.k (.s (.i .i64 32))), none⟩,
  ⟨(some 143), .mv (.t 17), none⟩,
  ⟨(some 144), .bin .add (.t 142) (.t 143), none⟩,
  ⟨(some 145), .call 70 [(.t 140), (.t 144)], none⟩,
  ⟨(some 138), .mv (.t 145), none⟩,
  ⟨(some 146), .ext (.t 138) 0, none⟩,
  ⟨(some 147), .ext (.t 138) 1, none⟩,
  ⟨(some 148), .fa (.t 16) 14, none⟩,
  ⟨(some 149), .ia (some 16) 1 (.t 148) (.t 139), none⟩,
  ⟨none, .st (.t 149) (.t 146) 1, none⟩])))
  (.reg [⟨(some 150), .bin .add (.t 135) (.k (.s (.i .i64 1))), none⟩,
  ⟨(some 135), .mv (.t 150), none⟩])))))))
  (.seq (.reg [⟨(some 151), .ld (.t 16) (some 30), none⟩,
  ⟨none, .st (.t 4) (.t 151) 30, none⟩,
  ⟨(some 5), .mv (.k (.s (.i .i64 0))), none⟩])
  (.ret)))))))))))), [.c 4 (some 30), .t 5]⟩
theorem dc33 : compF Try.prog Try.f33 = some df33 := by kernel_rfl
theorem ok33 : FnOk Try.prog 33 := ⟨Try.f33, Try.func33, by kernel_rfl, by kernel_rfl⟩

/-- citadel/objs.Root -/
def df37 : DF :=
  ⟨38, .seq (.reg [⟨(some 6), .mv (.k (.s (.i .i64 0))), none⟩,
  ⟨(some 7), .mv (.k (.s (.i .i64 0))), none⟩])
  (.seq (.reg [⟨(some 13), .mv (.t 0), none⟩,
  ⟨(some 14), .mv (.t 1), none⟩,
  ⟨(some 15), .mv (.t 2), none⟩,
  ⟨(some 16), .call 74 [(.t 13), (.t 14), (.t 15)], none⟩,
  ⟨(some 12), .mv (.t 16), none⟩,
  ⟨(some 17), .ext (.t 12) 0, none⟩,
  ⟨(some 18), .ext (.t 12) 1, none⟩,
  ⟨(some 8), .mv (.t 17), none⟩,
  ⟨(some 9), .mv (.t 18), none⟩])
  (.seq (.seq (.reg [⟨(some 19), .mv (.t 9), none⟩,
  ⟨(some 20), .bin .neq (.t 19) (.k (.s (.i .i64 0))), none⟩])
  (.cond (.t 20)
  (.seq (.reg [⟨(some 21), .mv (.t 9), none⟩,
  ⟨(some 6), .mv (.k (.s (.i .i64 0))), none⟩,
  ⟨(some 7), .mv (.t 21), none⟩])
  (.ret))
  (.skip)))
  (.seq (.reg [⟨(some 23), .mv (.t 0), none⟩,
  ⟨(some 24), .mv (.t 8), none⟩,
  ⟨(some 25), .call 70 [(.t 23), (.t 24)], none⟩,
  ⟨(some 22), .mv (.t 25), none⟩,
  ⟨(some 26), .ext (.t 22) 0, none⟩,
  ⟨(some 27), .ext (.t 22) 1, none⟩,
  ⟨(some 10), .mv (.t 26), none⟩,
  ⟨(some 11), .mv (.t 27), none⟩])
  (.seq (.seq (.reg [⟨(some 28), .mv (.t 10), none⟩,
  ⟨(some 29), .bin .gtr (.t 28) (.k (.s (.i .u64 65535))), none⟩,
  ⟨(some 30), .mv (.t 29), none⟩,
  ⟨(some 31), .mv (.t 10), (some (30, false))⟩,
  ⟨(some 32), .conv .i64 (.t 31), (some (30, false))⟩,
  ⟨(some 33), .call 76 [(.t 32)], (some (30, false))⟩,
  ⟨(some 34), .un .not (.t 33), (some (30, false))⟩,
  ⟨(some 35), .pick (.t 30) (.k (.s (.b true))) (.t 34), none⟩])
  (.cond (.t 35)
  (.seq (.reg [⟨(some 6), .mv (.k (.s (.i .i64 0))), none⟩,
  ⟨(some 7), .mv (.k (.s (.i .i64 90))), none⟩])
  (.ret))
  (.skip)))
  (.seq (.reg [⟨(some 36), .mv (.t 10), none⟩,
  ⟨(some 37), .conv .i64 (.t 36), none⟩,
  ⟨(some 6), .mv (.t 37), none⟩,
  ⟨(some 7), .mv (.k (.s (.i .i64 0))), none⟩])
  (.ret)))))), [.t 6, .t 7]⟩
theorem dc37 : compF Try.prog Try.f37 = some df37 := by kernel_rfl
theorem ok37 : FnOk Try.prog 37 := ⟨Try.f37, Try.func37, by kernel_rfl, by kernel_rfl⟩

/-- (*citadel/mem.Memory).Fill -/
def df38 : DF :=
  ⟨39, .seq (.reg [⟨(some 8), .mv (.k (.s (.i .i64 0))), none⟩])
  (.seq (.reg [⟨(some 13), .mv (.t 0), none⟩,
  ⟨(some 14), .mv (.t 1), none⟩,
  ⟨(some 15), .mv (.t 2), none⟩,
  ⟨(some 16), .call 60 [(.t 13), (.t 14), (.t 15)], none⟩,
  ⟨(some 12), .mv (.t 16), none⟩,
  ⟨(some 17), .ext (.t 12) 0, none⟩,
  ⟨(some 18), .ext (.t 12) 1, none⟩,
  ⟨(some 9), .mv (.t 17), none⟩,
  ⟨(some 10), .mv (.t 18), none⟩])
  (.seq (.seq (.reg [⟨(some 19), .mv (.t 10), none⟩,
  ⟨(some 20), .un .not (.t 19), none⟩])
  (.cond (.t 20)
  (.seq (.reg [⟨(some 8), .mv (.k (.s (.i .i64 20))), none⟩])
  (.ret))
  (.skip)))
  (.seq (.seq (.reg [⟨(some 21), .mv (.t 9), none⟩,
  ⟨(some 22), .len (.t 21), none⟩,
  ⟨(some 23), .mv (.k (.s (.i .i64 0))), none⟩])
  (.block 0 (.loop (.seq (.reg [⟨(some 24), .bin .lss (.t 23) (.t 22), none⟩])
  (.seq (.cond (.t 24)
  (.skip)
  (.exit 0))
  (.seq (.block 1 (.seq (.reg [⟨(some 25), .mv (.t 23), none⟩,
  ⟨(some 11), .mv (.t 25), none⟩])
  (.reg [⟨(some 26), .mv (.t 9), none⟩,
  ⟨(some 27), .mv (.t 11), none⟩,
  ⟨(some 28), .mv (.t 3), none⟩,
  ⟨(some 29), .ia none 1 (.t 26) (.t 27), none⟩,
  ⟨none, .st (.t 29) (.t 28) 1, none⟩])))
  (.reg [⟨(some 30), .bin .add (.t 23) (.k (.s (.i .i64 1))), none⟩,
  ⟨(some 23), .mv (.t 30), none⟩])))))))
  (.seq (.reg [⟨(some 31), .mv (.t 0), none⟩,
  ⟨(some 32), .nil (.t 31), none⟩,
  ⟨(some 33), .fa (.t 32) 1, none⟩,
  ⟨(some 34), .ld (.t 33) none, none⟩,
  ⟨(some 35), .mv (.t 2), none⟩,
  ⟨(some 36), .bin .add (.t 34) (.t 35), none⟩,
  ⟨(some 37), .nil (.t 31), none⟩,
  ⟨(some 38), .fa (.t 37) 1, none⟩,
  ⟨none, .st (.t 38) (.t 36) 1, none⟩])
  (.seq (.reg [⟨(some 8), .mv (.k (.s (.i .i64 0))), none⟩])
  (.ret)))))), [.t 8]⟩
theorem dc38 : compF Try.prog Try.f38 = some df38 := by kernel_rfl
theorem ok38 : FnOk Try.prog 38 := ⟨Try.f38, Try.func38, by kernel_rfl, by kernel_rfl⟩

/-- citadel/objs.SetThread -/
def df39 : DF :=
  ⟨51, .seq (.reg [⟨(some 5), .box (.t 2), none⟩,
  ⟨(some 6), .mv (.k (.s (.i .i64 0))), none⟩])
  (.seq (.seq (.reg [⟨(some 13), .mv (.t 0), none⟩,
  ⟨(some 14), .mv (.t 1), none⟩,
  ⟨(some 15), .call 69 [(.t 13), (.t 14), (.k (.s (.i .i64 64)))], none⟩,
  ⟨(some 16), .un .not (.t 15), none⟩])
  (.cond (.t 16)
  (.seq (.reg [⟨(some 6), .mv (.k (.s (.i .i64 20))), none⟩])
  (.ret))
  (.skip)))
  (.seq (.reg [⟨(some 18), .ld (.t 5) (some 30), none⟩,
  ⟨(some 19), .call 77 [(.t 18)], none⟩,
  ⟨(some 17), .mv (.t 19), none⟩,
  ⟨(some 20), .ext (.t 17) 0, none⟩,
  ⟨(some 21), .ext (.t 17) 1, none⟩,
  ⟨(some 7), .new [.i .u64 0, .i .u64 0, .i .u64 0, .i .u64 0], none⟩,
  ⟨none, .st (.t 7) (.t 20) 4, none⟩,
  ⟨(some 8), .mv (.t 21), none⟩])
  (.seq (.seq (.reg [⟨(some 22), .mv (.t 8), none⟩,
  ⟨(some 23), .un .not (.t 22), none⟩])
  (.cond (.t 23)
  (.seq (.reg [⟨(some 6), .mv (.k (.s (.i .i64 90))), none⟩])
  (.ret))
  (.skip)))
  (.seq (.seq (.reg [⟨(some 24), .ld (.t 7) (some 4), none⟩,
  ⟨(some 25), .mv (.k (.s (.i .i64 0))), none⟩])
  (.block 0 (.loop (.seq (.reg [⟨(some 26), .bin .lss (.t 25) (.k (.s (.i .i64 4))), none⟩])
  (.seq (.cond (.t 26)
  (.skip)
  (.exit 0))
  (.seq (.block 1 (.seq (.reg [⟨(some 27), .mv (.t 25), none⟩,
  ⟨(some 28), .ix 4 1 none (.t 24) (.t 25), none⟩,
  ⟨(some 9), .mv (.t 27), none⟩,
  ⟨(some 10), .mv (.t 28), none⟩])
  (.reg [⟨(some 29), .mv (.t 0), none⟩,
  ⟨(some 30), .mv (.t 1), none⟩,
  ⟨(some 31), .bin .add (.t 30) (.k (.s (.i .i64 16))), none⟩,
  ⟨(some 32), .mv (.t 9), none⟩,
  ⟨(some 33), .bin .add (.t 31) (.t 32), none⟩,
  ⟨(some 34), .mv (.t 10), none⟩,
  ⟨(some 35), .call 78 [(.t 29), (.t 33), (.t 34)], none⟩])))
  (.reg [⟨(some 36), .bin .add (.t 25) (.k (.s (.i .i64 1))), none⟩,
  ⟨(some 25), .mv (.t 36), none⟩])))))))
  (.seq (.seq (.reg [⟨(some 37), .fa (.t 5) 14, none⟩,
  ⟨(some 38), .ld (.t 37) (some 16), none⟩,
  ⟨(some 39), .mv (.k (.s (.i .i64 0))), none⟩])
  (.block 2 (.loop (.seq (.reg [⟨(some 40), .bin .lss (.t 39) (.k (.s (.i .i64 16))), none⟩])
  (.seq (.cond (.t 40)
  (.skip)
  (.exit 2))
  (.seq (.block 3 (.seq (.reg [⟨(some 41), .mv (.t 39), none⟩,
  ⟨(some 42), .ix 16 1 none (.t 38) (.t 39), none⟩,
  ⟨(some 11), .mv (.t 41), none⟩,
  ⟨(some 12), .mv (.t 42), none⟩])
  (.reg [⟨(some 43), .mv (.t 0), none⟩,
  ⟨(some 44), .mv (.t 1), none⟩,
  ⟨(some 45), .bin .add (.t 44) (.k (.s (.i .i64 32))), none⟩,
  ⟨(some 46), .mv (.t 11), none⟩,
  ⟨(some 47), .bin .add (.t 45) (.t 46), none⟩,
  ⟨(some 48), .mv (.t 12), none⟩,
  ⟨(some 49), .call 78 [(.t 43), (.t 47), (.t 48)], none⟩])))
  (.reg [⟨(some 50), .bin .add (.t 39) (.k (.s (.i .i64 1))), none⟩,
  ⟨(some 39), .mv (.t 50), none⟩])))))))
  (.seq (.reg [⟨(some 6), .mv (.k (.s (.i .i64 0))), none⟩])
  (.ret))))))), [.t 6]⟩
theorem dc39 : compF Try.prog Try.f39 = some df39 := by kernel_rfl
theorem ok39 : FnOk Try.prog 39 := ⟨Try.f39, Try.func39, by kernel_rfl, by kernel_rfl⟩

/-- citadel/objs.SetReg -/
def df40 : DF :=
  ⟨25, .seq (.reg [⟨(some 8), .mv (.k (.s (.i .i64 0))), none⟩])
  (.seq (.reg [⟨(some 12), .mv (.t 0), none⟩,
  ⟨(some 13), .mv (.t 1), none⟩,
  ⟨(some 14), .mv (.t 2), none⟩,
  ⟨(some 15), .call 79 [(.t 12), (.t 13), (.t 14)], none⟩,
  ⟨(some 11), .mv (.t 15), none⟩,
  ⟨(some 16), .ext (.t 11) 0, none⟩,
  ⟨(some 17), .ext (.t 11) 1, none⟩,
  ⟨(some 9), .mv (.t 16), none⟩,
  ⟨(some 10), .mv (.t 17), none⟩])
  (.seq (.seq (.reg [⟨(some 18), .mv (.t 10), none⟩,
  ⟨(some 19), .bin .neq (.t 18) (.k (.s (.i .i64 0))), none⟩])
  (.cond (.t 19)
  (.seq (.reg [⟨(some 20), .mv (.t 10), none⟩,
  ⟨(some 8), .mv (.t 20), none⟩])
  (.ret))
  (.skip)))
  (.seq (.reg [⟨(some 21), .mv (.t 0), none⟩,
  ⟨(some 22), .mv (.t 9), none⟩,
  ⟨(some 23), .mv (.t 3), none⟩,
  ⟨(some 24), .call 78 [(.t 21), (.t 22), (.t 23)], none⟩,
  ⟨(some 8), .mv (.t 24), none⟩])
  (.ret)))), [.t 8]⟩
theorem dc40 : compF Try.prog Try.f40 = some df40 := by kernel_rfl
theorem ok40 : FnOk Try.prog 40 := ⟨Try.f40, Try.func40, by kernel_rfl, by kernel_rfl⟩

/-- citadel/objs.SetQueue -/
def df42 : DF :=
  ⟨38, .seq (.reg [⟨(some 5), .box (.t 2), none⟩,
  ⟨(some 6), .mv (.k (.s (.i .i64 0))), none⟩])
  (.seq (.seq (.reg [⟨(some 9), .mv (.t 0), none⟩,
  ⟨(some 10), .mv (.t 1), none⟩,
  ⟨(some 11), .call 69 [(.t 9), (.t 10), (.k (.s (.i .i64 4)))], none⟩,
  ⟨(some 12), .un .not (.t 11), none⟩])
  (.cond (.t 12)
  (.seq (.reg [⟨(some 6), .mv (.k (.s (.i .i64 20))), none⟩])
  (.ret))
  (.skip)))
  (.seq (.reg [⟨(some 14), .fa (.t 5) 0, none⟩,
  ⟨(some 15), .ld (.t 14) none, none⟩,
  ⟨(some 16), .build [.i .i64 0, .i .i64 0] [(0, 1, (.k (.s (.i .i64 2)))), (1, 1, (.t 15))], none⟩,
  ⟨(some 17), .fa (.t 5) 1, none⟩,
  ⟨(some 18), .ld (.t 17) none, none⟩,
  ⟨(some 19), .build [.i .i64 0, .i .i64 0] [(0, 1, (.k (.s (.i .i64 16)))), (1, 1, (.t 18))], none⟩,
  ⟨(some 20), .fa (.t 5) 2, none⟩,
  ⟨(some 21), .ld (.t 20) none, none⟩,
  ⟨(some 22), .build [.i .i64 0, .i .i64 0] [(0, 1, (.k (.s (.i .i64 16)))), (1, 1, (.t 21))], none⟩,
  ⟨(some 23), .bsl 3 [.i .i64 0, .i .i64 0, .i .i64 0, .i .i64 0, .i .i64 0, .i .i64 0] [(0, 2, (.t 16)), (2, 2, (.t 19)), (4, 2, (.t 22))], none⟩,
  ⟨(some 24), .call 80 [(.t 23)], none⟩,
  ⟨(some 13), .mv (.t 24), none⟩,
  ⟨(some 25), .ext (.t 13) 0, none⟩,
  ⟨(some 26), .ext (.t 13) 1, none⟩,
  ⟨(some 7), .mv (.t 25), none⟩,
  ⟨(some 8), .mv (.t 26), none⟩])
  (.seq (.seq (.reg [⟨(some 27), .mv (.t 8), none⟩,
  ⟨(some 28), .un .not (.t 27), none⟩,
  ⟨(some 29), .mv (.t 28), none⟩,
  ⟨(some 30), .ld (.t 5) (some 3), (some (29, false))⟩,
  ⟨(some 31), .call 72 [(.t 30)], (some (29, false))⟩,
  ⟨(some 32), .un .not (.t 31), (some (29, false))⟩,
  ⟨(some 33), .pick (.t 29) (.k (.s (.b true))) (.t 32), none⟩])
  (.cond (.t 33)
  (.seq (.reg [⟨(some 6), .mv (.k (.s (.i .i64 90))), none⟩])
  (.ret))
  (.skip)))
  (.seq (.reg [⟨(some 34), .mv (.t 0), none⟩,
  ⟨(some 35), .mv (.t 1), none⟩,
  ⟨(some 36), .mv (.t 7), none⟩,
  ⟨(some 37), .call 78 [(.t 34), (.t 35), (.t 36)], none⟩,
  ⟨(some 6), .mv (.t 37), none⟩])
  (.ret))))), [.t 6]⟩
theorem dc42 : compF Try.prog Try.f42 = some df42 := by kernel_rfl
theorem ok42 : FnOk Try.prog 42 := ⟨Try.f42, Try.func42, by kernel_rfl, by kernel_rfl⟩

/-- citadel/objs.SetSignal -/
def df43 : DF :=
  ⟨60, .seq (.reg [⟨(some 5), .box (.t 2), none⟩,
  ⟨(some 6), .mv (.k (.s (.i .i64 0))), none⟩])
  (.seq (.seq (.reg [⟨(some 11), .mv (.t 0), none⟩,
  ⟨(some 12), .mv (.t 1), none⟩,
  ⟨(some 13), .call 69 [(.t 11), (.t 12), (.k (.s (.i .i64 8)))], none⟩,
  ⟨(some 14), .un .not (.t 13), none⟩])
  (.cond (.t 14)
  (.seq (.reg [⟨(some 6), .mv (.k (.s (.i .i64 20))), none⟩])
  (.ret))
  (.skip)))
  (.seq (.reg [⟨(some 16), .fa (.t 5) 0, none⟩,
  ⟨(some 17), .ld (.t 16) none, none⟩,
  ⟨(some 18), .build [.i .i64 0, .i .i64 0] [(0, 1, (.k (.s (.i .i64 2)))), (1, 1, (.t 17))], none⟩,
  ⟨(some 19), .fa (.t 5) 1, none⟩,
  ⟨(some 20), .ld (.t 19) none, none⟩,
  ⟨(some 21), .build [.i .i64 0, .i .i64 0] [(0, 1, (.k (.s (.i .i64 16)))), (1, 1, (.t 20))], none⟩,
  ⟨(some 22), .fa (.t 5) 2, none⟩,
  ⟨(some 23), .ld (.t 22) none, none⟩,
  ⟨(some 24), .build [.i .i64 0, .i .i64 0] [(0, 1, (.k (.s (.i .i64 16)))), (1, 1, (.t 23))], none⟩,
  ⟨(some 25), .bsl 3 [.i .i64 0, .i .i64 0, .i .i64 0, .i .i64 0, .i .i64 0, .i .i64 0] [(0, 2, (.t 18)), (2, 2, (.t 21)), (4, 2, (.t 24))], none⟩,
  ⟨(some 26), .call 80 [(.t 25)], none⟩,
  ⟨(some 15), .mv (.t 26), none⟩,
  ⟨(some 27), .ext (.t 15) 0, none⟩,
  ⟨(some 28), .ext (.t 15) 1, none⟩,
  ⟨(some 7), .mv (.t 27), none⟩,
  ⟨(some 8), .mv (.t 28), none⟩])
  (.seq (.reg [⟨(some 30), .fa (.t 5) 3, none⟩,
  ⟨(some 31), .ld (.t 30) none, none⟩,
  ⟨(some 32), .build [.i .i64 0, .i .i64 0] [(0, 1, (.k (.s (.i .i64 28)))), (1, 1, (.t 31))], none⟩,
  ⟨(some 33), .fa (.t 5) 4, none⟩,
  ⟨(some 34), .ld (.t 33) none, none⟩,
  ⟨(some 35), .build [.i .i64 0, .i .i64 0] [(0, 1, (.k (.s (.i .i64 16)))), (1, 1, (.t 34))], none⟩,
  ⟨(some 36), .bsl 2 [.i .i64 0, .i .i64 0, .i .i64 0, .i .i64 0] [(0, 2, (.t 32)), (2, 2, (.t 35))], none⟩,
  ⟨(some 37), .call 80 [(.t 36)], none⟩,
  ⟨(some 29), .mv (.t 37), none⟩,
  ⟨(some 38), .ext (.t 29) 0, none⟩,
  ⟨(some 39), .ext (.t 29) 1, none⟩,
  ⟨(some 9), .mv (.t 38), none⟩,
  ⟨(some 10), .mv (.t 39), none⟩])
  (.seq (.seq (.reg [⟨(some 40), .mv (.t 8), none⟩,
  ⟨(some 41), .un .not (.t 40), none⟩,
  ⟨(some 42), .mv (.t 41), none⟩,
  ⟨(some 43), .mv (.t 10), (some (42, false))⟩,
  ⟨(some 44), .un .not (.t 43), (some (42, false))⟩,
  ⟨(some 45), .pick (.t 42) (.k (.s (.b true))) (.t 44), none⟩,
  ⟨(some 46), .mv (.t 45), none⟩,
  ⟨(some 47), .ld (.t 5) (some 5), (some (46, false))⟩,
  ⟨(some 48), .call 73 [(.t 47)], (some (46, false))⟩,
  ⟨(some 49), .un .not (.t 48), (some (46, false))⟩,
  ⟨(some 50), .pick (.t 46) (.k (.s (.b true))) (.t 49), none⟩])
  (.cond (.t 50)
  (.seq (.reg [⟨(some 6), .mv (.k (.s (.i .i64 90))), none⟩])
  (.ret))
  (.skip)))
  (.seq (.reg [⟨(some 51), .mv (.t 0), none⟩,
  ⟨(some 52), .mv (.t 1), none⟩,
  ⟨(some 53), .mv (.t 7), none⟩,
  ⟨(some 54), .call 78 [(.t 51), (.t 52), (.t 53)], none⟩])
  (.seq (.reg [⟨(some 55), .mv (.t 0), none⟩,
  ⟨(some 56), .mv (.t 1), none⟩,
  ⟨(some 57), .bin .add (.t 56) (.k (.s (.i .i64 1))), none⟩,
  ⟨(some 58), .mv (.t 9), none⟩,
  ⟨(some 59), .call 78 [(.t 55), (.t 57), (.t 58)], none⟩,
  ⟨(some 6), .mv (.t 59), none⟩])
  (.ret))))))), [.t 6]⟩
theorem dc43 : compF Try.prog Try.f43 = some df43 := by kernel_rfl
theorem ok43 : FnOk Try.prog 43 := ⟨Try.f43, Try.func43, by kernel_rfl, by kernel_rfl⟩

/-- citadel/objs.SetEntry -/
def df44 : DF :=
  ⟨33, .seq (.reg [⟨(some 7), .box (.t 3), none⟩,
  ⟨(some 8), .mv (.k (.s (.i .i64 0))), none⟩])
  (.seq (.reg [⟨(some 13), .mv (.t 0), none⟩,
  ⟨(some 14), .mv (.t 1), none⟩,
  ⟨(some 15), .mv (.t 2), none⟩,
  ⟨(some 16), .call 74 [(.t 13), (.t 14), (.t 15)], none⟩,
  ⟨(some 12), .mv (.t 16), none⟩,
  ⟨(some 17), .ext (.t 12) 0, none⟩,
  ⟨(some 18), .ext (.t 12) 1, none⟩,
  ⟨(some 9), .mv (.t 17), none⟩,
  ⟨(some 10), .mv (.t 18), none⟩])
  (.seq (.seq (.reg [⟨(some 19), .mv (.t 10), none⟩,
  ⟨(some 20), .bin .neq (.t 19) (.k (.s (.i .i64 0))), none⟩])
  (.cond (.t 20)
  (.seq (.reg [⟨(some 21), .mv (.t 10), none⟩,
  ⟨(some 8), .mv (.t 21), none⟩])
  (.ret))
  (.skip)))
  (.seq (.reg [⟨(some 23), .ld (.t 7) (some 4), none⟩,
  ⟨(some 24), .call 81 [(.t 23)], none⟩,
  ⟨(some 22), .mv (.t 24), none⟩,
  ⟨(some 25), .ext (.t 22) 0, none⟩,
  ⟨(some 26), .ext (.t 22) 1, none⟩,
  ⟨(some 11), .mv (.t 25), none⟩,
  ⟨(some 10), .mv (.t 26), none⟩])
  (.seq (.seq (.reg [⟨(some 27), .mv (.t 10), none⟩,
  ⟨(some 28), .bin .neq (.t 27) (.k (.s (.i .i64 0))), none⟩])
  (.cond (.t 28)
  (.seq (.reg [⟨(some 8), .mv (.k (.s (.i .i64 90))), none⟩])
  (.ret))
  (.skip)))
  (.seq (.reg [⟨(some 29), .mv (.t 0), none⟩,
  ⟨(some 30), .mv (.t 9), none⟩,
  ⟨(some 31), .mv (.t 11), none⟩,
  ⟨(some 32), .call 78 [(.t 29), (.t 30), (.t 31)], none⟩,
  ⟨(some 8), .mv (.t 32), none⟩])
  (.ret)))))), [.t 8]⟩
theorem dc44 : compF Try.prog Try.f44 = some df44 := by kernel_rfl
theorem ok44 : FnOk Try.prog 44 := ⟨Try.f44, Try.func44, by kernel_rfl, by kernel_rfl⟩

/-- citadel/objs.SetRoot -/
def df45 : DF :=
  ⟨29, .seq (.reg [⟨(some 8), .mv (.k (.s (.i .i64 0))), none⟩])
  (.seq (.reg [⟨(some 12), .mv (.t 0), none⟩,
  ⟨(some 13), .mv (.t 1), none⟩,
  ⟨(some 14), .mv (.t 2), none⟩,
  ⟨(some 15), .call 74 [(.t 12), (.t 13), (.t 14)], none⟩,
  ⟨(some 11), .mv (.t 15), none⟩,
  ⟨(some 16), .ext (.t 11) 0, none⟩,
  ⟨(some 17), .ext (.t 11) 1, none⟩,
  ⟨(some 9), .mv (.t 16), none⟩,
  ⟨(some 10), .mv (.t 17), none⟩])
  (.seq (.seq (.reg [⟨(some 18), .mv (.t 10), none⟩,
  ⟨(some 19), .bin .neq (.t 18) (.k (.s (.i .i64 0))), none⟩])
  (.cond (.t 19)
  (.seq (.reg [⟨(some 20), .mv (.t 10), none⟩,
  ⟨(some 8), .mv (.t 20), none⟩])
  (.ret))
  (.skip)))
  (.seq (.seq (.reg [⟨(some 21), .mv (.t 3), none⟩,
  ⟨(some 22), .call 76 [(.t 21)], none⟩,
  ⟨(some 23), .un .not (.t 22), none⟩])
  (.cond (.t 23)
  (.seq (.reg [⟨(some 8), .mv (.k (.s (.i .i64 90))), none⟩])
  (.ret))
  (.skip)))
  (.seq (.reg [⟨(some 24), .mv (.t 0), none⟩,
  ⟨(some 25), .mv (.t 9), none⟩,
  ⟨(some 26), .mv (.t 3), none⟩,
  ⟨(some 27), .conv .u64 (.t 26), none⟩,
  ⟨(some 28), .call 78 [(.t 24), (.t 25), (.t 27)], none⟩,
  ⟨(some 8), .mv (.t 28), none⟩])
  (.ret))))), [.t 8]⟩
theorem dc45 : compF Try.prog Try.f45 = some df45 := by kernel_rfl
theorem ok45 : FnOk Try.prog 45 := ⟨Try.f45, Try.func45, by kernel_rfl, by kernel_rfl⟩

/-- (*citadel/mem.Memory).span -/
def df60 : DF :=
  ⟨43, .seq (.reg [⟨(some 6), .mv (.k (.s (.ns))), none⟩,
  ⟨(some 7), .mv (.k (.s (.b false))), none⟩])
  (.seq (.seq (.reg [⟨(some 8), .mv (.t 1), none⟩,
  ⟨(some 9), .bin .lss (.t 8) (.k (.s (.i .i64 0))), none⟩,
  ⟨(some 10), .mv (.t 9), none⟩,
  ⟨(some 11), .mv (.t 2), (some (10, false))⟩,
  ⟨(some 12), .bin .lss (.t 11) (.k (.s (.i .i64 0))), (some (10, false))⟩,
  ⟨(some 13), .pick (.t 10) (.k (.s (.b true))) (.t 12), none⟩,
  ⟨(some 14), .mv (.t 13), none⟩,
  ⟨(some 15), .mv (.t 1), (some (14, false))⟩,
  ⟨(some 16), .mv (.t 0), (some (14, false))⟩,
  ⟨(some 17), .nil (.t 16), (some (14, false))⟩,
  ⟨(some 18), .fa (.t 17) 0, (some (14, false))⟩,
  ⟨(some 19), .ld (.t 18) none, (some (14, false))⟩,
  ⟨(some 20), .len (.t 19), (some (14, false))⟩,
  ⟨(some 21), .bin .gtr (.t 15) (.t 20), (some (14, false))⟩,
  ⟨(some 22), .pick (.t 14) (.k (.s (.b true))) (.t 21), none⟩,
  ⟨(some 23), .mv (.t 22), none⟩,
  ⟨(some 24), .mv (.t 2), (some (23, false))⟩,
  ⟨(some 25), .mv (.t 0), (some (23, false))⟩,
  ⟨(some 26), .nil (.t 25), (some (23, false))⟩,
  ⟨(some 27), .fa (.t 26) 0, (some (23, false))⟩,
  ⟨(some 28), .ld (.t 27) none, (some (23, false))⟩,
  ⟨(some 29), .len (.t 28), (some (23, false))⟩,
  ⟨(some 30), .mv (.t 1), (some (23, false))⟩,
  ⟨(some 31), .bin .sub (.t 29) (.t 30), (some (23, false))⟩,
  ⟨(some 32), .bin .gtr (.t 24) (.t 31), (some (23, false))⟩,
  ⟨(some 33), .pick (.t 23) (.k (.s (.b true))) (.t 32), none⟩])
  (.cond (.t 33)
  (.seq (.reg [⟨(some 6), .mv (.k (.s (.ns))), none⟩,
  ⟨(some 7), .mv (.k (.s (.b false))), none⟩])
  (.ret))
  (.skip)))
  (.seq (.reg [⟨(some 34), .mv (.t 0), none⟩,
  ⟨(some 35), .nil (.t 34), none⟩,
  ⟨(some 36), .fa (.t 35) 0, none⟩,
  ⟨(some 37), .ld (.t 36) none, none⟩,
  ⟨(some 38), .mv (.t 1), none⟩,
  ⟨(some 39), .mv (.t 1), none⟩,
  ⟨(some 40), .mv (.t 2), none⟩,
  ⟨(some 41), .bin .add (.t 39) (.t 40), none⟩,
  ⟨(some 42), .slc none 1 (.t 37) (some (.t 38)) (some (.t 41)), none⟩,
  ⟨(some 6), .mv (.t 42), none⟩,
  ⟨(some 7), .mv (.k (.s (.b true))), none⟩])
  (.ret))), [.t 6, .t 7]⟩
theorem dc60 : compF Try.prog Try.f60 = some df60 := by kernel_rfl
theorem ok60 : FnOk Try.prog 60 := ⟨Try.f60, Try.func60, by kernel_rfl, by kernel_rfl⟩

/-- slices.Clone[[]uint64,uint64] -/
def df61 : DF :=
  ⟨8, .seq (.reg [⟨(some 2), .mv (.k (.s (.ns))), none⟩])
  (.seq (.seq (.reg [⟨(some 3), .mv (.t 0), none⟩,
  ⟨(some 4), .eqn true false (.t 3), none⟩])
  (.cond (.t 4)
  (.seq (.reg [⟨(some 2), .mv (.k (.s (.ns))), none⟩])
  (.ret))
  (.skip)))
  (.seq (.reg [⟨(some 5), .bsl 0 [] [], none⟩,
  ⟨(some 6), .mv (.t 0), none⟩,
  ⟨(some 7), .app 1 8 (.t 5) (.t 6), none⟩,
  ⟨(some 2), .mv (.t 7), none⟩])
  (.ret))), [.t 2]⟩
theorem dc61 : compF Try.prog Try.f61 = some df61 := by kernel_rfl
theorem ok61 : FnOk Try.prog 61 := ⟨Try.f61, Try.func61, by kernel_rfl, by kernel_rfl⟩

/-- citadel/citadelref08.SetThread -/
def df62 : DF :=
  ⟨50, .seq (.reg [⟨(some 5), .box (.t 2), none⟩,
  ⟨(some 6), .mv (.k (.s (.i .i64 0))), none⟩])
  (.seq (.reg [⟨(some 12), .mv (.t 0), none⟩,
  ⟨(some 13), .mv (.t 1), none⟩,
  ⟨(some 14), .call 102 [(.t 12), (.t 13), (.k (.s (.i .i64 64)))], none⟩,
  ⟨(some 7), .mv (.t 14), none⟩])
  (.seq (.seq (.reg [⟨(some 15), .mv (.t 7), none⟩,
  ⟨(some 16), .un .not (.t 15), none⟩])
  (.cond (.t 16)
  (.seq (.reg [⟨(some 6), .mv (.k (.s (.i .i64 20))), none⟩])
  (.ret))
  (.skip)))
  (.seq (.reg [⟨(some 17), .ld (.t 5) (some 30), none⟩,
  ⟨(some 18), .call 103 [(.t 17)], none⟩,
  ⟨(some 8), .mv (.t 18), none⟩])
  (.seq (.seq (.reg [⟨(some 19), .mv (.t 8), none⟩,
  ⟨(some 20), .un .not (.t 19), none⟩])
  (.cond (.t 20)
  (.seq (.reg [⟨(some 6), .mv (.k (.s (.i .i64 90))), none⟩])
  (.ret))
  (.skip)))
  (.seq (.reg [⟨(some 21), .ld (.t 5) (some 30), none⟩,
  ⟨(some 22), .call 104 [(.t 21)], none⟩,
  ⟨(some 9), .new [.i .u64 0, .i .u64 0, .i .u64 0, .i .u64 0], none⟩,
  ⟨none, .st (.t 9) (.t 22) 4, none⟩])
  (.seq (.seq (.reg [⟨(some 10), .mv (.k (.s (.i .i64 0))), none⟩])
  (.block 0 (.loop (.seq (.seq (.reg [⟨(some 23), .mv (.t 10), none⟩,
  ⟨(some 24), .bin .lss (.t 23) (.k (.s (.i .i64 4))), none⟩])
  (.cond (.t 24)
  (.skip)
  (.exit 0)))
  (.seq (.block 1 (.reg [⟨(some 27), .mv (.t 0), none⟩,
  ⟨(some 28), .mv (.t 1), none⟩,
  ⟨(some 29), .bin .add (.t 28) (.k (.s (.i .i64 16))), none⟩,
  ⟨(some 30), .mv (.t 10), none⟩,
  ⟨(some 31), .bin .add (.t 29) (.t 30), none⟩,
  ⟨(some 32), .mv (.t 10), none⟩,
  ⟨(some 33), .ia (some 4) 1 (.t 9) (.t 32), none⟩,
  ⟨(some 34), .ld (.t 33) none, none⟩,
  ⟨(some 35), .call 91 [(.t 27), (.t 31), (.t 34)], none⟩]))
  (.reg [⟨(some 25), .mv (.t 10), none⟩,
  ⟨(some 26), .bin .add (.t 25) (.k (.s (.i .i64 1))), none⟩,
  ⟨(some 10), .mv (.t 26), none⟩]))))))
  (.seq (.seq (.reg [⟨(some 11), .mv (.k (.s (.i .i64 0))), none⟩])
  (.block 2 (.loop (.seq (.seq (.reg [⟨(some 36), .mv (.t 11), none⟩,
  ⟨(some 37), .bin .lss (.t 36) (.k (.s (.i .i64 16))), none⟩])
  (.cond (.t 37)
  (.skip)
  (.exit 2)))
  (.seq (.block 3 (.reg [⟨(some 40), .mv (.t 0), none⟩,
  ⟨(some 41), .mv (.t 1), none⟩,
  ⟨(some 42), .bin .add (.t 41) (.k (.s (.i .i64 32))), none⟩,
  ⟨(some 43), .mv (.t 11), none⟩,
  ⟨(some 44), .bin .add (.t 42) (.t 43), none⟩,
  ⟨(some 45), .mv (.t 11), none⟩,
  ⟨(some 46), .fa (.t 5) 14, none⟩,
  ⟨(some 47), .ia (some 16) 1 (.t 46) (.t 45), none⟩,
  ⟨(some 48), .ld (.t 47) none, none⟩,
  ⟨(some 49), .call 91 [(.t 40), (.t 44), (.t 48)], none⟩]))
  (.reg [⟨(some 38), .mv (.t 11), none⟩,
  ⟨(some 39), .bin .add (.t 38) (.k (.s (.i .i64 1))), none⟩,
  ⟨(some 11), .mv (.t 39), none⟩]))))))
  (.seq (.reg [⟨(some 6), .mv (.k (.s (.i .i64 0))), none⟩])
  (.ret))))))))), [.t 6]⟩
theorem dc62 : compF Try.prog Try.f62 = some df62 := by kernel_rfl
theorem ok62 : FnOk Try.prog 62 := ⟨Try.f62, Try.func62, by kernel_rfl, by kernel_rfl⟩

/-- citadel/citadelref08.SetReg -/
def df63 : DF :=
  ⟨28, .seq (.reg [⟨(some 8), .mv (.k (.s (.i .i64 0))), none⟩])
  (.seq (.reg [⟨(some 10), .mv (.t 0), none⟩,
  ⟨(some 11), .mv (.t 1), none⟩,
  ⟨(some 12), .call 102 [(.t 10), (.t 11), (.k (.s (.i .i64 64)))], none⟩,
  ⟨(some 9), .mv (.t 12), none⟩])
  (.seq (.seq (.reg [⟨(some 13), .mv (.t 9), none⟩,
  ⟨(some 14), .un .not (.t 13), none⟩])
  (.cond (.t 14)
  (.seq (.reg [⟨(some 8), .mv (.k (.s (.i .i64 20))), none⟩])
  (.ret))
  (.skip)))
  (.seq (.seq (.reg [⟨(some 15), .mv (.t 2), none⟩,
  ⟨(some 16), .bin .lss (.t 15) (.k (.s (.i .i64 0))), none⟩,
  ⟨(some 17), .mv (.t 16), none⟩,
  ⟨(some 18), .mv (.t 2), (some (17, false))⟩,
  ⟨(some 19), .bin .gtr (.t 18) (.k (.s (.i .i64 15))), (some (17, false))⟩,
  ⟨(some 20), .pick (.t 17) (.k (.s (.b true))) (.t 19), none⟩])
  (.cond (.t 20)
  (.seq (.reg [⟨(some 8), .mv (.k (.s (.i .i64 1))), none⟩])
  (.ret))
  (.skip)))
  (.seq (.reg [⟨(some 21), .mv (.t 0), none⟩,
  ⟨(some 22), .mv (.t 1), none⟩,
  ⟨(some 23), .bin .add (.t 22) (.k (.s (.i .i64 32))), none⟩,
  ⟨(some 24), .mv (.t 2), none⟩,
  ⟨(some 25), .bin .add (.t 23) (.t 24), none⟩,
  ⟨(some 26), .mv (.t 3), none⟩,
  ⟨(some 27), .call 91 [(.t 21), (.t 25), (.t 26)], none⟩,
  ⟨(some 8), .mv (.t 27), none⟩])
  (.ret))))), [.t 8]⟩
theorem dc63 : compF Try.prog Try.f63 = some df63 := by kernel_rfl
theorem ok63 : FnOk Try.prog 63 := ⟨Try.f63, Try.func63, by kernel_rfl, by kernel_rfl⟩

/-- citadel/citadelref08.SetQueue -/
def df64 : DF :=
  ⟨28, .seq (.reg [⟨(some 5), .box (.t 2), none⟩,
  ⟨(some 6), .mv (.k (.s (.i .i64 0))), none⟩])
  (.seq (.reg [⟨(some 9), .mv (.t 0), none⟩,
  ⟨(some 10), .mv (.t 1), none⟩,
  ⟨(some 11), .call 102 [(.t 9), (.t 10), (.k (.s (.i .i64 4)))], none⟩,
  ⟨(some 7), .mv (.t 11), none⟩])
  (.seq (.seq (.reg [⟨(some 12), .mv (.t 7), none⟩,
  ⟨(some 13), .un .not (.t 12), none⟩])
  (.cond (.t 13)
  (.seq (.reg [⟨(some 6), .mv (.k (.s (.i .i64 20))), none⟩])
  (.ret))
  (.skip)))
  (.seq (.reg [⟨(some 14), .ld (.t 5) (some 3), none⟩,
  ⟨(some 15), .call 105 [(.t 14)], none⟩,
  ⟨(some 8), .mv (.t 15), none⟩])
  (.seq (.seq (.reg [⟨(some 16), .mv (.t 8), none⟩,
  ⟨(some 17), .un .not (.t 16), none⟩])
  (.cond (.t 17)
  (.seq (.reg [⟨(some 6), .mv (.k (.s (.i .i64 90))), none⟩])
  (.ret))
  (.skip)))
  (.seq (.reg [⟨(some 18), .mv (.t 0), none⟩,
  ⟨(some 19), .mv (.t 1), none⟩,
  ⟨(some 20), .fa (.t 5) 0, none⟩,
  ⟨(some 21), .ld (.t 20) none, none⟩,
  ⟨(some 22), .fa (.t 5) 1, none⟩,
  ⟨(some 23), .ld (.t 22) none, none⟩,
  ⟨(some 24), .fa (.t 5) 2, none⟩,
  ⟨(some 25), .ld (.t 24) none, none⟩,
  ⟨(some 26), .call 106 [(.t 21), (.t 23), (.t 25)], none⟩,
  ⟨(some 27), .call 91 [(.t 18), (.t 19), (.t 26)], none⟩,
  ⟨(some 6), .mv (.t 27), none⟩])
  (.ret)))))), [.t 6]⟩
theorem dc64 : compF Try.prog Try.f64 = some df64 := by kernel_rfl
theorem ok64 : FnOk Try.prog 64 := ⟨Try.f64, Try.func64, by kernel_rfl, by kernel_rfl⟩

/-- citadel/citadelref08.SetSignal -/
def df65 : DF :=
  ⟨40, .seq (.reg [⟨(some 5), .box (.t 2), none⟩,
  ⟨(some 6), .mv (.k (.s (.i .i64 0))), none⟩])
  (.seq (.reg [⟨(some 9), .mv (.t 0), none⟩,
  ⟨(some 10), .mv (.t 1), none⟩,
  ⟨(some 11), .call 102 [(.t 9), (.t 10), (.k (.s (.i .i64 8)))], none⟩,
  ⟨(some 7), .mv (.t 11), none⟩])
  (.seq (.seq (.reg [⟨(some 12), .mv (.t 7), none⟩,
  ⟨(some 13), .un .not (.t 12), none⟩])
  (.cond (.t 13)
  (.seq (.reg [⟨(some 6), .mv (.k (.s (.i .i64 20))), none⟩])
  (.ret))
  (.skip)))
  (.seq (.reg [⟨(some 14), .ld (.t 5) (some 5), none⟩,
  ⟨(some 15), .call 107 [(.t 14)], none⟩,
  ⟨(some 8), .mv (.t 15), none⟩])
  (.seq (.seq (.reg [⟨(some 16), .mv (.t 8), none⟩,
  ⟨(some 17), .un .not (.t 16), none⟩])
  (.cond (.t 17)
  (.seq (.reg [⟨(some 6), .mv (.k (.s (.i .i64 90))), none⟩])
  (.ret))
  (.skip)))
  (.seq (.reg [⟨(some 18), .mv (.t 0), none⟩,
  ⟨(some 19), .mv (.t 1), none⟩,
  ⟨(some 20), .fa (.t 5) 0, none⟩,
  ⟨(some 21), .ld (.t 20) none, none⟩,
  ⟨(some 22), .fa (.t 5) 1, none⟩,
  ⟨(some 23), .ld (.t 22) none, none⟩,
  ⟨(some 24), .fa (.t 5) 2, none⟩,
  ⟨(some 25), .ld (.t 24) none, none⟩,
  ⟨(some 26), .call 106 [(.t 21), (.t 23), (.t 25)], none⟩,
  ⟨(some 27), .call 91 [(.t 18), (.t 19), (.t 26)], none⟩])
  (.seq (.reg [⟨(some 28), .mv (.t 0), none⟩,
  ⟨(some 29), .mv (.t 1), none⟩,
  ⟨(some 30), .bin .add (.t 29) (.k (.s (.i .i64 1))), none⟩,
  ⟨(some 31), .fa (.t 5) 3, none⟩,
  ⟨(some 32), .ld (.t 31) none, none⟩,
  ⟨(some 33), .conv .u64 (.t 32), none⟩,
  ⟨(some 34), .fa (.t 5) 4, none⟩,
  ⟨(some 35), .ld (.t 34) none, none⟩,
  ⟨(some 36), .conv .u64 (.t 35), none⟩,
  ⟨(some 37), .bin .shl (.t 36) (.k (.s (.i .u64 28))), none⟩,
  ⟨(some 38), .bin .add (.t 33) (.t 37), none⟩,
  ⟨(some 39), .call 91 [(.t 28), (.t 30), (.t 38)], none⟩])
  (.seq (.reg [⟨(some 6), .mv (.k (.s (.i .i64 0))), none⟩])
  (.ret)))))))), [.t 6]⟩
theorem dc65 : compF Try.prog Try.f65 = some df65 := by kernel_rfl
theorem ok65 : FnOk Try.prog 65 := ⟨Try.f65, Try.func65, by kernel_rfl, by kernel_rfl⟩

/-- citadel/citadelref08.SetEntry -/
def df66 : DF :=
  ⟨36, .seq (.reg [⟨(some 7), .box (.t 3), none⟩,
  ⟨(some 8), .mv (.k (.s (.i .i64 0))), none⟩])
  (.seq (.reg [⟨(some 12), .mv (.t 0), none⟩,
  ⟨(some 13), .mv (.t 1), none⟩,
  ⟨(some 14), .call 102 [(.t 12), (.t 13), (.k (.s (.i .i64 8)))], none⟩,
  ⟨(some 9), .mv (.t 14), none⟩])
  (.seq (.seq (.reg [⟨(some 15), .mv (.t 9), none⟩,
  ⟨(some 16), .un .not (.t 15), none⟩])
  (.cond (.t 16)
  (.seq (.reg [⟨(some 8), .mv (.k (.s (.i .i64 20))), none⟩])
  (.ret))
  (.skip)))
  (.seq (.seq (.reg [⟨(some 17), .mv (.t 2), none⟩,
  ⟨(some 18), .bin .lss (.t 17) (.k (.s (.i .i64 0))), none⟩,
  ⟨(some 19), .mv (.t 18), none⟩,
  ⟨(some 20), .mv (.t 2), (some (19, false))⟩,
  ⟨(some 21), .bin .gtr (.t 20) (.k (.s (.i .i64 7))), (some (19, false))⟩,
  ⟨(some 22), .pick (.t 19) (.k (.s (.b true))) (.t 21), none⟩])
  (.cond (.t 22)
  (.seq (.reg [⟨(some 8), .mv (.k (.s (.i .i64 1))), none⟩])
  (.ret))
  (.skip)))
  (.seq (.reg [⟨(some 24), .ld (.t 7) (some 4), none⟩,
  ⟨(some 25), .call 108 [(.t 24)], none⟩,
  ⟨(some 23), .mv (.t 25), none⟩,
  ⟨(some 26), .ext (.t 23) 0, none⟩,
  ⟨(some 27), .ext (.t 23) 1, none⟩,
  ⟨(some 10), .mv (.t 26), none⟩,
  ⟨(some 11), .mv (.t 27), none⟩])
  (.seq (.seq (.reg [⟨(some 28), .mv (.t 11), none⟩,
  ⟨(some 29), .bin .neq (.t 28) (.k (.s (.i .i64 0))), none⟩])
  (.cond (.t 29)
  (.seq (.reg [⟨(some 8), .mv (.k (.s (.i .i64 90))), none⟩])
  (.ret))
  (.skip)))
  (.seq (.reg [⟨(some 30), .mv (.t 0), none⟩,
  ⟨(some 31), .mv (.t 1), none⟩,
  ⟨(some 32), .mv (.t 2), none⟩,
  ⟨(some 33), .bin .add (.t 31) (.t 32), none⟩,
  ⟨(some 34), .mv (.t 10), none⟩,
  ⟨(some 35), .call 91 [(.t 30), (.t 33), (.t 34)], none⟩,
  ⟨(some 8), .mv (.t 35), none⟩])
  (.ret))))))), [.t 8]⟩
theorem dc66 : compF Try.prog Try.f66 = some df66 := by kernel_rfl
theorem ok66 : FnOk Try.prog 66 := ⟨Try.f66, Try.func66, by kernel_rfl, by kernel_rfl⟩

/-- citadel/citadelref08.SetRoot -/
def df67 : DF :=
  ⟨33, .seq (.reg [⟨(some 8), .mv (.k (.s (.i .i64 0))), none⟩])
  (.seq (.reg [⟨(some 11), .mv (.t 0), none⟩,
  ⟨(some 12), .mv (.t 1), none⟩,
  ⟨(some 13), .call 102 [(.t 11), (.t 12), (.k (.s (.i .i64 8)))], none⟩,
  ⟨(some 9), .mv (.t 13), none⟩])
  (.seq (.seq (.reg [⟨(some 14), .mv (.t 9), none⟩,
  ⟨(some 15), .un .not (.t 14), none⟩])
  (.cond (.t 15)
  (.seq (.reg [⟨(some 8), .mv (.k (.s (.i .i64 20))), none⟩])
  (.ret))
  (.skip)))
  (.seq (.seq (.reg [⟨(some 16), .mv (.t 2), none⟩,
  ⟨(some 17), .bin .lss (.t 16) (.k (.s (.i .i64 0))), none⟩,
  ⟨(some 18), .mv (.t 17), none⟩,
  ⟨(some 19), .mv (.t 2), (some (18, false))⟩,
  ⟨(some 20), .bin .gtr (.t 19) (.k (.s (.i .i64 7))), (some (18, false))⟩,
  ⟨(some 21), .pick (.t 18) (.k (.s (.b true))) (.t 20), none⟩])
  (.cond (.t 21)
  (.seq (.reg [⟨(some 8), .mv (.k (.s (.i .i64 1))), none⟩])
  (.ret))
  (.skip)))
  (.seq (.reg [⟨(some 22), .mv (.t 3), none⟩,
  ⟨(some 23), .call 109 [(.t 22)], none⟩,
  ⟨(some 10), .mv (.t 23), none⟩])
  (.seq (.seq (.reg [⟨(some 24), .mv (.t 10), none⟩,
  ⟨(some 25), .un .not (.t 24), none⟩])
  (.cond (.t 25)
  (.seq (.reg [⟨(some 8), .mv (.k (.s (.i .i64 90))), none⟩])
  (.ret))
  (.skip)))
  (.seq (.reg [⟨(some 26), .mv (.t 0), none⟩,
  ⟨(some 27), .mv (.t 1), none⟩,
  ⟨(some 28), .mv (.t 2), none⟩,
  ⟨(some 29), .bin .add (.t 27) (.t 28), none⟩,
  ⟨(some 30), .mv (.t 3), none⟩,
  ⟨(some 31), .conv .u64 (.t 30), none⟩,
  ⟨(some 32), .call 91 [(.t 26), (.t 29), (.t 31)], none⟩,
  ⟨(some 8), .mv (.t 32), none⟩])
  (.ret))))))), [.t 8]⟩
theorem dc67 : compF Try.prog Try.f67 = some df67 := by kernel_rfl
theorem ok67 : FnOk Try.prog 67 := ⟨Try.f67, Try.func67, by kernel_rfl, by kernel_rfl⟩

/-- citadel/objs.there -/
def df69 : DF :=
  ⟨23, .seq (.reg [⟨(some 6), .mv (.k (.s (.b false))), none⟩])
  (.seq (.reg [⟨(some 7), .mv (.t 1), none⟩,
  ⟨(some 8), .bin .geq (.t 7) (.k (.s (.i .i64 1024))), none⟩,
  ⟨(some 9), .mv (.t 8), none⟩,
  ⟨(some 10), .mv (.t 1), (some (9, true))⟩,
  ⟨(some 11), .mv (.t 2), (some (9, true))⟩,
  ⟨(some 12), .bin .rem (.t 10) (.t 11), (some (9, true))⟩,
  ⟨(some 13), .bin .eql (.t 12) (.k (.s (.i .i64 0))), (some (9, true))⟩,
  ⟨(some 14), .pick (.t 9) (.t 13) (.k (.s (.b false))), none⟩,
  ⟨(some 15), .mv (.t 14), none⟩,
  ⟨(some 16), .mv (.t 1), (some (15, true))⟩,
  ⟨(some 17), .mv (.t 0), (some (15, true))⟩,
  ⟨(some 18), .call 111 [(.t 17)], (some (15, true))⟩,
  ⟨(some 19), .mv (.t 2), (some (15, true))⟩,
  ⟨(some 20), .bin .sub (.t 18) (.t 19), (some (15, true))⟩,
  ⟨(some 21), .bin .leq (.t 16) (.t 20), (some (15, true))⟩,
  ⟨(some 22), .pick (.t 15) (.t 21) (.k (.s (.b false))), none⟩,
  ⟨(some 6), .mv (.t 22), none⟩])
  (.ret)), [.t 6]⟩
theorem dc69 : compF Try.prog Try.f69 = some df69 := by kernel_rfl
theorem ok69 : FnOk Try.prog 69 := ⟨Try.f69, Try.func69, by kernel_rfl, by kernel_rfl⟩

/-- (*citadel/mem.Memory).Read -/
def df70 : DF :=
  ⟨26, .seq (.reg [⟨(some 4), .mv (.k (.s (.i .u64 0))), none⟩,
  ⟨(some 5), .mv (.k (.s (.i .i64 0))), none⟩])
  (.seq (.reg [⟨(some 9), .mv (.t 0), none⟩,
  ⟨(some 10), .mv (.t 1), none⟩,
  ⟨(some 11), .call 60 [(.t 9), (.t 10), (.k (.s (.i .i64 1)))], none⟩,
  ⟨(some 8), .mv (.t 11), none⟩,
  ⟨(some 12), .ext (.t 8) 0, none⟩,
  ⟨(some 13), .ext (.t 8) 1, none⟩,
  ⟨(some 6), .mv (.t 12), none⟩,
  ⟨(some 7), .mv (.t 13), none⟩])
  (.seq (.seq (.reg [⟨(some 14), .mv (.t 7), none⟩,
  ⟨(some 15), .un .not (.t 14), none⟩])
  (.cond (.t 15)
  (.seq (.reg [⟨(some 4), .mv (.k (.s (.i .u64 0))), none⟩,
  ⟨(some 5), .mv (.k (.s (.i .i64 20))), none⟩])
  (.ret))
  (.skip)))
  (.seq (.reg [⟨(some 16), .mv (.t 0), none⟩,
  ⟨(some 17), .nil (.t 16), none⟩,
  ⟨(some 18), .fa (.t 17) 1, none⟩,
  ⟨(some 19), .ld (.t 18) none, none⟩,
  ⟨(some 20), .bin .add (.t 19) (.k (.s (.i .i64 1))), none⟩,
  ⟨(some 21), .nil (.t 16), none⟩,
  ⟨(some 22), .fa (.t 21) 1, none⟩,
  ⟨none, .st (.t 22) (.t 20) 1, none⟩])
  (.seq (.reg [⟨(some 23), .mv (.t 6), none⟩,
  ⟨(some 24), .ia none 1 (.t 23) (.k (.s (.i .i64 0))), none⟩,
  ⟨(some 25), .ld (.t 24) none, none⟩,
  ⟨(some 4), .mv (.t 25), none⟩,
  ⟨(some 5), .mv (.k (.s (.i .i64 0))), none⟩])
  (.ret))))), [.t 4, .t 5]⟩
theorem dc70 : compF Try.prog Try.f70 = some df70 := by kernel_rfl
theorem ok70 : FnOk Try.prog 70 := ⟨Try.f70, Try.func70, by kernel_rfl, by kernel_rfl⟩

/-- citadel/objs.unpack -/
def df71 : DF :=
  ⟨36, .seq (.reg [⟨(some 4), .mv (.k (.s (.ns))), none⟩,
  ⟨(some 5), .mv (.k (.s (.b false))), none⟩])
  (.seq (.reg [⟨(some 12), .mv (.t 0), none⟩,
  ⟨(some 13), .mv (.t 1), none⟩,
  ⟨(some 14), .call 98 [(.t 12), (.t 13)], none⟩,
  ⟨(some 11), .mv (.t 14), none⟩,
  ⟨(some 15), .ext (.t 11) 0, none⟩,
  ⟨(some 16), .ext (.t 11) 1, none⟩,
  ⟨(some 6), .mv (.t 15), none⟩,
  ⟨(some 7), .mv (.t 16), none⟩])
  (.seq (.reg [⟨(some 17), .mv (.t 1), none⟩,
  ⟨(some 18), .len (.t 17), none⟩,
  ⟨(some 19), .mks 1 8 [.i .i64 0] (.t 18) (.t 18), none⟩,
  ⟨(some 8), .mv (.t 19), none⟩])
  (.seq (.seq (.reg [⟨(some 20), .mv (.t 6), none⟩,
  ⟨(some 21), .len (.t 20), none⟩,
  ⟨(some 22), .mv (.k (.s (.i .i64 0))), none⟩])
  (.block 0 (.loop (.seq (.reg [⟨(some 23), .bin .lss (.t 22) (.t 21), none⟩])
  (.seq (.cond (.t 23)
  (.skip)
  (.exit 0))
  (.seq (.block 1 (.seq (.reg [⟨(some 24), .mv (.t 22), none⟩,
  ⟨(some 25), .ia none 1 (.t 20) (.t 22), none⟩,
  ⟨(some 26), .ld (.t 25) none, none⟩,
  ⟨(some 9), .mv (.t 24), none⟩,
  ⟨(some 10), .mv (.t 26), none⟩])
  (.reg [⟨(some 27), .mv (.t 8), none⟩,
  ⟨(some 28), .mv (.t 9), none⟩,
  ⟨(some 29), .mv (.t 10), none⟩,
  ⟨(some 30), .conv .i64 (.t 29), none⟩,
  ⟨(some 31), .ia none 1 (.t 27) (.t 28), none⟩,
  ⟨none, .st (.t 31) (.t 30) 1, none⟩])))
  (.reg [⟨(some 32), .bin .add (.t 22) (.k (.s (.i .i64 1))), none⟩,
  ⟨(some 22), .mv (.t 32), none⟩])))))))
  (.seq (.reg [⟨(some 33), .mv (.t 8), none⟩,
  ⟨(some 34), .mv (.t 7), none⟩,
  ⟨(some 35), .bin .eql (.t 34) (.k (.s (.i .i64 0))), none⟩,
  ⟨(some 4), .mv (.t 33), none⟩,
  ⟨(some 5), .mv (.t 35), none⟩])
  (.ret))))), [.t 4, .t 5]⟩
theorem dc71 : compF Try.prog Try.f71 = some df71 := by kernel_rfl
theorem ok71 : FnOk Try.prog 71 := ⟨Try.f71, Try.func71, by kernel_rfl, by kernel_rfl⟩

/-- citadel/objs.rightQueue -/
def df72 : DF :=
  ⟨22, .seq (.reg [⟨(some 1), .box (.t 0), none⟩,
  ⟨(some 2), .mv (.k (.s (.b false))), none⟩])
  (.seq (.seq (.reg [⟨(some 3), .fa (.t 1) 0, none⟩,
  ⟨(some 4), .ld (.t 3) none, none⟩,
  ⟨(some 5), .bin .eql (.t 4) (.k (.s (.i .i64 0))), none⟩])
  (.cond (.t 5)
  (.seq (.reg [⟨(some 6), .ld (.t 1) (some 3), none⟩,
  ⟨(some 7), .build [.i .i64 0, .i .i64 0, .i .i64 0] [], none⟩,
  ⟨(some 8), .eqa false [true, true, true] (.t 6) (.t 7), none⟩,
  ⟨(some 2), .mv (.t 8), none⟩])
  (.ret))
  (.skip)))
  (.seq (.reg [⟨(some 9), .fa (.t 1) 0, none⟩,
  ⟨(some 10), .ld (.t 9) none, none⟩,
  ⟨(some 11), .bin .leq (.t 10) (.k (.s (.i .i64 2))), none⟩,
  ⟨(some 12), .mv (.t 11), none⟩,
  ⟨(some 13), .fa (.t 1) 1, (some (12, true))⟩,
  ⟨(some 14), .ld (.t 13) none, (some (12, true))⟩,
  ⟨(some 15), .bin .gtr (.t 14) (.k (.s (.i .i64 0))), (some (12, true))⟩,
  ⟨(some 16), .pick (.t 12) (.t 15) (.k (.s (.b false))), none⟩,
  ⟨(some 17), .mv (.t 16), none⟩,
  ⟨(some 18), .fa (.t 1) 2, (some (17, true))⟩,
  ⟨(some 19), .ld (.t 18) none, (some (17, true))⟩,
  ⟨(some 20), .bin .gtr (.t 19) (.k (.s (.i .i64 0))), (some (17, true))⟩,
  ⟨(some 21), .pick (.t 17) (.t 20) (.k (.s (.b false))), none⟩,
  ⟨(some 2), .mv (.t 21), none⟩])
  (.ret))), [.t 2]⟩
theorem dc72 : compF Try.prog Try.f72 = some df72 := by kernel_rfl
theorem ok72 : FnOk Try.prog 72 := ⟨Try.f72, Try.func72, by kernel_rfl, by kernel_rfl⟩

/-- citadel/objs.rightSignal -/
def df73 : DF :=
  ⟨44, .seq (.reg [⟨(some 1), .box (.t 0), none⟩,
  ⟨(some 2), .mv (.k (.s (.b false))), none⟩])
  (.seq (.drq [⟨(some 6), .fa (.t 1) 1, none⟩,
  ⟨(some 7), .ld (.t 6) none, none⟩,
  ⟨(some 8), .bin .gtr (.t 7) (.k (.s (.i .i64 0))), none⟩,
  ⟨(some 9), .mv (.t 8), none⟩,
  ⟨(some 10), .fa (.t 1) 2, (some (9, true))⟩,
  ⟨(some 11), .ld (.t 10) none, (some (9, true))⟩,
  ⟨(some 12), .bin .gtr (.t 11) (.k (.s (.i .i64 0))), (some (9, true))⟩,
  ⟨(some 13), .pick (.t 9) (.t 12) (.k (.s (.b false))), none⟩,
  ⟨(some 14), .fa (.t 1) 3, none⟩,
  ⟨(some 15), .ld (.t 14) none, none⟩,
  ⟨(some 16), .bin .gtr (.t 15) (.k (.s (.i .i64 0))), none⟩,
  ⟨(some 3), .mv (.t 13), none⟩,
  ⟨(some 4), .mv (.t 16), none⟩])
  (.seq (.reg [⟨(some 17), .fa (.t 1) 1, none⟩,
  ⟨(some 18), .ld (.t 17) none, none⟩,
  ⟨(some 19), .bin .eql (.t 18) (.k (.s (.i .i64 0))), none⟩,
  ⟨(some 20), .mv (.t 19), none⟩,
  ⟨(some 21), .fa (.t 1) 2, (some (20, true))⟩,
  ⟨(some 22), .ld (.t 21) none, (some (20, true))⟩,
  ⟨(some 23), .bin .eql (.t 22) (.k (.s (.i .i64 0))), (some (20, true))⟩,
  ⟨(some 24), .pick (.t 20) (.t 23) (.k (.s (.b false))), none⟩,
  ⟨(some 5), .mv (.t 24), none⟩])
  (.seq (.seq (.reg [⟨(some 25), .fa (.t 1) 0, none⟩,
  ⟨(some 26), .ld (.t 25) none, none⟩])
  (.block 0 (.seq (.reg [⟨(some 28), .bin .eql (.t 26) (.k (.s (.i .i64 0))), none⟩,
  ⟨(some 27), .mv (.t 28), none⟩])
  (.cond (.t 27)
  (.seq (.reg [⟨(some 29), .mv (.t 5), none⟩,
  ⟨(some 30), .mv (.t 29), none⟩,
  ⟨(some 31), .mv (.t 4), (some (30, true))⟩,
  ⟨(some 32), .un .not (.t 31), (some (30, true))⟩,
  ⟨(some 33), .pick (.t 30) (.t 32) (.k (.s (.b false))), none⟩,
  ⟨(some 2), .mv (.t 33), none⟩])
  (.ret))
  (.seq (.reg [⟨(some 35), .bin .eql (.t 26) (.k (.s (.i .i64 1))), none⟩,
  ⟨(some 34), .mv (.t 35), none⟩])
  (.cond (.t 34)
  (.seq (.reg [⟨(some 36), .mv (.t 3), none⟩,
  ⟨(some 37), .mv (.t 36), none⟩,
  ⟨(some 38), .mv (.t 4), (some (37, true))⟩,
  ⟨(some 39), .un .not (.t 38), (some (37, true))⟩,
  ⟨(some 40), .pick (.t 37) (.t 39) (.k (.s (.b false))), none⟩,
  ⟨(some 2), .mv (.t 40), none⟩])
  (.ret))
  (.seq (.reg [⟨(some 42), .bin .eql (.t 26) (.k (.s (.i .i64 2))), none⟩,
  ⟨(some 41), .mv (.t 42), none⟩])
  (.cond (.t 41)
  (.seq (.reg [⟨(some 43), .mv (.t 5), none⟩,
  ⟨(some 2), .mv (.t 43), none⟩])
  (.ret))
  (.skip)))))))))
  (.seq (.reg [⟨(some 2), .mv (.k (.s (.b false))), none⟩])
  (.ret))))), [.t 2]⟩
theorem dc73 : compF Try.prog Try.f73 = some df73 := by kernel_rfl
theorem ok73 : FnOk Try.prog 73 := ⟨Try.f73, Try.func73, by kernel_rfl, by kernel_rfl⟩

/-- citadel/objs.place -/
def df74 : DF :=
  ⟨20, .seq (.reg [⟨(some 6), .mv (.k (.s (.i .i64 0))), none⟩,
  ⟨(some 7), .mv (.k (.s (.i .i64 0))), none⟩])
  (.seq (.block 0 (.seq (.reg [⟨(some 9), .mv (.t 0), none⟩,
  ⟨(some 10), .mv (.t 1), none⟩,
  ⟨(some 11), .call 69 [(.t 9), (.t 10), (.k (.s (.i .i64 8)))], none⟩,
  ⟨(some 12), .un .not (.t 11), none⟩,
  ⟨(some 8), .mv (.t 12), none⟩])
  (.cond (.t 8)
  (.seq (.reg [⟨(some 6), .mv (.k (.s (.i .i64 0))), none⟩,
  ⟨(some 7), .mv (.k (.s (.i .i64 20))), none⟩])
  (.ret))
  (.seq (.reg [⟨(some 14), .mv (.t 2), none⟩,
  ⟨(some 15), .call 112 [(.t 14), (.k (.s (.i .i64 7)))], none⟩,
  ⟨(some 16), .un .not (.t 15), none⟩,
  ⟨(some 13), .mv (.t 16), none⟩])
  (.cond (.t 13)
  (.seq (.reg [⟨(some 6), .mv (.k (.s (.i .i64 0))), none⟩,
  ⟨(some 7), .mv (.k (.s (.i .i64 1))), none⟩])
  (.ret))
  (.skip))))))
  (.seq (.reg [⟨(some 17), .mv (.t 1), none⟩,
  ⟨(some 18), .mv (.t 2), none⟩,
  ⟨(some 19), .bin .add (.t 17) (.t 18), none⟩,
  ⟨(some 6), .mv (.t 19), none⟩,
  ⟨(some 7), .mv (.k (.s (.i .i64 0))), none⟩])
  (.ret))), [.t 6, .t 7]⟩
theorem dc74 : compF Try.prog Try.f74 = some df74 := by kernel_rfl
theorem ok74 : FnOk Try.prog 74 := ⟨Try.f74, Try.func74, by kernel_rfl, by kernel_rfl⟩

/-- citadel/walk.Decode -/
def df75 : DF :=
  ⟨36, .seq (.reg [⟨(some 2), .new [.b false, .b false, .i .i64 0, .i .i64 0], none⟩,
  ⟨(some 3), .mv (.k (.s (.i .i64 0))), none⟩])
  (.seq (.reg [⟨(some 7), .mv (.t 0), none⟩,
  ⟨(some 8), .bin .and (.t 7) (.k (.s (.i .u64 1))), none⟩,
  ⟨(some 9), .bin .neq (.t 8) (.k (.s (.i .u64 0))), none⟩,
  ⟨(some 10), .mv (.t 0), none⟩,
  ⟨(some 11), .bin .and (.t 10) (.k (.s (.i .u64 2))), none⟩,
  ⟨(some 12), .bin .neq (.t 11) (.k (.s (.i .u64 0))), none⟩,
  ⟨(some 13), .mv (.t 0), none⟩,
  ⟨(some 14), .bin .shr (.t 13) (.k (.s (.i .u64 2))), none⟩,
  ⟨(some 15), .bin .and (.t 14) (.k (.s (.i .u64 3))), none⟩,
  ⟨(some 16), .conv .i64 (.t 15), none⟩,
  ⟨(some 17), .mv (.t 0), none⟩,
  ⟨(some 18), .bin .shr (.t 17) (.k (.s (.i .u64 16))), none⟩,
  ⟨(some 19), .bin .and (.t 18) (.k (.s (.i .u64 65535))), none⟩,
  ⟨(some 20), .conv .i64 (.t 19), none⟩,
  ⟨(some 21), .build [.b false, .b false, .i .i64 0, .i .i64 0] [(0, 1, (.t 9)), (1, 1, (.t 12)), (3, 1, (.t 16)), (2, 1, (.t 20))], none⟩,
  ⟨(some 4), .new [.b false, .b false, .i .i64 0, .i .i64 0], none⟩,
  ⟨none, .st (.t 4) (.t 21) 4, none⟩])
  (.seq (.seq (.reg [⟨(some 23), .ld (.t 4) (some 4), none⟩,
  ⟨(some 24), .call 81 [(.t 23)], none⟩,
  ⟨(some 22), .mv (.t 24), none⟩,
  ⟨(some 25), .ext (.t 22) 0, none⟩,
  ⟨(some 26), .ext (.t 22) 1, none⟩,
  ⟨(some 5), .mv (.t 25), none⟩,
  ⟨(some 6), .mv (.t 26), none⟩])
  (.seq (.reg [⟨(some 27), .mv (.t 6), none⟩,
  ⟨(some 28), .bin .neq (.t 27) (.k (.s (.i .i64 0))), none⟩,
  ⟨(some 29), .mv (.t 28), none⟩,
  ⟨(some 30), .mv (.t 5), (some (29, false))⟩,
  ⟨(some 31), .mv (.t 0), (some (29, false))⟩,
  ⟨(some 32), .bin .neq (.t 30) (.t 31), (some (29, false))⟩,
  ⟨(some 33), .pick (.t 29) (.k (.s (.b true))) (.t 32), none⟩])
  (.cond (.t 33)
  (.seq (.reg [⟨(some 34), .build [.b false, .b false, .i .i64 0, .i .i64 0] [], none⟩,
  ⟨none, .st (.t 2) (.t 34) 4, none⟩,
  ⟨(some 3), .mv (.k (.s (.i .i64 10))), none⟩])
  (.ret))
  (.skip))))
  (.seq (.reg [⟨(some 35), .ld (.t 4) (some 4), none⟩,
  ⟨none, .st (.t 2) (.t 35) 4, none⟩,
  ⟨(some 3), .mv (.k (.s (.i .i64 0))), none⟩])
  (.ret)))), [.c 2 (some 4), .t 3]⟩
theorem dc75 : compF Try.prog Try.f75 = some df75 := by kernel_rfl
theorem ok75 : FnOk Try.prog 75 := ⟨Try.f75, Try.func75, by kernel_rfl, by kernel_rfl⟩

/-- citadel/objs.rooted -/
def df76 : DF :=
  ⟨18, .seq (.reg [⟨(some 2), .mv (.k (.s (.b false))), none⟩])
  (.seq (.reg [⟨(some 3), .mv (.t 0), none⟩,
  ⟨(some 4), .bin .eql (.t 3) (.k (.s (.i .i64 0))), none⟩,
  ⟨(some 5), .mv (.t 4), none⟩,
  ⟨(some 6), .mv (.t 0), (some (5, false))⟩,
  ⟨(some 7), .bin .geq (.t 6) (.k (.s (.i .i64 1024))), (some (5, false))⟩,
  ⟨(some 8), .mv (.t 7), (some (5, false))⟩,
  ⟨(some 9), .mv (.t 0), (some (8, true))⟩,
  ⟨(some 10), .bin .leq (.t 9) (.k (.s (.i .i64 65528))), (some (8, true))⟩,
  ⟨(some 11), .pick (.t 8) (.t 10) (.k (.s (.b false))), (some (5, false))⟩,
  ⟨(some 12), .mv (.t 11), (some (5, false))⟩,
  ⟨(some 13), .mv (.t 0), (some (12, true))⟩,
  ⟨(some 14), .bin .rem (.t 13) (.k (.s (.i .i64 8))), (some (12, true))⟩,
  ⟨(some 15), .bin .eql (.t 14) (.k (.s (.i .i64 0))), (some (12, true))⟩,
  ⟨(some 16), .pick (.t 12) (.t 15) (.k (.s (.b false))), (some (5, false))⟩,
  ⟨(some 17), .pick (.t 5) (.k (.s (.b true))) (.t 16), none⟩,
  ⟨(some 2), .mv (.t 17), none⟩])
  (.ret)), [.t 2]⟩
theorem dc76 : compF Try.prog Try.f76 = some df76 := by kernel_rfl
theorem ok76 : FnOk Try.prog 76 := ⟨Try.f76, Try.func76, by kernel_rfl, by kernel_rfl⟩

/-- citadel/objs.head -/
def df77 : DF :=
  ⟨90, .seq (.reg [⟨(some 1), .box (.t 0), none⟩,
  ⟨(some 2), .new [.i .u64 0, .i .u64 0, .i .u64 0, .i .u64 0], none⟩,
  ⟨(some 3), .mv (.k (.s (.b false))), none⟩])
  (.seq (.reg [⟨(some 4), .new [.i .u64 0, .i .u64 0, .i .u64 0, .i .u64 0], none⟩])
  (.seq (.reg [⟨(some 5), .new [.b false, .b false, .b false, .b false], none⟩])
  (.seq (.drx (.tk true ⟨(some 7), .fa (.t 1) 0, none⟩
  (.tk true ⟨(some 10), .fa (.t 1) 1, none⟩
  (.tk true ⟨(some 13), .fa (.t 1) 2, none⟩
  (.tk true ⟨(some 16), .fa (.t 1) 3, none⟩
  (.tk true ⟨(some 19), .fa (.t 1) 8, none⟩
  (.tk true ⟨(some 22), .fa (.t 1) 9, none⟩
  (.tk true ⟨(some 25), .fa (.t 1) 12, none⟩
  (.tk true ⟨(some 8), .ld (.t 7) none, none⟩
  (.tk true ⟨(some 9), .build [.i .i64 0, .i .i64 0] [(0, 1, (.k (.s (.i .i64 3)))), (1, 1, (.t 8))], none⟩
  (.tk true ⟨(some 11), .ld (.t 10) none, none⟩
  (.tk true ⟨(some 12), .build [.i .i64 0, .i .i64 0] [(0, 1, (.k (.s (.i .i64 8)))), (1, 1, (.t 11))], none⟩
  (.tk true ⟨(some 14), .ld (.t 13) none, none⟩
  (.tk true ⟨(some 15), .build [.i .i64 0, .i .i64 0] [(0, 1, (.k (.s (.i .i64 3)))), (1, 1, (.t 14))], none⟩
  (.tk true ⟨(some 17), .ld (.t 16) none, none⟩
  (.tk true ⟨(some 18), .call 113 [(.t 17)], none⟩
  (.tk true ⟨(some 20), .ld (.t 19) none, none⟩
  (.tk true ⟨(some 21), .call 113 [(.t 20)], none⟩
  (.tk true ⟨(some 23), .ld (.t 22) none, none⟩
  (.tk true ⟨(some 24), .call 113 [(.t 23)], none⟩
  (.tk true ⟨(some 26), .ld (.t 25) none, none⟩
  (.tk true ⟨(some 27), .build [.i .i64 0, .i .i64 0] [(0, 1, (.k (.s (.i .i64 2)))), (1, 1, (.t 26))], none⟩
  (.tk false ⟨(some 28), .bsl 7 [.i .i64 0, .i .i64 0, .i .i64 0, .i .i64 0, .i .i64 0, .i .i64 0, .i .i64 0, .i .i64 0, .i .i64 0, .i .i64 0, .i .i64 0, .i .i64 0, .i .i64 0, .i .i64 0] [(0, 2, (.t 9)), (2, 2, (.t 12)), (4, 2, (.t 15)), (6, 2, (.t 18)), (8, 2, (.t 21)), (10, 2, (.t 24)), (12, 2, (.t 27))], none⟩
  (.tk false ⟨(some 29), .call 80 [(.t 28)], none⟩
  (.tk true ⟨(some 6), .mv (.t 29), none⟩
  (.tk true ⟨(some 30), .ext (.t 6) 0, none⟩
  (.tk true ⟨(some 31), .ext (.t 6) 1, none⟩
  (.tk true ⟨(some 32), .ia (some 4) 1 (.t 4) (.k (.s (.i .i64 0))), none⟩
  (.tk false ⟨none, .st (.t 32) (.t 30) 1, none⟩
  (.tk true ⟨(some 33), .ia (some 4) 1 (.t 5) (.k (.s (.i .i64 0))), none⟩
  (.tk false ⟨none, .st (.t 33) (.t 31) 1, none⟩
  .done)))))))))))))))))))))))))))))))
  (.seq (.reg [⟨(some 35), .fa (.t 1) 4, none⟩,
  ⟨(some 36), .ld (.t 35) none, none⟩,
  ⟨(some 37), .build [.i .i64 0, .i .i64 0] [(0, 1, (.k (.s (.i .i64 16)))), (1, 1, (.t 36))], none⟩,
  ⟨(some 38), .fa (.t 1) 5, none⟩,
  ⟨(some 39), .ld (.t 38) none, none⟩,
  ⟨(some 40), .build [.i .i64 0, .i .i64 0] [(0, 1, (.k (.s (.i .i64 16)))), (1, 1, (.t 39))], none⟩,
  ⟨(some 41), .fa (.t 1) 6, none⟩,
  ⟨(some 42), .ld (.t 41) none, none⟩,
  ⟨(some 43), .build [.i .i64 0, .i .i64 0] [(0, 1, (.k (.s (.i .i64 16)))), (1, 1, (.t 42))], none⟩,
  ⟨(some 44), .fa (.t 1) 10, none⟩,
  ⟨(some 45), .ld (.t 44) none, none⟩,
  ⟨(some 46), .build [.i .i64 0, .i .i64 0] [(0, 1, (.k (.s (.i .i64 16)))), (1, 1, (.t 45))], none⟩,
  ⟨(some 47), .bsl 4 [.i .i64 0, .i .i64 0, .i .i64 0, .i .i64 0, .i .i64 0, .i .i64 0, .i .i64 0, .i .i64 0] [(0, 2, (.t 37)), (2, 2, (.t 40)), (4, 2, (.t 43)), (6, 2, (.t 46))], none⟩,
  ⟨(some 48), .call 80 [(.t 47)], none⟩,
  ⟨(some 34), .mv (.t 48), none⟩,
  ⟨(some 49), .ext (.t 34) 0, none⟩,
  ⟨(some 50), .ext (.t 34) 1, none⟩,
  ⟨(some 51), .ia (some 4) 1 (.t 4) (.k (.s (.i .i64 1))), none⟩,
  ⟨none, .st (.t 51) (.t 49) 1, none⟩,
  ⟨(some 52), .ia (some 4) 1 (.t 5) (.k (.s (.i .i64 1))), none⟩,
  ⟨none, .st (.t 52) (.t 50) 1, none⟩])
  (.seq (.reg [⟨(some 54), .fa (.t 1) 7, none⟩,
  ⟨(some 55), .ld (.t 54) none, none⟩,
  ⟨(some 56), .build [.i .i64 0, .i .i64 0] [(0, 1, (.k (.s (.i .i64 28)))), (1, 1, (.t 55))], none⟩,
  ⟨(some 57), .bsl 1 [.i .i64 0, .i .i64 0] [(0, 2, (.t 56))], none⟩,
  ⟨(some 58), .call 80 [(.t 57)], none⟩,
  ⟨(some 53), .mv (.t 58), none⟩,
  ⟨(some 59), .ext (.t 53) 0, none⟩,
  ⟨(some 60), .ext (.t 53) 1, none⟩,
  ⟨(some 61), .ia (some 4) 1 (.t 4) (.k (.s (.i .i64 2))), none⟩,
  ⟨none, .st (.t 61) (.t 59) 1, none⟩,
  ⟨(some 62), .ia (some 4) 1 (.t 5) (.k (.s (.i .i64 2))), none⟩,
  ⟨none, .st (.t 62) (.t 60) 1, none⟩])
  (.seq (.reg [⟨(some 64), .fa (.t 1) 11, none⟩,
  ⟨(some 65), .ld (.t 64) none, none⟩,
  ⟨(some 66), .build [.i .i64 0, .i .i64 0] [(0, 1, (.k (.s (.i .i64 32)))), (1, 1, (.t 65))], none⟩,
  ⟨(some 67), .fa (.t 1) 13, none⟩,
  ⟨(some 68), .ld (.t 67) none, none⟩,
  ⟨(some 69), .build [.i .i64 0, .i .i64 0] [(0, 1, (.k (.s (.i .i64 32)))), (1, 1, (.t 68))], none⟩,
  ⟨(some 70), .bsl 2 [.i .i64 0, .i .i64 0, .i .i64 0, .i .i64 0] [(0, 2, (.t 66)), (2, 2, (.t 69))], none⟩,
  ⟨(some 71), .call 80 [(.t 70)], none⟩,
  ⟨(some 63), .mv (.t 71), none⟩,
  ⟨(some 72), .ext (.t 63) 0, none⟩,
  ⟨(some 73), .ext (.t 63) 1, none⟩,
  ⟨(some 74), .ia (some 4) 1 (.t 4) (.k (.s (.i .i64 3))), none⟩,
  ⟨none, .st (.t 74) (.t 72) 1, none⟩,
  ⟨(some 75), .ia (some 4) 1 (.t 5) (.k (.s (.i .i64 3))), none⟩,
  ⟨none, .st (.t 75) (.t 73) 1, none⟩])
  (.seq (.drx (.tk true ⟨(some 78), .build [.b false, .b false, .b false, .b false] [(0, 1, (.k (.s (.b true)))), (1, 1, (.k (.s (.b true)))), (2, 1, (.k (.s (.b true)))), (3, 1, (.k (.s (.b true))))], none⟩
  (.tk true ⟨(some 76), .ld (.t 4) (some 4), none⟩
  (.tk true ⟨(some 77), .ld (.t 5) (some 4), none⟩
  (.tk true ⟨(some 79), .eqa false [false, false, false, false] (.t 77) (.t 78), none⟩
  (.tk true ⟨(some 80), .mv (.t 79), none⟩
  (.tk true ⟨(some 81), .fa (.t 1) 0, (some (80, true))⟩
  (.tk true ⟨(some 82), .ld (.t 81) none, (some (80, true))⟩
  (.tk true ⟨(some 83), .bin .leq (.t 82) (.k (.s (.i .i64 5))), (some (80, true))⟩
  (.tk true ⟨(some 84), .pick (.t 80) (.t 83) (.k (.s (.b false))), none⟩
  (.tk true ⟨(some 85), .mv (.t 84), none⟩
  (.tk true ⟨(some 86), .fa (.t 1) 2, (some (85, true))⟩
  (.both (.tk true ⟨(some 87), .ld (.t 86) none, (some (85, true))⟩
  (.tk true ⟨(some 88), .bin .leq (.t 87) (.k (.s (.i .i64 5))), (some (85, true))⟩
  (.tk true ⟨(some 89), .pick (.t 85) (.t 88) (.k (.s (.b false))), none⟩
  (.tk false ⟨none, .st (.t 2) (.t 76) 4, none⟩
  (.tk true ⟨(some 3), .mv (.t 89), none⟩
  .done)))))
  (.tk false ⟨none, .st (.t 2) (.t 76) 4, none⟩
  (.tk true ⟨(some 87), .ld (.t 86) none, (some (85, true))⟩
  (.tk true ⟨(some 88), .bin .leq (.t 87) (.k (.s (.i .i64 5))), (some (85, true))⟩
  (.tk true ⟨(some 89), .pick (.t 85) (.t 88) (.k (.s (.b false))), none⟩
  (.tk true ⟨(some 3), .mv (.t 89), none⟩
  .done))))))))))))))))))
  (.ret)))))))), [.c 2 (some 4), .t 3]⟩
theorem dc77 : compF Try.prog Try.f77 = some df77 := by kernel_rfl
theorem ok77 : FnOk Try.prog 77 := ⟨Try.f77, Try.func77, by kernel_rfl, by kernel_rfl⟩

/-- (*citadel/mem.Memory).Write -/
def df78 : DF :=
  ⟨11, .seq (.reg [⟨(some 6), .mv (.k (.s (.i .i64 0))), none⟩])
  (.seq (.reg [⟨(some 7), .mv (.t 0), none⟩,
  ⟨(some 8), .mv (.t 1), none⟩,
  ⟨(some 9), .mv (.t 2), none⟩,
  ⟨(some 10), .call 38 [(.t 7), (.t 8), (.k (.s (.i .i64 1))), (.t 9)], none⟩,
  ⟨(some 6), .mv (.t 10), none⟩])
  (.ret)), [.t 6]⟩
theorem dc78 : compF Try.prog Try.f78 = some df78 := by kernel_rfl
theorem ok78 : FnOk Try.prog 78 := ⟨Try.f78, Try.func78, by kernel_rfl, by kernel_rfl⟩

/-- citadel/objs.register -/
def df79 : DF :=
  ⟨21, .seq (.reg [⟨(some 6), .mv (.k (.s (.i .i64 0))), none⟩,
  ⟨(some 7), .mv (.k (.s (.i .i64 0))), none⟩])
  (.seq (.block 0 (.seq (.reg [⟨(some 9), .mv (.t 0), none⟩,
  ⟨(some 10), .mv (.t 1), none⟩,
  ⟨(some 11), .call 69 [(.t 9), (.t 10), (.k (.s (.i .i64 64)))], none⟩,
  ⟨(some 12), .un .not (.t 11), none⟩,
  ⟨(some 8), .mv (.t 12), none⟩])
  (.cond (.t 8)
  (.seq (.reg [⟨(some 6), .mv (.k (.s (.i .i64 0))), none⟩,
  ⟨(some 7), .mv (.k (.s (.i .i64 20))), none⟩])
  (.ret))
  (.seq (.reg [⟨(some 14), .mv (.t 2), none⟩,
  ⟨(some 15), .call 112 [(.t 14), (.k (.s (.i .i64 15)))], none⟩,
  ⟨(some 16), .un .not (.t 15), none⟩,
  ⟨(some 13), .mv (.t 16), none⟩])
  (.cond (.t 13)
  (.seq (.reg [⟨(some 6), .mv (.k (.s (.i .i64 0))), none⟩,
  ⟨(some 7), .mv (.k (.s (.i .i64 1))), none⟩])
  (.ret))
  (.skip))))))
  (.seq (.reg [⟨(some 17), .mv (.t 1), none⟩,
  ⟨(some 18), .bin .add (.t 17) (.k (.s (.i .i64 32))), none⟩,
  ⟨(some 19), .mv (.t 2), none⟩,
  ⟨(some 20), .bin .add (.t 18) (.t 19), none⟩,
  ⟨(some 6), .mv (.t 20), none⟩,
  ⟨(some 7), .mv (.k (.s (.i .i64 0))), none⟩])
  (.ret))), [.t 6, .t 7]⟩
theorem dc79 : compF Try.prog Try.f79 = some df79 := by kernel_rfl
theorem ok79 : FnOk Try.prog 79 := ⟨Try.f79, Try.func79, by kernel_rfl, by kernel_rfl⟩

/-- citadel/objs.pack -/
def df80 : DF :=
  ⟨36, .seq (.reg [⟨(some 2), .mv (.k (.s (.i .u64 0))), none⟩,
  ⟨(some 3), .mv (.k (.s (.b false))), none⟩])
  (.seq (.reg [⟨(some 4), .mv (.k (.s (.ns))), none⟩])
  (.seq (.seq (.reg [⟨(some 9), .mv (.t 0), none⟩,
  ⟨(some 10), .len (.t 9), none⟩,
  ⟨(some 11), .mv (.k (.s (.i .i64 0))), none⟩])
  (.block 0 (.loop (.seq (.reg [⟨(some 12), .bin .lss (.t 11) (.t 10), none⟩])
  (.seq (.cond (.t 12)
  (.skip)
  (.exit 0))
  (.seq (.block 1 (.seq (.reg [⟨(some 13), .ia none 2 (.t 9) (.t 11), none⟩,
  ⟨(some 14), .ld (.t 13) (some 2), none⟩,
  ⟨(some 6), .new [.i .i64 0, .i .i64 0], none⟩,
  ⟨none, .st (.t 6) (.t 14) 2, none⟩])
  (.seq (.seq (.reg [⟨(some 15), .fa (.t 6) 1, none⟩,
  ⟨(some 16), .ld (.t 15) none, none⟩,
  ⟨(some 17), .bin .lss (.t 16) (.k (.s (.i .i64 0))), none⟩])
  (.cond (.t 17)
  (.seq (.reg [⟨(some 2), .mv (.k (.s (.i .u64 0))), none⟩,
  ⟨(some 3), .mv (.k (.s (.b false))), none⟩])
  (.ret))
  (.skip)))
  (.reg [⟨(some 18), .mv (.t 4), none⟩,
  ⟨(some 19), .fa (.t 6) 0, none⟩,
  ⟨(some 20), .ld (.t 19) none, none⟩,
  ⟨(some 21), .fa (.t 6) 1, none⟩,
  ⟨(some 22), .ld (.t 21) none, none⟩,
  ⟨(some 23), .conv .u64 (.t 22), none⟩,
  ⟨(some 24), .build [.i .i64 0, .i .u64 0] [(0, 1, (.t 20)), (1, 1, (.t 23))], none⟩,
  ⟨(some 25), .bsl 1 [.i .i64 0, .i .u64 0] [(0, 2, (.t 24))], none⟩,
  ⟨(some 26), .app 2 16 (.t 18) (.t 25), none⟩,
  ⟨(some 4), .mv (.t 26), none⟩]))))
  (.reg [⟨(some 27), .bin .add (.t 11) (.k (.s (.i .i64 1))), none⟩,
  ⟨(some 11), .mv (.t 27), none⟩])))))))
  (.seq (.reg [⟨(some 29), .mv (.t 4), none⟩,
  ⟨(some 30), .call 114 [(.t 29)], none⟩,
  ⟨(some 28), .mv (.t 30), none⟩,
  ⟨(some 31), .ext (.t 28) 0, none⟩,
  ⟨(some 32), .ext (.t 28) 1, none⟩,
  ⟨(some 7), .mv (.t 31), none⟩,
  ⟨(some 8), .mv (.t 32), none⟩])
  (.seq (.reg [⟨(some 33), .mv (.t 7), none⟩,
  ⟨(some 34), .mv (.t 8), none⟩,
  ⟨(some 35), .bin .eql (.t 34) (.k (.s (.i .i64 0))), none⟩,
  ⟨(some 2), .mv (.t 33), none⟩,
  ⟨(some 3), .mv (.t 35), none⟩])
  (.ret))))), [.t 2, .t 3]⟩
theorem dc80 : compF Try.prog Try.f80 = some df80 := by kernel_rfl
theorem ok80 : FnOk Try.prog 80 := ⟨Try.f80, Try.func80, by kernel_rfl, by kernel_rfl⟩

/-- citadel/walk.Encode -/
def df81 : DF :=
  ⟨26, .seq (.reg [⟨(some 1), .box (.t 0), none⟩,
  ⟨(some 2), .mv (.k (.s (.i .u64 0))), none⟩,
  ⟨(some 3), .mv (.k (.s (.i .i64 0))), none⟩])
  (.seq (.seq (.reg [⟨(some 5), .ld (.t 1) (some 4), none⟩,
  ⟨(some 6), .call 115 [(.t 5)], none⟩,
  ⟨(some 7), .un .not (.t 6), none⟩])
  (.cond (.t 7)
  (.seq (.reg [⟨(some 2), .mv (.k (.s (.i .u64 0))), none⟩,
  ⟨(some 3), .mv (.k (.s (.i .i64 10))), none⟩])
  (.ret))
  (.skip)))
  (.seq (.reg [⟨(some 8), .fa (.t 1) 2, none⟩,
  ⟨(some 9), .ld (.t 8) none, none⟩,
  ⟨(some 10), .conv .u64 (.t 9), none⟩,
  ⟨(some 11), .bin .shl (.t 10) (.k (.s (.i .u64 16))), none⟩,
  ⟨(some 12), .fa (.t 1) 3, none⟩,
  ⟨(some 13), .ld (.t 12) none, none⟩,
  ⟨(some 14), .conv .u64 (.t 13), none⟩,
  ⟨(some 15), .bin .shl (.t 14) (.k (.s (.i .u64 2))), none⟩,
  ⟨(some 16), .bin .or (.t 11) (.t 15), none⟩,
  ⟨(some 4), .mv (.t 16), none⟩])
  (.seq (.seq (.reg [⟨(some 17), .fa (.t 1) 0, none⟩,
  ⟨(some 18), .ld (.t 17) none, none⟩])
  (.cond (.t 18)
  (.reg [⟨(some 19), .mv (.t 4), none⟩,
  ⟨(some 20), .bin .or (.t 19) (.k (.s (.i .u64 1))), none⟩,
  ⟨(some 4), .mv (.t 20), none⟩])
  (.skip)))
  (.seq (.seq (.reg [⟨(some 21), .fa (.t 1) 1, none⟩,
  ⟨(some 22), .ld (.t 21) none, none⟩])
  (.cond (.t 22)
  (.reg [⟨(some 23), .mv (.t 4), none⟩,
  ⟨(some 24), .bin .or (.t 23) (.k (.s (.i .u64 2))), none⟩,
  ⟨(some 4), .mv (.t 24), none⟩])
  (.skip)))
  (.seq (.reg [⟨(some 25), .mv (.t 4), none⟩,
  ⟨(some 2), .mv (.t 25), none⟩,
  ⟨(some 3), .mv (.k (.s (.i .i64 0))), none⟩])
  (.ret)))))), [.t 2, .t 3]⟩
theorem dc81 : compF Try.prog Try.f81 = some df81 := by kernel_rfl
theorem ok81 : FnOk Try.prog 81 := ⟨Try.f81, Try.func81, by kernel_rfl, by kernel_rfl⟩

/-- (*citadel/citadelref02.Memory).Write -/
def df91 : DF :=
  ⟨28, .seq (.reg [⟨(some 6), .mv (.k (.s (.i .i64 0))), none⟩])
  (.seq (.reg [⟨(some 8), .mv (.t 0), none⟩,
  ⟨(some 9), .mv (.t 1), none⟩,
  ⟨(some 10), .call 110 [(.t 8), (.t 9), (.k (.s (.i .i64 1)))], none⟩,
  ⟨(some 7), .mv (.t 10), none⟩])
  (.seq (.seq (.reg [⟨(some 11), .mv (.t 7), none⟩,
  ⟨(some 12), .un .not (.t 11), none⟩])
  (.cond (.t 12)
  (.seq (.reg [⟨(some 6), .mv (.k (.s (.i .i64 20))), none⟩])
  (.ret))
  (.skip)))
  (.seq (.reg [⟨(some 13), .mv (.t 0), none⟩,
  ⟨(some 14), .mv (.t 0), none⟩,
  ⟨(some 15), .nil (.t 14), none⟩,
  ⟨(some 16), .fa (.t 15) 1, none⟩,
  ⟨(some 17), .ld (.t 16) none, none⟩,
  ⟨(some 18), .bin .add (.t 17) (.k (.s (.i .i64 1))), none⟩,
  ⟨(some 19), .nil (.t 13), none⟩,
  ⟨(some 20), .fa (.t 19) 1, none⟩,
  ⟨none, .st (.t 20) (.t 18) 1, none⟩])
  (.seq (.reg [⟨(some 21), .mv (.t 0), none⟩,
  ⟨(some 22), .nil (.t 21), none⟩,
  ⟨(some 23), .fa (.t 22) 0, none⟩,
  ⟨(some 24), .ld (.t 23) none, none⟩,
  ⟨(some 25), .mv (.t 1), none⟩,
  ⟨(some 26), .mv (.t 2), none⟩,
  ⟨(some 27), .ia none 1 (.t 24) (.t 25), none⟩,
  ⟨none, .st (.t 27) (.t 26) 1, none⟩])
  (.seq (.reg [⟨(some 6), .mv (.k (.s (.i .i64 0))), none⟩])
  (.ret)))))), [.t 6]⟩
theorem dc91 : compF Try.prog Try.f91 = some df91 := by kernel_rfl
theorem ok91 : FnOk Try.prog 91 := ⟨Try.f91, Try.func91, by kernel_rfl, by kernel_rfl⟩

/-- citadel/word.Unpack -/
def df98 : DF :=
  ⟨41, .seq (.reg [⟨(some 4), .mv (.k (.s (.ns))), none⟩,
  ⟨(some 5), .mv (.k (.s (.i .i64 0))), none⟩])
  (.seq (.reg [⟨(some 6), .mv (.k (.s (.ns))), none⟩])
  (.seq (.reg [⟨(some 7), .mv (.k (.s (.i .i64 0))), none⟩])
  (.seq (.seq (.reg [⟨(some 12), .mv (.t 1), none⟩,
  ⟨(some 13), .len (.t 12), none⟩,
  ⟨(some 14), .mv (.k (.s (.i .i64 0))), none⟩])
  (.block 0 (.loop (.seq (.reg [⟨(some 15), .bin .lss (.t 14) (.t 13), none⟩])
  (.seq (.cond (.t 15)
  (.skip)
  (.exit 0))
  (.seq (.block 1 (.seq (.reg [⟨(some 16), .ia none 1 (.t 12) (.t 14), none⟩,
  ⟨(some 17), .ld (.t 16) none, none⟩,
  ⟨(some 9), .mv (.t 17), none⟩])
  (.seq (.reg [⟨(some 19), .mv (.t 0), none⟩,
  ⟨(some 20), .mv (.t 7), none⟩,
  ⟨(some 21), .mv (.t 9), none⟩,
  ⟨(some 22), .call 119 [(.t 19), (.t 20), (.t 21)], none⟩,
  ⟨(some 18), .mv (.t 22), none⟩,
  ⟨(some 23), .ext (.t 18) 0, none⟩,
  ⟨(some 24), .ext (.t 18) 1, none⟩,
  ⟨(some 10), .mv (.t 23), none⟩,
  ⟨(some 11), .mv (.t 24), none⟩])
  (.seq (.seq (.reg [⟨(some 25), .mv (.t 11), none⟩,
  ⟨(some 26), .bin .neq (.t 25) (.k (.s (.i .i64 0))), none⟩])
  (.cond (.t 26)
  (.seq (.reg [⟨(some 27), .mv (.t 11), none⟩,
  ⟨(some 4), .mv (.k (.s (.ns))), none⟩,
  ⟨(some 5), .mv (.t 27), none⟩])
  (.ret))
  (.skip)))
  (.seq (.reg [⟨(some 28), .mv (.t 6), none⟩,
  ⟨(some 29), .mv (.t 10), none⟩,
  ⟨(some 30), .bsl 1 [.i .u64 0] [(0, 1, (.t 29))], none⟩,
  ⟨(some 31), .app 1 8 (.t 28) (.t 30), none⟩,
  ⟨(some 6), .mv (.t 31), none⟩])
  (.reg [⟨(some 32), .mv (.t 7), none⟩,
  ⟨(some 33), .mv (.t 9), none⟩,
  ⟨(some 34), .bin .add (.t 32) (.t 33), none⟩,
  ⟨(some 7), .mv (.t 34), none⟩]))))))
  (.reg [⟨(some 35), .bin .add (.t 14) (.k (.s (.i .i64 1))), none⟩,
  ⟨(some 14), .mv (.t 35), none⟩])))))))
  (.seq (.seq (.reg [⟨(some 36), .mv (.t 0), none⟩,
  ⟨(some 37), .mv (.t 7), none⟩,
  ⟨(some 38), .bin .shr (.t 36) (.t 37), none⟩,
  ⟨(some 39), .bin .neq (.t 38) (.k (.s (.i .u64 0))), none⟩])
  (.cond (.t 39)
  (.seq (.reg [⟨(some 4), .mv (.k (.s (.ns))), none⟩,
  ⟨(some 5), .mv (.k (.s (.i .i64 10))), none⟩])
  (.ret))
  (.skip)))
  (.seq (.reg [⟨(some 40), .mv (.t 6), none⟩,
  ⟨(some 4), .mv (.t 40), none⟩,
  ⟨(some 5), .mv (.k (.s (.i .i64 0))), none⟩])
  (.ret)))))), [.t 4, .t 5]⟩
theorem dc98 : compF Try.prog Try.f98 = some df98 := by kernel_rfl
theorem ok98 : FnOk Try.prog 98 := ⟨Try.f98, Try.func98, by kernel_rfl, by kernel_rfl⟩

/-- (*citadel/citadelref02.Memory).Read -/
def df100 : DF :=
  ⟨27, .seq (.reg [⟨(some 4), .mv (.k (.s (.i .u64 0))), none⟩,
  ⟨(some 5), .mv (.k (.s (.i .i64 0))), none⟩])
  (.seq (.reg [⟨(some 7), .mv (.t 0), none⟩,
  ⟨(some 8), .mv (.t 1), none⟩,
  ⟨(some 9), .call 110 [(.t 7), (.t 8), (.k (.s (.i .i64 1)))], none⟩,
  ⟨(some 6), .mv (.t 9), none⟩])
  (.seq (.seq (.reg [⟨(some 10), .mv (.t 6), none⟩,
  ⟨(some 11), .un .not (.t 10), none⟩])
  (.cond (.t 11)
  (.seq (.reg [⟨(some 4), .mv (.k (.s (.i .u64 0))), none⟩,
  ⟨(some 5), .mv (.k (.s (.i .i64 20))), none⟩])
  (.ret))
  (.skip)))
  (.seq (.reg [⟨(some 12), .mv (.t 0), none⟩,
  ⟨(some 13), .mv (.t 0), none⟩,
  ⟨(some 14), .nil (.t 13), none⟩,
  ⟨(some 15), .fa (.t 14) 1, none⟩,
  ⟨(some 16), .ld (.t 15) none, none⟩,
  ⟨(some 17), .bin .add (.t 16) (.k (.s (.i .i64 1))), none⟩,
  ⟨(some 18), .nil (.t 12), none⟩,
  ⟨(some 19), .fa (.t 18) 1, none⟩,
  ⟨none, .st (.t 19) (.t 17) 1, none⟩])
  (.seq (.reg [⟨(some 20), .mv (.t 0), none⟩,
  ⟨(some 21), .nil (.t 20), none⟩,
  ⟨(some 22), .fa (.t 21) 0, none⟩,
  ⟨(some 23), .ld (.t 22) none, none⟩,
  ⟨(some 24), .mv (.t 1), none⟩,
  ⟨(some 25), .ia none 1 (.t 23) (.t 24), none⟩,
  ⟨(some 26), .ld (.t 25) none, none⟩,
  ⟨(some 4), .mv (.t 26), none⟩,
  ⟨(some 5), .mv (.k (.s (.i .i64 0))), none⟩])
  (.ret))))), [.t 4, .t 5]⟩
theorem dc100 : compF Try.prog Try.f100 = some df100 := by kernel_rfl
theorem ok100 : FnOk Try.prog 100 := ⟨Try.f100, Try.func100, by kernel_rfl, by kernel_rfl⟩

/-- citadel/citadelref08.There -/
def df102 : DF :=
  ⟨23, .seq (.reg [⟨(some 6), .mv (.k (.s (.b false))), none⟩])
  (.seq (.reg [⟨(some 8), .mv (.t 0), none⟩,
  ⟨(some 9), .mv (.t 1), none⟩,
  ⟨(some 10), .mv (.t 2), none⟩,
  ⟨(some 11), .call 110 [(.t 8), (.t 9), (.t 10)], none⟩,
  ⟨(some 7), .mv (.t 11), none⟩])
  (.seq (.reg [⟨(some 12), .mv (.t 7), none⟩,
  ⟨(some 13), .mv (.t 12), none⟩,
  ⟨(some 14), .mv (.t 1), (some (13, true))⟩,
  ⟨(some 15), .bin .geq (.t 14) (.k (.s (.i .i64 1024))), (some (13, true))⟩,
  ⟨(some 16), .pick (.t 13) (.t 15) (.k (.s (.b false))), none⟩,
  ⟨(some 17), .mv (.t 16), none⟩,
  ⟨(some 18), .mv (.t 1), (some (17, true))⟩,
  ⟨(some 19), .mv (.t 2), (some (17, true))⟩,
  ⟨(some 20), .bin .rem (.t 18) (.t 19), (some (17, true))⟩,
  ⟨(some 21), .bin .eql (.t 20) (.k (.s (.i .i64 0))), (some (17, true))⟩,
  ⟨(some 22), .pick (.t 17) (.t 21) (.k (.s (.b false))), none⟩,
  ⟨(some 6), .mv (.t 22), none⟩])
  (.ret))), [.t 6]⟩
theorem dc102 : compF Try.prog Try.f102 = some df102 := by kernel_rfl
theorem ok102 : FnOk Try.prog 102 := ⟨Try.f102, Try.func102, by kernel_rfl, by kernel_rfl⟩

/-- citadel/citadelref08.RightThread -/
def df103 : DF :=
  ⟨60, .seq (.reg [⟨(some 1), .box (.t 0), none⟩,
  ⟨(some 2), .mv (.k (.s (.b false))), none⟩])
  (.seq (.reg [⟨(some 5), .fa (.t 1) 4, none⟩,
  ⟨(some 6), .ld (.t 5) none, none⟩,
  ⟨(some 7), .call 121 [(.t 6), (.k (.s (.i .i64 0))), (.k (.s (.i .i64 65535)))], none⟩,
  ⟨(some 8), .mv (.t 7), none⟩,
  ⟨(some 9), .fa (.t 1) 5, (some (8, true))⟩,
  ⟨(some 10), .ld (.t 9) none, (some (8, true))⟩,
  ⟨(some 11), .call 121 [(.t 10), (.k (.s (.i .i64 0))), (.k (.s (.i .i64 65535)))], (some (8, true))⟩,
  ⟨(some 12), .pick (.t 8) (.t 11) (.k (.s (.b false))), none⟩,
  ⟨(some 13), .mv (.t 12), none⟩,
  ⟨(some 14), .fa (.t 1) 6, (some (13, true))⟩,
  ⟨(some 15), .ld (.t 14) none, (some (13, true))⟩,
  ⟨(some 16), .call 121 [(.t 15), (.k (.s (.i .i64 0))), (.k (.s (.i .i64 65535)))], (some (13, true))⟩,
  ⟨(some 17), .pick (.t 13) (.t 16) (.k (.s (.b false))), none⟩,
  ⟨(some 18), .mv (.t 17), none⟩,
  ⟨(some 19), .fa (.t 1) 10, (some (18, true))⟩,
  ⟨(some 20), .ld (.t 19) none, (some (18, true))⟩,
  ⟨(some 21), .call 121 [(.t 20), (.k (.s (.i .i64 0))), (.k (.s (.i .i64 65535)))], (some (18, true))⟩,
  ⟨(some 22), .pick (.t 18) (.t 21) (.k (.s (.b false))), none⟩,
  ⟨(some 3), .mv (.t 22), none⟩])
  (.seq (.reg [⟨(some 23), .fa (.t 1) 0, none⟩,
  ⟨(some 24), .ld (.t 23) none, none⟩,
  ⟨(some 25), .call 121 [(.t 24), (.k (.s (.i .i64 0))), (.k (.s (.i .i64 5)))], none⟩,
  ⟨(some 26), .mv (.t 25), none⟩,
  ⟨(some 27), .fa (.t 1) 1, (some (26, true))⟩,
  ⟨(some 28), .ld (.t 27) none, (some (26, true))⟩,
  ⟨(some 29), .call 121 [(.t 28), (.k (.s (.i .i64 0))), (.k (.s (.i .i64 255)))], (some (26, true))⟩,
  ⟨(some 30), .pick (.t 26) (.t 29) (.k (.s (.b false))), none⟩,
  ⟨(some 31), .mv (.t 30), none⟩,
  ⟨(some 32), .fa (.t 1) 2, (some (31, true))⟩,
  ⟨(some 33), .ld (.t 32) none, (some (31, true))⟩,
  ⟨(some 34), .call 121 [(.t 33), (.k (.s (.i .i64 0))), (.k (.s (.i .i64 5)))], (some (31, true))⟩,
  ⟨(some 35), .pick (.t 31) (.t 34) (.k (.s (.b false))), none⟩,
  ⟨(some 36), .mv (.t 35), none⟩,
  ⟨(some 37), .fa (.t 1) 12, (some (36, true))⟩,
  ⟨(some 38), .ld (.t 37) none, (some (36, true))⟩,
  ⟨(some 39), .call 121 [(.t 38), (.k (.s (.i .i64 0))), (.k (.s (.i .i64 3)))], (some (36, true))⟩,
  ⟨(some 40), .pick (.t 36) (.t 39) (.k (.s (.b false))), none⟩,
  ⟨(some 4), .mv (.t 40), none⟩])
  (.seq (.reg [⟨(some 41), .mv (.t 3), none⟩,
  ⟨(some 42), .mv (.t 41), none⟩,
  ⟨(some 43), .mv (.t 4), (some (42, true))⟩,
  ⟨(some 44), .pick (.t 42) (.t 43) (.k (.s (.b false))), none⟩,
  ⟨(some 45), .mv (.t 44), none⟩,
  ⟨(some 46), .fa (.t 1) 7, (some (45, true))⟩,
  ⟨(some 47), .ld (.t 46) none, (some (45, true))⟩,
  ⟨(some 48), .call 121 [(.t 47), (.k (.s (.i .i64 0))), (.k (.s (.i .i64 268435455)))], (some (45, true))⟩,
  ⟨(some 49), .pick (.t 45) (.t 48) (.k (.s (.b false))), none⟩,
  ⟨(some 50), .mv (.t 49), none⟩,
  ⟨(some 51), .fa (.t 1) 11, (some (50, true))⟩,
  ⟨(some 52), .ld (.t 51) none, (some (50, true))⟩,
  ⟨(some 53), .call 121 [(.t 52), (.k (.s (.i .i64 0))), (.k (.s (.i .i64 4294967295)))], (some (50, true))⟩,
  ⟨(some 54), .pick (.t 50) (.t 53) (.k (.s (.b false))), none⟩,
  ⟨(some 55), .mv (.t 54), none⟩,
  ⟨(some 56), .fa (.t 1) 13, (some (55, true))⟩,
  ⟨(some 57), .ld (.t 56) none, (some (55, true))⟩,
  ⟨(some 58), .call 121 [(.t 57), (.k (.s (.i .i64 0))), (.k (.s (.i .i64 4294967295)))], (some (55, true))⟩,
  ⟨(some 59), .pick (.t 55) (.t 58) (.k (.s (.b false))), none⟩,
  ⟨(some 2), .mv (.t 59), none⟩])
  (.ret)))), [.t 2]⟩
theorem dc103 : compF Try.prog Try.f103 = some df103 := by kernel_rfl
theorem ok103 : FnOk Try.prog 103 := ⟨Try.f103, Try.func103, by kernel_rfl, by kernel_rfl⟩

/-- citadel/citadelref08.head -/
def df104 : DF :=
  ⟨70, .seq (.reg [⟨(some 1), .box (.t 0), none⟩,
  ⟨(some 2), .new [.i .u64 0, .i .u64 0, .i .u64 0, .i .u64 0], none⟩])
  (.seq (.drm [(true, ⟨(some 5), .fa (.t 1) 0, none⟩),
  (true, ⟨(some 6), .ld (.t 5) none, none⟩),
  (true, ⟨(some 7), .conv .u64 (.t 6), none⟩),
  (true, ⟨(some 8), .fa (.t 1) 1, none⟩),
  (true, ⟨(some 9), .ld (.t 8) none, none⟩),
  (true, ⟨(some 10), .conv .u64 (.t 9), none⟩),
  (true, ⟨(some 11), .bin .shl (.t 10) (.k (.s (.i .u64 3))), none⟩),
  (true, ⟨(some 12), .bin .add (.t 7) (.t 11), none⟩),
  (true, ⟨(some 13), .fa (.t 1) 2, none⟩),
  (true, ⟨(some 14), .ld (.t 13) none, none⟩),
  (true, ⟨(some 15), .conv .u64 (.t 14), none⟩),
  (true, ⟨(some 16), .bin .shl (.t 15) (.k (.s (.i .u64 11))), none⟩),
  (true, ⟨(some 17), .bin .add (.t 12) (.t 16), none⟩),
  (true, ⟨(some 18), .fa (.t 1) 3, none⟩),
  (true, ⟨(some 19), .ld (.t 18) none, none⟩),
  (true, ⟨(some 23), .fa (.t 1) 8, none⟩),
  (true, ⟨(some 24), .ld (.t 23) none, none⟩),
  (true, ⟨(some 28), .fa (.t 1) 9, none⟩),
  (true, ⟨(some 29), .ld (.t 28) none, none⟩),
  (true, ⟨(some 33), .fa (.t 1) 12, none⟩),
  (true, ⟨(some 34), .ld (.t 33) none, none⟩),
  (true, ⟨(some 35), .conv .u64 (.t 34), none⟩),
  (true, ⟨(some 36), .bin .shl (.t 35) (.k (.s (.i .u64 17))), none⟩),
  (true, ⟨(some 20), .call 122 [(.t 19)], none⟩),
  (true, ⟨(some 21), .bin .shl (.t 20) (.k (.s (.i .u64 14))), none⟩),
  (true, ⟨(some 22), .bin .add (.t 17) (.t 21), none⟩),
  (true, ⟨(some 25), .call 122 [(.t 24)], none⟩),
  (true, ⟨(some 26), .bin .shl (.t 25) (.k (.s (.i .u64 15))), none⟩),
  (true, ⟨(some 27), .bin .add (.t 22) (.t 26), none⟩),
  (true, ⟨(some 30), .call 122 [(.t 29)], none⟩),
  (true, ⟨(some 31), .bin .shl (.t 30) (.k (.s (.i .u64 16))), none⟩),
  (true, ⟨(some 32), .bin .add (.t 27) (.t 31), none⟩),
  (true, ⟨(some 37), .bin .add (.t 32) (.t 36), none⟩),
  (true, ⟨(some 3), .mv (.t 37), none⟩)])
  (.seq (.reg [⟨(some 38), .fa (.t 1) 4, none⟩,
  ⟨(some 39), .ld (.t 38) none, none⟩,
  ⟨(some 40), .conv .u64 (.t 39), none⟩,
  ⟨(some 41), .fa (.t 1) 5, none⟩,
  ⟨(some 42), .ld (.t 41) none, none⟩,
  ⟨(some 43), .conv .u64 (.t 42), none⟩,
  ⟨(some 44), .bin .shl (.t 43) (.k (.s (.i .u64 16))), none⟩,
  ⟨(some 45), .bin .add (.t 40) (.t 44), none⟩,
  ⟨(some 46), .fa (.t 1) 6, none⟩,
  ⟨(some 47), .ld (.t 46) none, none⟩,
  ⟨(some 48), .conv .u64 (.t 47), none⟩,
  ⟨(some 49), .bin .shl (.t 48) (.k (.s (.i .u64 32))), none⟩,
  ⟨(some 50), .bin .add (.t 45) (.t 49), none⟩,
  ⟨(some 51), .fa (.t 1) 10, none⟩,
  ⟨(some 52), .ld (.t 51) none, none⟩,
  ⟨(some 53), .conv .u64 (.t 52), none⟩,
  ⟨(some 54), .bin .shl (.t 53) (.k (.s (.i .u64 48))), none⟩,
  ⟨(some 55), .bin .add (.t 50) (.t 54), none⟩,
  ⟨(some 4), .mv (.t 55), none⟩])
  (.seq (.reg [⟨(some 56), .mv (.t 3), none⟩,
  ⟨(some 57), .mv (.t 4), none⟩,
  ⟨(some 58), .fa (.t 1) 7, none⟩,
  ⟨(some 59), .ld (.t 58) none, none⟩,
  ⟨(some 60), .conv .u64 (.t 59), none⟩,
  ⟨(some 61), .fa (.t 1) 11, none⟩,
  ⟨(some 62), .ld (.t 61) none, none⟩,
  ⟨(some 63), .conv .u64 (.t 62), none⟩,
  ⟨(some 64), .fa (.t 1) 13, none⟩,
  ⟨(some 65), .ld (.t 64) none, none⟩,
  ⟨(some 66), .conv .u64 (.t 65), none⟩,
  ⟨(some 67), .bin .shl (.t 66) (.k (.s (.i .u64 32))), none⟩,
  ⟨(some 68), .bin .add (.t 63) (.t 67), none⟩,
  ⟨(some 69), .build [.i .u64 0, .i .u64 0, .i .u64 0, .i .u64 0] [(0, 1, (.t 56)), (1, 1, (.t 57)), (2, 1, (.t 60)), (3, 1, (.t 68))], none⟩,
  ⟨none, .st (.t 2) (.t 69) 4, none⟩])
  (.ret)))), [.c 2 (some 4)]⟩
theorem dc104 : compF Try.prog Try.f104 = some df104 := by kernel_rfl
theorem ok104 : FnOk Try.prog 104 := ⟨Try.f104, Try.func104, by kernel_rfl, by kernel_rfl⟩

/-- citadel/citadelref08.RightQueue -/
def df105 : DF :=
  ⟨22, .seq (.reg [⟨(some 1), .box (.t 0), none⟩,
  ⟨(some 2), .mv (.k (.s (.b false))), none⟩])
  (.seq (.seq (.reg [⟨(some 3), .fa (.t 1) 0, none⟩,
  ⟨(some 4), .ld (.t 3) none, none⟩,
  ⟨(some 5), .bin .eql (.t 4) (.k (.s (.i .i64 0))), none⟩])
  (.cond (.t 5)
  (.seq (.reg [⟨(some 6), .ld (.t 1) (some 3), none⟩,
  ⟨(some 7), .build [.i .i64 0, .i .i64 0, .i .i64 0] [], none⟩,
  ⟨(some 8), .eqa false [true, true, true] (.t 6) (.t 7), none⟩,
  ⟨(some 2), .mv (.t 8), none⟩])
  (.ret))
  (.skip)))
  (.seq (.reg [⟨(some 9), .fa (.t 1) 0, none⟩,
  ⟨(some 10), .ld (.t 9) none, none⟩,
  ⟨(some 11), .call 121 [(.t 10), (.k (.s (.i .i64 1))), (.k (.s (.i .i64 2)))], none⟩,
  ⟨(some 12), .mv (.t 11), none⟩,
  ⟨(some 13), .fa (.t 1) 1, (some (12, true))⟩,
  ⟨(some 14), .ld (.t 13) none, (some (12, true))⟩,
  ⟨(some 15), .call 121 [(.t 14), (.k (.s (.i .i64 1))), (.k (.s (.i .i64 65535)))], (some (12, true))⟩,
  ⟨(some 16), .pick (.t 12) (.t 15) (.k (.s (.b false))), none⟩,
  ⟨(some 17), .mv (.t 16), none⟩,
  ⟨(some 18), .fa (.t 1) 2, (some (17, true))⟩,
  ⟨(some 19), .ld (.t 18) none, (some (17, true))⟩,
  ⟨(some 20), .call 121 [(.t 19), (.k (.s (.i .i64 1))), (.k (.s (.i .i64 65535)))], (some (17, true))⟩,
  ⟨(some 21), .pick (.t 17) (.t 20) (.k (.s (.b false))), none⟩,
  ⟨(some 2), .mv (.t 21), none⟩])
  (.ret))), [.t 2]⟩
theorem dc105 : compF Try.prog Try.f105 = some df105 := by kernel_rfl
theorem ok105 : FnOk Try.prog 105 := ⟨Try.f105, Try.func105, by kernel_rfl, by kernel_rfl⟩

/-- citadel/citadelref08.queued -/
def df106 : DF :=
  ⟨17, .seq (.reg [⟨(some 6), .mv (.k (.s (.i .u64 0))), none⟩])
  (.seq (.reg [⟨(some 7), .mv (.t 0), none⟩,
  ⟨(some 8), .conv .u64 (.t 7), none⟩,
  ⟨(some 9), .mv (.t 1), none⟩,
  ⟨(some 10), .conv .u64 (.t 9), none⟩,
  ⟨(some 11), .bin .shl (.t 10) (.k (.s (.i .u64 2))), none⟩,
  ⟨(some 12), .bin .add (.t 8) (.t 11), none⟩,
  ⟨(some 13), .mv (.t 2), none⟩,
  ⟨(some 14), .conv .u64 (.t 13), none⟩,
  ⟨(some 15), .bin .shl (.t 14) (.k (.s (.i .u64 18))), none⟩,
  ⟨(some 16), .bin .add (.t 12) (.t 15), none⟩,
  ⟨(some 6), .mv (.t 16), none⟩])
  (.ret)), [.t 6]⟩
theorem dc106 : compF Try.prog Try.f106 = some df106 := by kernel_rfl
theorem ok106 : FnOk Try.prog 106 := ⟨Try.f106, Try.func106, by kernel_rfl, by kernel_rfl⟩

/-- citadel/citadelref08.RightSignal -/
def df107 : DF :=
  ⟨55, .seq (.reg [⟨(some 1), .box (.t 0), none⟩,
  ⟨(some 2), .mv (.k (.s (.b false))), none⟩])
  (.seq (.seq (.reg [⟨(some 3), .fa (.t 1) 4, none⟩,
  ⟨(some 4), .ld (.t 3) none, none⟩,
  ⟨(some 5), .call 121 [(.t 4), (.k (.s (.i .i64 0))), (.k (.s (.i .i64 65535)))], none⟩,
  ⟨(some 6), .un .not (.t 5), none⟩,
  ⟨(some 7), .mv (.t 6), none⟩,
  ⟨(some 8), .fa (.t 1) 3, (some (7, false))⟩,
  ⟨(some 9), .ld (.t 8) none, (some (7, false))⟩,
  ⟨(some 10), .call 121 [(.t 9), (.k (.s (.i .i64 0))), (.k (.s (.i .i64 268435455)))], (some (7, false))⟩,
  ⟨(some 11), .un .not (.t 10), (some (7, false))⟩,
  ⟨(some 12), .pick (.t 7) (.k (.s (.b true))) (.t 11), none⟩])
  (.cond (.t 12)
  (.seq (.reg [⟨(some 2), .mv (.k (.s (.b false))), none⟩])
  (.ret))
  (.skip)))
  (.seq (.seq (.reg [⟨(some 13), .fa (.t 1) 0, none⟩,
  ⟨(some 14), .ld (.t 13) none, none⟩])
  (.block 0 (.seq (.reg [⟨(some 16), .bin .eql (.t 14) (.k (.s (.i .i64 0))), none⟩,
  ⟨(some 15), .mv (.t 16), none⟩])
  (.cond (.t 15)
  (.seq (.reg [⟨(some 17), .fa (.t 1) 1, none⟩,
  ⟨(some 18), .ld (.t 17) none, none⟩,
  ⟨(some 19), .bin .eql (.t 18) (.k (.s (.i .i64 0))), none⟩,
  ⟨(some 20), .mv (.t 19), none⟩,
  ⟨(some 21), .fa (.t 1) 2, (some (20, true))⟩,
  ⟨(some 22), .ld (.t 21) none, (some (20, true))⟩,
  ⟨(some 23), .bin .eql (.t 22) (.k (.s (.i .i64 0))), (some (20, true))⟩,
  ⟨(some 24), .pick (.t 20) (.t 23) (.k (.s (.b false))), none⟩,
  ⟨(some 25), .mv (.t 24), none⟩,
  ⟨(some 26), .fa (.t 1) 3, (some (25, true))⟩,
  ⟨(some 27), .ld (.t 26) none, (some (25, true))⟩,
  ⟨(some 28), .bin .eql (.t 27) (.k (.s (.i .i64 0))), (some (25, true))⟩,
  ⟨(some 29), .pick (.t 25) (.t 28) (.k (.s (.b false))), none⟩,
  ⟨(some 2), .mv (.t 29), none⟩])
  (.ret))
  (.seq (.reg [⟨(some 31), .bin .eql (.t 14) (.k (.s (.i .i64 1))), none⟩,
  ⟨(some 30), .mv (.t 31), none⟩])
  (.cond (.t 30)
  (.seq (.reg [⟨(some 32), .fa (.t 1) 1, none⟩,
  ⟨(some 33), .ld (.t 32) none, none⟩,
  ⟨(some 34), .call 121 [(.t 33), (.k (.s (.i .i64 1))), (.k (.s (.i .i64 65535)))], none⟩,
  ⟨(some 35), .mv (.t 34), none⟩,
  ⟨(some 36), .fa (.t 1) 2, (some (35, true))⟩,
  ⟨(some 37), .ld (.t 36) none, (some (35, true))⟩,
  ⟨(some 38), .call 121 [(.t 37), (.k (.s (.i .i64 1))), (.k (.s (.i .i64 65535)))], (some (35, true))⟩,
  ⟨(some 39), .pick (.t 35) (.t 38) (.k (.s (.b false))), none⟩,
  ⟨(some 40), .mv (.t 39), none⟩,
  ⟨(some 41), .fa (.t 1) 3, (some (40, true))⟩,
  ⟨(some 42), .ld (.t 41) none, (some (40, true))⟩,
  ⟨(some 43), .bin .eql (.t 42) (.k (.s (.i .i64 0))), (some (40, true))⟩,
  ⟨(some 44), .pick (.t 40) (.t 43) (.k (.s (.b false))), none⟩,
  ⟨(some 2), .mv (.t 44), none⟩])
  (.ret))
  (.seq (.reg [⟨(some 46), .bin .eql (.t 14) (.k (.s (.i .i64 2))), none⟩,
  ⟨(some 45), .mv (.t 46), none⟩])
  (.cond (.t 45)
  (.seq (.reg [⟨(some 47), .fa (.t 1) 1, none⟩,
  ⟨(some 48), .ld (.t 47) none, none⟩,
  ⟨(some 49), .bin .eql (.t 48) (.k (.s (.i .i64 0))), none⟩,
  ⟨(some 50), .mv (.t 49), none⟩,
  ⟨(some 51), .fa (.t 1) 2, (some (50, true))⟩,
  ⟨(some 52), .ld (.t 51) none, (some (50, true))⟩,
  ⟨(some 53), .bin .eql (.t 52) (.k (.s (.i .i64 0))), (some (50, true))⟩,
  ⟨(some 54), .pick (.t 50) (.t 53) (.k (.s (.b false))), none⟩,
  ⟨(some 2), .mv (.t 54), none⟩])
  (.ret))
  (.skip)))))))))
  (.seq (.reg [⟨(some 2), .mv (.k (.s (.b false))), none⟩])
  (.ret)))), [.t 2]⟩
theorem dc107 : compF Try.prog Try.f107 = some df107 := by kernel_rfl
theorem ok107 : FnOk Try.prog 107 := ⟨Try.f107, Try.func107, by kernel_rfl, by kernel_rfl⟩

/-- citadel/citadelref05.Encode -/
def df108 : DF :=
  ⟨28, .seq (.reg [⟨(some 1), .box (.t 0), none⟩,
  ⟨(some 2), .mv (.k (.s (.i .u64 0))), none⟩,
  ⟨(some 3), .mv (.k (.s (.i .i64 0))), none⟩])
  (.seq (.reg [⟨(some 6), .ld (.t 1) (some 4), none⟩,
  ⟨(some 7), .call 123 [(.t 6)], none⟩,
  ⟨(some 4), .mv (.t 7), none⟩])
  (.seq (.seq (.reg [⟨(some 8), .mv (.t 4), none⟩,
  ⟨(some 9), .un .not (.t 8), none⟩])
  (.cond (.t 9)
  (.seq (.reg [⟨(some 2), .mv (.k (.s (.i .u64 0))), none⟩,
  ⟨(some 3), .mv (.k (.s (.i .i64 10))), none⟩])
  (.ret))
  (.skip)))
  (.seq (.reg [⟨(some 10), .fa (.t 1) 2, none⟩,
  ⟨(some 11), .ld (.t 10) none, none⟩,
  ⟨(some 12), .conv .u64 (.t 11), none⟩,
  ⟨(some 13), .bin .mul (.t 12) (.k (.s (.i .u64 65536))), none⟩,
  ⟨(some 14), .fa (.t 1) 3, none⟩,
  ⟨(some 15), .ld (.t 14) none, none⟩,
  ⟨(some 16), .conv .u64 (.t 15), none⟩,
  ⟨(some 17), .bin .mul (.t 16) (.k (.s (.i .u64 4))), none⟩,
  ⟨(some 18), .bin .add (.t 13) (.t 17), none⟩,
  ⟨(some 5), .mv (.t 18), none⟩])
  (.seq (.seq (.reg [⟨(some 19), .fa (.t 1) 0, none⟩,
  ⟨(some 20), .ld (.t 19) none, none⟩])
  (.cond (.t 20)
  (.reg [⟨(some 21), .mv (.t 5), none⟩,
  ⟨(some 22), .bin .add (.t 21) (.k (.s (.i .u64 1))), none⟩,
  ⟨(some 5), .mv (.t 22), none⟩])
  (.skip)))
  (.seq (.seq (.reg [⟨(some 23), .fa (.t 1) 1, none⟩,
  ⟨(some 24), .ld (.t 23) none, none⟩])
  (.cond (.t 24)
  (.reg [⟨(some 25), .mv (.t 5), none⟩,
  ⟨(some 26), .bin .add (.t 25) (.k (.s (.i .u64 2))), none⟩,
  ⟨(some 5), .mv (.t 26), none⟩])
  (.skip)))
  (.seq (.reg [⟨(some 27), .mv (.t 5), none⟩,
  ⟨(some 2), .mv (.t 27), none⟩,
  ⟨(some 3), .mv (.k (.s (.i .i64 0))), none⟩])
  (.ret))))))), [.t 2, .t 3]⟩
theorem dc108 : compF Try.prog Try.f108 = some df108 := by kernel_rfl
theorem ok108 : FnOk Try.prog 108 := ⟨Try.f108, Try.func108, by kernel_rfl, by kernel_rfl⟩

/-- citadel/citadelref08.rooted -/
def df109 : DF :=
  ⟨14, .seq (.reg [⟨(some 2), .mv (.k (.s (.b false))), none⟩])
  (.seq (.reg [⟨(some 3), .mv (.t 0), none⟩,
  ⟨(some 4), .bin .eql (.t 3) (.k (.s (.i .i64 0))), none⟩,
  ⟨(some 5), .mv (.t 4), none⟩,
  ⟨(some 6), .mv (.t 0), (some (5, false))⟩,
  ⟨(some 7), .call 121 [(.t 6), (.k (.s (.i .i64 1024))), (.k (.s (.i .i64 65528)))], (some (5, false))⟩,
  ⟨(some 8), .mv (.t 7), (some (5, false))⟩,
  ⟨(some 9), .mv (.t 0), (some (8, true))⟩,
  ⟨(some 10), .bin .rem (.t 9) (.k (.s (.i .i64 8))), (some (8, true))⟩,
  ⟨(some 11), .bin .eql (.t 10) (.k (.s (.i .i64 0))), (some (8, true))⟩,
  ⟨(some 12), .pick (.t 8) (.t 11) (.k (.s (.b false))), (some (5, false))⟩,
  ⟨(some 13), .pick (.t 5) (.k (.s (.b true))) (.t 12), none⟩,
  ⟨(some 2), .mv (.t 13), none⟩])
  (.ret)), [.t 2]⟩
theorem dc109 : compF Try.prog Try.f109 = some df109 := by kernel_rfl
theorem ok109 : FnOk Try.prog 109 := ⟨Try.f109, Try.func109, by kernel_rfl, by kernel_rfl⟩

/-- (*citadel/citadelref02.Memory).There -/
def df110 : DF :=
  ⟨33, .seq (.reg [⟨(some 6), .mv (.k (.s (.b false))), none⟩])
  (.seq (.reg [⟨(some 7), .mv (.t 1), none⟩,
  ⟨(some 8), .bin .geq (.t 7) (.k (.s (.i .i64 0))), none⟩,
  ⟨(some 9), .mv (.t 8), none⟩,
  ⟨(some 10), .mv (.t 2), (some (9, true))⟩,
  ⟨(some 11), .bin .geq (.t 10) (.k (.s (.i .i64 0))), (some (9, true))⟩,
  ⟨(some 12), .pick (.t 9) (.t 11) (.k (.s (.b false))), none⟩,
  ⟨(some 13), .mv (.t 12), none⟩,
  ⟨(some 14), .mv (.t 1), (some (13, true))⟩,
  ⟨(some 15), .mv (.t 0), (some (13, true))⟩,
  ⟨(some 16), .nil (.t 15), (some (13, true))⟩,
  ⟨(some 17), .fa (.t 16) 0, (some (13, true))⟩,
  ⟨(some 18), .ld (.t 17) none, (some (13, true))⟩,
  ⟨(some 19), .len (.t 18), (some (13, true))⟩,
  ⟨(some 20), .bin .leq (.t 14) (.t 19), (some (13, true))⟩,
  ⟨(some 21), .pick (.t 13) (.t 20) (.k (.s (.b false))), none⟩,
  ⟨(some 22), .mv (.t 21), none⟩,
  ⟨(some 23), .mv (.t 2), (some (22, true))⟩,
  ⟨(some 24), .mv (.t 0), (some (22, true))⟩,
  ⟨(some 25), .nil (.t 24), (some (22, true))⟩,
  ⟨(some 26), .fa (.t 25) 0, (some (22, true))⟩,
  ⟨(some 27), .ld (.t 26) none, (some (22, true))⟩,
  ⟨(some 28), .len (.t 27), (some (22, true))⟩,
  ⟨(some 29), .mv (.t 1), (some (22, true))⟩,
  ⟨(some 30), .bin .sub (.t 28) (.t 29), (some (22, true))⟩,
  ⟨(some 31), .bin .leq (.t 23) (.t 30), (some (22, true))⟩,
  ⟨(some 32), .pick (.t 22) (.t 31) (.k (.s (.b false))), none⟩,
  ⟨(some 6), .mv (.t 32), none⟩])
  (.ret)), [.t 6]⟩
theorem dc110 : compF Try.prog Try.f110 = some df110 := by kernel_rfl
theorem ok110 : FnOk Try.prog 110 := ⟨Try.f110, Try.func110, by kernel_rfl, by kernel_rfl⟩

/-- (*citadel/mem.Memory).Words -/
def df111 : DF :=
  ⟨8, .seq (.reg [⟨(some 2), .mv (.k (.s (.i .i64 0))), none⟩])
  (.seq (.reg [⟨(some 3), .mv (.t 0), none⟩,
  ⟨(some 4), .nil (.t 3), none⟩,
  ⟨(some 5), .fa (.t 4) 0, none⟩,
  ⟨(some 6), .ld (.t 5) none, none⟩,
  ⟨(some 7), .len (.t 6), none⟩,
  ⟨(some 2), .mv (.t 7), none⟩])
  (.ret)), [.t 2]⟩
theorem dc111 : compF Try.prog Try.f111 = some df111 := by kernel_rfl
theorem ok111 : FnOk Try.prog 111 := ⟨Try.f111, Try.func111, by kernel_rfl, by kernel_rfl⟩

/-- citadel/objs.in -/
def df112 : DF :=
  ⟨12, .seq (.reg [⟨(some 4), .mv (.k (.s (.b false))), none⟩])
  (.seq (.reg [⟨(some 5), .mv (.t 0), none⟩,
  ⟨(some 6), .bin .geq (.t 5) (.k (.s (.i .i64 0))), none⟩,
  ⟨(some 7), .mv (.t 6), none⟩,
  ⟨(some 8), .mv (.t 0), (some (7, true))⟩,
  ⟨(some 9), .mv (.t 1), (some (7, true))⟩,
  ⟨(some 10), .bin .leq (.t 8) (.t 9), (some (7, true))⟩,
  ⟨(some 11), .pick (.t 7) (.t 10) (.k (.s (.b false))), none⟩,
  ⟨(some 4), .mv (.t 11), none⟩])
  (.ret)), [.t 4]⟩
theorem dc112 : compF Try.prog Try.f112 = some df112 := by kernel_rfl
theorem ok112 : FnOk Try.prog 112 := ⟨Try.f112, Try.func112, by kernel_rfl, by kernel_rfl⟩

/-- citadel/objs.flag -/
def df113 : DF :=
  ⟨6, .seq (.reg [⟨(some 2), .new [.i .i64 0, .i .i64 0], none⟩])
  (.seq (.seq (.reg [⟨(some 3), .mv (.t 0), none⟩])
  (.cond (.t 3)
  (.seq (.reg [⟨(some 4), .build [.i .i64 0, .i .i64 0] [(0, 1, (.k (.s (.i .i64 1)))), (1, 1, (.k (.s (.i .i64 1))))], none⟩,
  ⟨none, .st (.t 2) (.t 4) 2, none⟩])
  (.ret))
  (.skip)))
  (.seq (.reg [⟨(some 5), .build [.i .i64 0, .i .i64 0] [(0, 1, (.k (.s (.i .i64 1)))), (1, 1, (.k (.s (.i .i64 0))))], none⟩,
  ⟨none, .st (.t 2) (.t 5) 2, none⟩])
  (.ret))), [.c 2 (some 2)]⟩
theorem dc113 : compF Try.prog Try.f113 = some df113 := by kernel_rfl
theorem ok113 : FnOk Try.prog 113 := ⟨Try.f113, Try.func113, by kernel_rfl, by kernel_rfl⟩

/-- citadel/word.Pack -/
def df114 : DF :=
  ⟨34, .seq (.reg [⟨(some 2), .mv (.k (.s (.i .u64 0))), none⟩,
  ⟨(some 3), .mv (.k (.s (.i .i64 0))), none⟩])
  (.seq (.reg [⟨(some 4), .mv (.k (.s (.i .u64 0))), none⟩,
  ⟨(some 5), .mv (.k (.s (.i .i64 0))), none⟩])
  (.seq (.seq (.reg [⟨(some 9), .mv (.t 0), none⟩,
  ⟨(some 10), .len (.t 9), none⟩,
  ⟨(some 11), .mv (.k (.s (.i .i64 0))), none⟩])
  (.block 0 (.loop (.seq (.reg [⟨(some 12), .bin .lss (.t 11) (.t 10), none⟩])
  (.seq (.cond (.t 12)
  (.skip)
  (.exit 0))
  (.seq (.block 1 (.seq (.reg [⟨(some 13), .ia none 2 (.t 9) (.t 11), none⟩,
  ⟨(some 14), .ld (.t 13) (some 2), none⟩,
  ⟨(some 7), .new [.i .i64 0, .i .u64 0], none⟩,
  ⟨none, .st (.t 7) (.t 14) 2, none⟩])
  (.seq (.reg [⟨(some 8), .mv (.k (.s (.i .i64 0))), none⟩])
  (.seq (.seq (.reg [⟨(some 16), .mv (.t 4), none⟩,
  ⟨(some 17), .mv (.t 5), none⟩,
  ⟨(some 18), .fa (.t 7) 0, none⟩,
  ⟨(some 19), .ld (.t 18) none, none⟩,
  ⟨(some 20), .fa (.t 7) 1, none⟩,
  ⟨(some 21), .ld (.t 20) none, none⟩,
  ⟨(some 22), .call 124 [(.t 16), (.t 17), (.t 19), (.t 21)], none⟩,
  ⟨(some 15), .mv (.t 22), none⟩,
  ⟨(some 23), .ext (.t 15) 0, none⟩,
  ⟨(some 24), .ext (.t 15) 1, none⟩,
  ⟨(some 4), .mv (.t 23), none⟩,
  ⟨(some 8), .mv (.t 24), none⟩])
  (.seq (.reg [⟨(some 25), .mv (.t 8), none⟩,
  ⟨(some 26), .bin .neq (.t 25) (.k (.s (.i .i64 0))), none⟩])
  (.cond (.t 26)
  (.seq (.reg [⟨(some 27), .mv (.t 8), none⟩,
  ⟨(some 2), .mv (.k (.s (.i .u64 0))), none⟩,
  ⟨(some 3), .mv (.t 27), none⟩])
  (.ret))
  (.skip))))
  (.reg [⟨(some 28), .mv (.t 5), none⟩,
  ⟨(some 29), .fa (.t 7) 0, none⟩,
  ⟨(some 30), .ld (.t 29) none, none⟩,
  ⟨(some 31), .bin .add (.t 28) (.t 30), none⟩,
  ⟨(some 5), .mv (.t 31), none⟩])))))
  (.reg [⟨(some 32), .bin .add (.t 11) (.k (.s (.i .i64 1))), none⟩,
  ⟨(some 11), .mv (.t 32), none⟩])))))))
  (.seq (.reg [⟨(some 33), .mv (.t 4), none⟩,
  ⟨(some 2), .mv (.t 33), none⟩,
  ⟨(some 3), .mv (.k (.s (.i .i64 0))), none⟩])
  (.ret)))), [.t 2, .t 3]⟩
theorem dc114 : compF Try.prog Try.f114 = some df114 := by kernel_rfl
theorem ok114 : FnOk Try.prog 114 := ⟨Try.f114, Try.func114, by kernel_rfl, by kernel_rfl⟩

/-- citadel/walk.may -/
def df115 : DF :=
  ⟨29, .seq (.reg [⟨(some 1), .box (.t 0), none⟩,
  ⟨(some 2), .mv (.k (.s (.b false))), none⟩])
  (.seq (.block 0 (.seq (.reg [⟨(some 4), .fa (.t 1) 0, none⟩,
  ⟨(some 5), .ld (.t 4) none, none⟩,
  ⟨(some 6), .un .not (.t 5), none⟩,
  ⟨(some 3), .mv (.t 6), none⟩])
  (.cond (.t 3)
  (.seq (.reg [⟨(some 7), .ld (.t 1) (some 4), none⟩,
  ⟨(some 8), .build [.b false, .b false, .i .i64 0, .i .i64 0] [], none⟩,
  ⟨(some 9), .eqa false [false, false, true, true] (.t 7) (.t 8), none⟩,
  ⟨(some 2), .mv (.t 9), none⟩])
  (.ret))
  (.seq (.reg [⟨(some 11), .fa (.t 1) 1, none⟩,
  ⟨(some 12), .ld (.t 11) none, none⟩,
  ⟨(some 10), .mv (.t 12), none⟩])
  (.cond (.t 10)
  (.seq (.reg [⟨(some 13), .fa (.t 1) 2, none⟩,
  ⟨(some 14), .ld (.t 13) none, none⟩,
  ⟨(some 15), .call 125 [(.t 14), (.k (.s (.i .i64 16))), (.k (.s (.i .i64 65520))), (.k (.s (.i .i64 16)))], none⟩,
  ⟨(some 16), .mv (.t 15), none⟩,
  ⟨(some 17), .fa (.t 1) 3, (some (16, true))⟩,
  ⟨(some 18), .ld (.t 17) none, (some (16, true))⟩,
  ⟨(some 19), .call 125 [(.t 18), (.k (.s (.i .i64 0))), (.k (.s (.i .i64 3))), (.k (.s (.i .i64 1)))], (some (16, true))⟩,
  ⟨(some 20), .pick (.t 16) (.t 19) (.k (.s (.b false))), none⟩,
  ⟨(some 2), .mv (.t 20), none⟩])
  (.ret))
  (.skip))))))
  (.seq (.reg [⟨(some 21), .fa (.t 1) 2, none⟩,
  ⟨(some 22), .ld (.t 21) none, none⟩,
  ⟨(some 23), .call 125 [(.t 22), (.k (.s (.i .i64 8))), (.k (.s (.i .i64 65528))), (.k (.s (.i .i64 8)))], none⟩,
  ⟨(some 24), .mv (.t 23), none⟩,
  ⟨(some 25), .fa (.t 1) 3, (some (24, true))⟩,
  ⟨(some 26), .ld (.t 25) none, (some (24, true))⟩,
  ⟨(some 27), .bin .eql (.t 26) (.k (.s (.i .i64 0))), (some (24, true))⟩,
  ⟨(some 28), .pick (.t 24) (.t 27) (.k (.s (.b false))), none⟩,
  ⟨(some 2), .mv (.t 28), none⟩])
  (.ret))), [.t 2]⟩
theorem dc115 : compF Try.prog Try.f115 = some df115 := by kernel_rfl
theorem ok115 : FnOk Try.prog 115 := ⟨Try.f115, Try.func115, by kernel_rfl, by kernel_rfl⟩

/-- citadel/citadelref05.Decode -/
def df116 : DF :=
  ⟨37, .seq (.reg [⟨(some 2), .new [.b false, .b false, .i .i64 0, .i .i64 0], none⟩,
  ⟨(some 3), .mv (.k (.s (.i .i64 0))), none⟩])
  (.seq (.reg [⟨(some 7), .mv (.t 0), none⟩,
  ⟨(some 8), .bin .rem (.t 7) (.k (.s (.i .u64 2))), none⟩,
  ⟨(some 9), .bin .eql (.t 8) (.k (.s (.i .u64 1))), none⟩,
  ⟨(some 10), .mv (.t 0), none⟩,
  ⟨(some 11), .bin .quo (.t 10) (.k (.s (.i .u64 2))), none⟩,
  ⟨(some 12), .bin .rem (.t 11) (.k (.s (.i .u64 2))), none⟩,
  ⟨(some 13), .bin .eql (.t 12) (.k (.s (.i .u64 1))), none⟩,
  ⟨(some 14), .mv (.t 0), none⟩,
  ⟨(some 15), .bin .quo (.t 14) (.k (.s (.i .u64 4))), none⟩,
  ⟨(some 16), .bin .rem (.t 15) (.k (.s (.i .u64 4))), none⟩,
  ⟨(some 17), .conv .i64 (.t 16), none⟩,
  ⟨(some 18), .mv (.t 0), none⟩,
  ⟨(some 19), .bin .quo (.t 18) (.k (.s (.i .u64 65536))), none⟩,
  ⟨(some 20), .bin .rem (.t 19) (.k (.s (.i .u64 65536))), none⟩,
  ⟨(some 21), .conv .i64 (.t 20), none⟩,
  ⟨(some 22), .build [.b false, .b false, .i .i64 0, .i .i64 0] [(0, 1, (.t 9)), (1, 1, (.t 13)), (3, 1, (.t 17)), (2, 1, (.t 21))], none⟩,
  ⟨(some 4), .new [.b false, .b false, .i .i64 0, .i .i64 0], none⟩,
  ⟨none, .st (.t 4) (.t 22) 4, none⟩])
  (.seq (.reg [⟨(some 24), .ld (.t 4) (some 4), none⟩,
  ⟨(some 25), .call 108 [(.t 24)], none⟩,
  ⟨(some 23), .mv (.t 25), none⟩,
  ⟨(some 26), .ext (.t 23) 0, none⟩,
  ⟨(some 27), .ext (.t 23) 1, none⟩,
  ⟨(some 5), .mv (.t 26), none⟩,
  ⟨(some 6), .mv (.t 27), none⟩])
  (.seq (.seq (.reg [⟨(some 28), .mv (.t 6), none⟩,
  ⟨(some 29), .bin .neq (.t 28) (.k (.s (.i .i64 0))), none⟩,
  ⟨(some 30), .mv (.t 29), none⟩,
  ⟨(some 31), .mv (.t 5), (some (30, false))⟩,
  ⟨(some 32), .mv (.t 0), (some (30, false))⟩,
  ⟨(some 33), .bin .neq (.t 31) (.t 32), (some (30, false))⟩,
  ⟨(some 34), .pick (.t 30) (.k (.s (.b true))) (.t 33), none⟩])
  (.cond (.t 34)
  (.seq (.reg [⟨(some 35), .build [.b false, .b false, .i .i64 0, .i .i64 0] [], none⟩,
  ⟨none, .st (.t 2) (.t 35) 4, none⟩,
  ⟨(some 3), .mv (.k (.s (.i .i64 10))), none⟩])
  (.ret))
  (.skip)))
  (.seq (.reg [⟨(some 36), .ld (.t 4) (some 4), none⟩,
  ⟨none, .st (.t 2) (.t 36) 4, none⟩,
  ⟨(some 3), .mv (.k (.s (.i .i64 0))), none⟩])
  (.ret))))), [.c 2 (some 4), .t 3]⟩
theorem dc116 : compF Try.prog Try.f116 = some df116 := by kernel_rfl
theorem ok116 : FnOk Try.prog 116 := ⟨Try.f116, Try.func116, by kernel_rfl, by kernel_rfl⟩

/-- citadel/word.Get -/
def df119 : DF :=
  ⟨23, .seq (.reg [⟨(some 6), .mv (.k (.s (.i .u64 0))), none⟩,
  ⟨(some 7), .mv (.k (.s (.i .i64 0))), none⟩])
  (.seq (.reg [⟨(some 11), .mv (.t 1), none⟩,
  ⟨(some 12), .mv (.t 2), none⟩,
  ⟨(some 13), .call 126 [(.t 11), (.t 12)], none⟩,
  ⟨(some 10), .mv (.t 13), none⟩,
  ⟨(some 14), .ext (.t 10) 0, none⟩,
  ⟨(some 15), .ext (.t 10) 1, none⟩,
  ⟨(some 8), .mv (.t 14), none⟩,
  ⟨(some 9), .mv (.t 15), none⟩])
  (.seq (.seq (.reg [⟨(some 16), .mv (.t 9), none⟩,
  ⟨(some 17), .un .not (.t 16), none⟩])
  (.cond (.t 17)
  (.seq (.reg [⟨(some 6), .mv (.k (.s (.i .u64 0))), none⟩,
  ⟨(some 7), .mv (.k (.s (.i .i64 10))), none⟩])
  (.ret))
  (.skip)))
  (.seq (.reg [⟨(some 18), .mv (.t 0), none⟩,
  ⟨(some 19), .mv (.t 8), none⟩,
  ⟨(some 20), .bin .and (.t 18) (.t 19), none⟩,
  ⟨(some 21), .mv (.t 1), none⟩,
  ⟨(some 22), .bin .shr (.t 20) (.t 21), none⟩,
  ⟨(some 6), .mv (.t 22), none⟩,
  ⟨(some 7), .mv (.k (.s (.i .i64 0))), none⟩])
  (.ret)))), [.t 6, .t 7]⟩
theorem dc119 : compF Try.prog Try.f119 = some df119 := by kernel_rfl
theorem ok119 : FnOk Try.prog 119 := ⟨Try.f119, Try.func119, by kernel_rfl, by kernel_rfl⟩

/-- citadel/citadelref08.in -/
def df121 : DF :=
  ⟨15, .seq (.reg [⟨(some 6), .mv (.k (.s (.b false))), none⟩])
  (.seq (.reg [⟨(some 7), .mv (.t 0), none⟩,
  ⟨(some 8), .mv (.t 1), none⟩,
  ⟨(some 9), .bin .geq (.t 7) (.t 8), none⟩,
  ⟨(some 10), .mv (.t 9), none⟩,
  ⟨(some 11), .mv (.t 0), (some (10, true))⟩,
  ⟨(some 12), .mv (.t 2), (some (10, true))⟩,
  ⟨(some 13), .bin .leq (.t 11) (.t 12), (some (10, true))⟩,
  ⟨(some 14), .pick (.t 10) (.t 13) (.k (.s (.b false))), none⟩,
  ⟨(some 6), .mv (.t 14), none⟩])
  (.ret)), [.t 6]⟩
theorem dc121 : compF Try.prog Try.f121 = some df121 := by kernel_rfl
theorem ok121 : FnOk Try.prog 121 := ⟨Try.f121, Try.func121, by kernel_rfl, by kernel_rfl⟩

/-- citadel/citadelref08.bit -/
def df122 : DF :=
  ⟨4, .seq (.reg [⟨(some 2), .mv (.k (.s (.i .u64 0))), none⟩])
  (.seq (.seq (.reg [⟨(some 3), .mv (.t 0), none⟩])
  (.cond (.t 3)
  (.seq (.reg [⟨(some 2), .mv (.k (.s (.i .u64 1))), none⟩])
  (.ret))
  (.skip)))
  (.seq (.reg [⟨(some 2), .mv (.k (.s (.i .u64 0))), none⟩])
  (.ret))), [.t 2]⟩
theorem dc122 : compF Try.prog Try.f122 = some df122 := by kernel_rfl
theorem ok122 : FnOk Try.prog 122 := ⟨Try.f122, Try.func122, by kernel_rfl, by kernel_rfl⟩

/-- citadel/citadelref05.May -/
def df123 : DF :=
  ⟨54, .seq (.reg [⟨(some 1), .box (.t 0), none⟩,
  ⟨(some 2), .mv (.k (.s (.b false))), none⟩])
  (.seq (.seq (.reg [⟨(some 3), .fa (.t 1) 0, none⟩,
  ⟨(some 4), .ld (.t 3) none, none⟩,
  ⟨(some 5), .un .not (.t 4), none⟩])
  (.cond (.t 5)
  (.seq (.reg [⟨(some 6), .ld (.t 1) (some 4), none⟩,
  ⟨(some 7), .build [.b false, .b false, .i .i64 0, .i .i64 0] [], none⟩,
  ⟨(some 8), .eqa false [false, false, true, true] (.t 6) (.t 7), none⟩,
  ⟨(some 2), .mv (.t 8), none⟩])
  (.ret))
  (.skip)))
  (.seq (.seq (.reg [⟨(some 9), .fa (.t 1) 1, none⟩,
  ⟨(some 10), .ld (.t 9) none, none⟩])
  (.cond (.t 10)
  (.seq (.reg [⟨(some 11), .fa (.t 1) 2, none⟩,
  ⟨(some 12), .ld (.t 11) none, none⟩,
  ⟨(some 13), .bin .geq (.t 12) (.k (.s (.i .i64 16))), none⟩,
  ⟨(some 14), .mv (.t 13), none⟩,
  ⟨(some 15), .fa (.t 1) 2, (some (14, true))⟩,
  ⟨(some 16), .ld (.t 15) none, (some (14, true))⟩,
  ⟨(some 17), .bin .leq (.t 16) (.k (.s (.i .i64 65520))), (some (14, true))⟩,
  ⟨(some 18), .pick (.t 14) (.t 17) (.k (.s (.b false))), none⟩,
  ⟨(some 19), .mv (.t 18), none⟩,
  ⟨(some 20), .fa (.t 1) 2, (some (19, true))⟩,
  ⟨(some 21), .ld (.t 20) none, (some (19, true))⟩,
  ⟨(some 22), .bin .rem (.t 21) (.k (.s (.i .i64 16))), (some (19, true))⟩,
  ⟨(some 23), .bin .eql (.t 22) (.k (.s (.i .i64 0))), (some (19, true))⟩,
  ⟨(some 24), .pick (.t 19) (.t 23) (.k (.s (.b false))), none⟩,
  ⟨(some 25), .mv (.t 24), none⟩,
  ⟨(some 26), .fa (.t 1) 3, (some (25, true))⟩,
  ⟨(some 27), .ld (.t 26) none, (some (25, true))⟩,
  ⟨(some 28), .bin .geq (.t 27) (.k (.s (.i .i64 0))), (some (25, true))⟩,
  ⟨(some 29), .pick (.t 25) (.t 28) (.k (.s (.b false))), none⟩,
  ⟨(some 30), .mv (.t 29), none⟩,
  ⟨(some 31), .fa (.t 1) 3, (some (30, true))⟩,
  ⟨(some 32), .ld (.t 31) none, (some (30, true))⟩,
  ⟨(some 33), .bin .leq (.t 32) (.k (.s (.i .i64 3))), (some (30, true))⟩,
  ⟨(some 34), .pick (.t 30) (.t 33) (.k (.s (.b false))), none⟩,
  ⟨(some 2), .mv (.t 34), none⟩])
  (.ret))
  (.skip)))
  (.seq (.reg [⟨(some 35), .fa (.t 1) 2, none⟩,
  ⟨(some 36), .ld (.t 35) none, none⟩,
  ⟨(some 37), .bin .geq (.t 36) (.k (.s (.i .i64 8))), none⟩,
  ⟨(some 38), .mv (.t 37), none⟩,
  ⟨(some 39), .fa (.t 1) 2, (some (38, true))⟩,
  ⟨(some 40), .ld (.t 39) none, (some (38, true))⟩,
  ⟨(some 41), .bin .leq (.t 40) (.k (.s (.i .i64 65528))), (some (38, true))⟩,
  ⟨(some 42), .pick (.t 38) (.t 41) (.k (.s (.b false))), none⟩,
  ⟨(some 43), .mv (.t 42), none⟩,
  ⟨(some 44), .fa (.t 1) 2, (some (43, true))⟩,
  ⟨(some 45), .ld (.t 44) none, (some (43, true))⟩,
  ⟨(some 46), .bin .rem (.t 45) (.k (.s (.i .i64 8))), (some (43, true))⟩,
  ⟨(some 47), .bin .eql (.t 46) (.k (.s (.i .i64 0))), (some (43, true))⟩,
  ⟨(some 48), .pick (.t 43) (.t 47) (.k (.s (.b false))), none⟩,
  ⟨(some 49), .mv (.t 48), none⟩,
  ⟨(some 50), .fa (.t 1) 3, (some (49, true))⟩,
  ⟨(some 51), .ld (.t 50) none, (some (49, true))⟩,
  ⟨(some 52), .bin .eql (.t 51) (.k (.s (.i .i64 0))), (some (49, true))⟩,
  ⟨(some 53), .pick (.t 49) (.t 52) (.k (.s (.b false))), none⟩,
  ⟨(some 2), .mv (.t 53), none⟩])
  (.ret)))), [.t 2]⟩
theorem dc123 : compF Try.prog Try.f123 = some df123 := by kernel_rfl
theorem ok123 : FnOk Try.prog 123 := ⟨Try.f123, Try.func123, by kernel_rfl, by kernel_rfl⟩

/-- citadel/word.Set -/
def df124 : DF :=
  ⟨44, .seq (.reg [⟨(some 8), .mv (.k (.s (.i .u64 0))), none⟩,
  ⟨(some 9), .mv (.k (.s (.i .i64 0))), none⟩])
  (.seq (.reg [⟨(some 13), .mv (.t 1), none⟩,
  ⟨(some 14), .mv (.t 2), none⟩,
  ⟨(some 15), .call 126 [(.t 13), (.t 14)], none⟩,
  ⟨(some 12), .mv (.t 15), none⟩,
  ⟨(some 16), .ext (.t 12) 0, none⟩,
  ⟨(some 17), .ext (.t 12) 1, none⟩,
  ⟨(some 10), .mv (.t 16), none⟩,
  ⟨(some 11), .mv (.t 17), none⟩])
  (.seq (.seq (.reg [⟨(some 18), .mv (.t 11), none⟩,
  ⟨(some 19), .un .not (.t 18), none⟩,
  ⟨(some 20), .mv (.t 19), none⟩,
  ⟨(some 21), .mv (.t 3), (some (20, false))⟩,
  ⟨(some 22), .mv (.t 1), (some (20, false))⟩,
  ⟨(some 23), .bin .shl (.t 21) (.t 22), (some (20, false))⟩,
  ⟨(some 24), .mv (.t 1), (some (20, false))⟩,
  ⟨(some 25), .bin .shr (.t 23) (.t 24), (some (20, false))⟩,
  ⟨(some 26), .mv (.t 3), (some (20, false))⟩,
  ⟨(some 27), .bin .neq (.t 25) (.t 26), (some (20, false))⟩,
  ⟨(some 28), .pick (.t 20) (.k (.s (.b true))) (.t 27), none⟩,
  ⟨(some 29), .mv (.t 28), none⟩,
  ⟨(some 30), .mv (.t 3), (some (29, false))⟩,
  ⟨(some 31), .mv (.t 1), (some (29, false))⟩,
  ⟨(some 32), .bin .shl (.t 30) (.t 31), (some (29, false))⟩,
  ⟨(some 33), .mv (.t 10), (some (29, false))⟩,
  ⟨(some 34), .bin .andNot (.t 32) (.t 33), (some (29, false))⟩,
  ⟨(some 35), .bin .neq (.t 34) (.k (.s (.i .u64 0))), (some (29, false))⟩,
  ⟨(some 36), .pick (.t 29) (.k (.s (.b true))) (.t 35), none⟩])
  (.cond (.t 36)
  (.seq (.reg [⟨(some 8), .mv (.k (.s (.i .u64 0))), none⟩,
  ⟨(some 9), .mv (.k (.s (.i .i64 10))), none⟩])
  (.ret))
  (.skip)))
  (.seq (.reg [⟨(some 37), .mv (.t 0), none⟩,
  ⟨(some 38), .mv (.t 10), none⟩,
  ⟨(some 39), .bin .andNot (.t 37) (.t 38), none⟩,
  ⟨(some 40), .mv (.t 3), none⟩,
  ⟨(some 41), .mv (.t 1), none⟩,
  ⟨(some 42), .bin .shl (.t 40) (.t 41), none⟩,
  ⟨(some 43), .bin .or (.t 39) (.t 42), none⟩,
  ⟨(some 8), .mv (.t 43), none⟩,
  ⟨(some 9), .mv (.k (.s (.i .i64 0))), none⟩])
  (.ret)))), [.t 8, .t 9]⟩
theorem dc124 : compF Try.prog Try.f124 = some df124 := by kernel_rfl
theorem ok124 : FnOk Try.prog 124 := ⟨Try.f124, Try.func124, by kernel_rfl, by kernel_rfl⟩

/-- citadel/walk.in -/
def df125 : DF :=
  ⟨23, .seq (.reg [⟨(some 8), .mv (.k (.s (.b false))), none⟩])
  (.seq (.reg [⟨(some 9), .mv (.t 0), none⟩,
  ⟨(some 10), .mv (.t 1), none⟩,
  ⟨(some 11), .bin .geq (.t 9) (.t 10), none⟩,
  ⟨(some 12), .mv (.t 11), none⟩,
  ⟨(some 13), .mv (.t 0), (some (12, true))⟩,
  ⟨(some 14), .mv (.t 2), (some (12, true))⟩,
  ⟨(some 15), .bin .leq (.t 13) (.t 14), (some (12, true))⟩,
  ⟨(some 16), .pick (.t 12) (.t 15) (.k (.s (.b false))), none⟩,
  ⟨(some 17), .mv (.t 16), none⟩,
  ⟨(some 18), .mv (.t 0), (some (17, true))⟩,
  ⟨(some 19), .mv (.t 3), (some (17, true))⟩,
  ⟨(some 20), .bin .rem (.t 18) (.t 19), (some (17, true))⟩,
  ⟨(some 21), .bin .eql (.t 20) (.k (.s (.i .i64 0))), (some (17, true))⟩,
  ⟨(some 22), .pick (.t 17) (.t 21) (.k (.s (.b false))), none⟩,
  ⟨(some 8), .mv (.t 22), none⟩])
  (.ret)), [.t 8]⟩
theorem dc125 : compF Try.prog Try.f125 = some df125 := by kernel_rfl
theorem ok125 : FnOk Try.prog 125 := ⟨Try.f125, Try.func125, by kernel_rfl, by kernel_rfl⟩

/-- citadel/word.mask -/
def df126 : DF :=
  ⟨27, .seq (.reg [⟨(some 4), .mv (.k (.s (.i .u64 0))), none⟩,
  ⟨(some 5), .mv (.k (.s (.b false))), none⟩])
  (.seq (.seq (.reg [⟨(some 6), .mv (.t 0), none⟩,
  ⟨(some 7), .bin .lss (.t 6) (.k (.s (.i .i64 0))), none⟩,
  ⟨(some 8), .mv (.t 7), none⟩,
  ⟨(some 9), .mv (.t 0), (some (8, false))⟩,
  ⟨(some 10), .bin .gtr (.t 9) (.k (.s (.i .i64 63))), (some (8, false))⟩,
  ⟨(some 11), .pick (.t 8) (.k (.s (.b true))) (.t 10), none⟩,
  ⟨(some 12), .mv (.t 11), none⟩,
  ⟨(some 13), .mv (.t 1), (some (12, false))⟩,
  ⟨(some 14), .bin .lss (.t 13) (.k (.s (.i .i64 1))), (some (12, false))⟩,
  ⟨(some 15), .pick (.t 12) (.k (.s (.b true))) (.t 14), none⟩,
  ⟨(some 16), .mv (.t 15), none⟩,
  ⟨(some 17), .mv (.t 1), (some (16, false))⟩,
  ⟨(some 18), .mv (.t 0), (some (16, false))⟩,
  ⟨(some 19), .bin .sub (.k (.s (.i .i64 64))) (.t 18), (some (16, false))⟩,
  ⟨(some 20), .bin .gtr (.t 17) (.t 19), (some (16, false))⟩,
  ⟨(some 21), .pick (.t 16) (.k (.s (.b true))) (.t 20), none⟩])
  (.cond (.t 21)
  (.seq (.reg [⟨(some 4), .mv (.k (.s (.i .u64 0))), none⟩,
  ⟨(some 5), .mv (.k (.s (.b false))), none⟩])
  (.ret))
  (.skip)))
  (.seq (.reg [⟨(some 22), .mv (.t 1), none⟩,
  ⟨(some 23), .bin .sub (.k (.s (.i .i64 64))) (.t 22), none⟩,
  ⟨(some 24), .bin .shr (.k (.s (.i .u64 18446744073709551615))) (.t 23), none⟩,
  ⟨(some 25), .mv (.t 0), none⟩,
  ⟨(some 26), .bin .shl (.t 24) (.t 25), none⟩,
  ⟨(some 4), .mv (.t 26), none⟩,
  ⟨(some 5), .mv (.k (.s (.b true))), none⟩])
  (.ret))), [.t 4, .t 5]⟩
theorem dc126 : compF Try.prog Try.f126 = some df126 := by kernel_rfl
theorem ok126 : FnOk Try.prog 126 := ⟨Try.f126, Try.func126, by kernel_rfl, by kernel_rfl⟩

theorem mixed : Try.prog.follows .mixedOrders = true := by kernel_rfl
end Go.Proofs.Ytdlloccodmdnnaa

