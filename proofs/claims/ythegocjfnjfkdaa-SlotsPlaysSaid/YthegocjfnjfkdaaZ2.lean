/- The small code of the functions of this seat, printed by a program, and that the model's code compiles to it. -/
import Derived.Test.YthegocjfnjfkdaaProg
import Derived.Test.YthegocjfnjfkdaaZ0
import Derived.KernelRfl
/- The small code of the functions of this seat, printed by a program, and that the model's code compiles to it. -/
namespace Go.Proofs.Ythegocjfnjfkdaa
open Go.D
set_option linter.all false
set_option maxRecDepth 100000

/-- citadel/citadellaw06.CapsWords -/
def df3 : DF :=
  ⟨112, .seq (.reg [⟨(some 1), .box (.t 0), none⟩,
     ⟨(some 2), .mv (.k (.s (.b false))), none⟩])
   (.seq (.reg [⟨(some 24), .call 14 [], none⟩,
     ⟨(some 3), .mv (.t 24), none⟩])
   (.seq (.reg [⟨(some 25), .fa (.t 1) 0, none⟩,
     ⟨(some 26), .ld (.t 25) (some 11), none⟩,
     ⟨(some 4), .new [.i .i64 0, .i .i64 0, .i .i64 0, .i .i64 0, .i .i64 0, .i .i64 0, .i .i64 0, .i .i64 0, .i .i64 0, .i .i64 0, .i .i64 0], none⟩,
     ⟨none, .st (.t 4) (.t 26) 11, none⟩])
   (.seq (.reg [⟨(some 27), .fa (.t 1) 11, none⟩,
     ⟨(some 28), .ld (.t 27) (some 11), none⟩,
     ⟨(some 5), .new [.i .i64 0, .i .i64 0, .i .i64 0, .i .i64 0, .i .i64 0, .i .i64 0, .i .i64 0, .i .i64 0, .i .i64 0, .i .i64 0, .i .i64 0], none⟩,
     ⟨none, .st (.t 5) (.t 28) 11, none⟩])
   (.seq (.reg [⟨(some 29), .fa (.t 1) 22, none⟩,
     ⟨(some 30), .ld (.t 29) none, none⟩,
     ⟨(some 6), .mv (.t 30), none⟩])
   (.seq (.reg [⟨(some 31), .fa (.t 1) 23, none⟩,
     ⟨(some 32), .ld (.t 31) none, none⟩,
     ⟨(some 7), .mv (.t 32), none⟩])
   (.seq (.reg [⟨(some 33), .ld (.t 4) (some 11), none⟩,
     ⟨(some 34), .call 15 [(.t 33)], none⟩,
     ⟨(some 8), .mv (.t 34), none⟩])
   (.seq (.reg [⟨(some 35), .ld (.t 4) (some 11), none⟩,
     ⟨(some 36), .call 16 [(.t 35)], none⟩,
     ⟨(some 9), .mv (.t 36), none⟩])
   (.seq (.reg [⟨(some 38), .ld (.t 4) (some 11), none⟩,
     ⟨(some 39), .call 17 [(.t 38)], none⟩,
     ⟨(some 37), .mv (.t 39), none⟩,
     ⟨(some 40), .ext (.t 37) 0, none⟩,
     ⟨(some 41), .ext (.t 37) 1, none⟩,
     ⟨(some 42), .ext (.t 37) 2, none⟩,
     ⟨(some 10), .mv (.t 40), none⟩,
     ⟨(some 11), .mv (.t 41), none⟩,
     ⟨(some 12), .mv (.t 42), none⟩])
   (.seq (.reg [⟨(some 44), .ld (.t 4) (some 11), none⟩,
     ⟨(some 45), .call 18 [(.t 44)], none⟩,
     ⟨(some 43), .mv (.t 45), none⟩,
     ⟨(some 46), .ext (.t 43) 0, none⟩,
     ⟨(some 47), .ext (.t 43) 1, none⟩,
     ⟨(some 48), .ext (.t 43) 2, none⟩,
     ⟨(some 13), .mv (.t 46), none⟩,
     ⟨(some 14), .mv (.t 47), none⟩,
     ⟨(some 15), .mv (.t 48), none⟩])
   (.seq (.reg [⟨(some 50), .mv (.t 6), none⟩,
     ⟨(some 51), .mv (.t 7), none⟩,
     ⟨(some 52), .call 19 [(.t 50), (.t 51)], none⟩,
     ⟨(some 49), .mv (.t 52), none⟩,
     ⟨(some 53), .ext (.t 49) 0, none⟩,
     ⟨(some 54), .ext (.t 49) 1, none⟩,
     ⟨(some 16), .new [.i .i64 0, .i .i64 0, .i .i64 0, .i .i64 0, .i .i64 0, .i .i64 0, .i .i64 0, .i .i64 0, .i .i64 0, .i .i64 0, .i .i64 0], none⟩,
     ⟨none, .st (.t 16) (.t 53) 11, none⟩,
     ⟨(some 17), .mv (.t 54), none⟩])
   (.seq (.reg [⟨(some 56), .mv (.t 6), none⟩,
     ⟨(some 57), .mv (.t 7), none⟩,
     ⟨(some 58), .call 20 [(.t 56), (.t 57)], none⟩,
     ⟨(some 55), .mv (.t 58), none⟩,
     ⟨(some 59), .ext (.t 55) 0, none⟩,
     ⟨(some 60), .ext (.t 55) 1, none⟩,
     ⟨(some 18), .new [.i .i64 0, .i .i64 0, .i .i64 0, .i .i64 0, .i .i64 0, .i .i64 0, .i .i64 0, .i .i64 0, .i .i64 0, .i .i64 0, .i .i64 0], none⟩,
     ⟨none, .st (.t 18) (.t 59) 11, none⟩,
     ⟨(some 19), .mv (.t 60), none⟩])
   (.seq (.reg [⟨(some 61), .ld (.t 4) (some 11), none⟩,
     ⟨(some 62), .call 21 [(.t 61)], none⟩,
     ⟨(some 20), .mv (.t 62), none⟩])
   (.seq (.reg [⟨(some 63), .ld (.t 4) (some 11), none⟩,
     ⟨(some 64), .call 22 [(.t 63)], none⟩,
     ⟨(some 21), .mv (.t 64), none⟩])
   (.seq (.reg [⟨(some 65), .ld (.t 4) (some 11), none⟩,
     ⟨(some 66), .ld (.t 5) (some 11), none⟩,
     ⟨(some 67), .call 23 [(.t 65), (.t 66)], none⟩,
     ⟨(some 22), .mv (.t 67), none⟩])
   (.seq (.reg [⟨(some 68), .ld (.t 4) (some 11), none⟩,
     ⟨(some 69), .ld (.t 5) (some 11), none⟩,
     ⟨(some 70), .call 24 [(.t 68), (.t 69)], none⟩,
     ⟨(some 23), .mv (.t 70), none⟩])
   (.seq (.reg [⟨(some 71), .mv (.t 3), none⟩,
     ⟨(some 72), .mv (.t 71), none⟩,
     ⟨(some 73), .mv (.t 8), (some (72, true))⟩,
     ⟨(some 74), .mv (.t 9), (some (72, true))⟩,
     ⟨(some 75), .eqb false (.t 73) (.t 74), (some (72, true))⟩,
     ⟨(some 76), .pick (.t 72) (.t 75) (.k (.s (.b false))), none⟩,
     ⟨(some 77), .mv (.t 76), none⟩,
     ⟨(some 78), .mv (.t 10), (some (77, true))⟩,
     ⟨(some 79), .mv (.t 13), (some (77, true))⟩,
     ⟨(some 80), .bin .eql (.t 78) (.t 79), (some (77, true))⟩,
     ⟨(some 81), .pick (.t 77) (.t 80) (.k (.s (.b false))), none⟩,
     ⟨(some 82), .mv (.t 81), none⟩,
     ⟨(some 83), .mv (.t 11), (some (82, true))⟩,
     ⟨(some 84), .mv (.t 14), (some (82, true))⟩,
     ⟨(some 85), .bin .eql (.t 83) (.t 84), (some (82, true))⟩,
     ⟨(some 86), .pick (.t 82) (.t 85) (.k (.s (.b false))), none⟩,
     ⟨(some 87), .mv (.t 86), none⟩,
     ⟨(some 88), .mv (.t 12), (some (87, true))⟩,
     ⟨(some 89), .mv (.t 15), (some (87, true))⟩,
     ⟨(some 90), .bin .eql (.t 88) (.t 89), (some (87, true))⟩,
     ⟨(some 91), .pick (.t 87) (.t 90) (.k (.s (.b false))), none⟩,
     ⟨(some 92), .mv (.t 91), none⟩,
     ⟨(some 93), .ld (.t 16) (some 11), (some (92, true))⟩,
     ⟨(some 94), .ld (.t 18) (some 11), (some (92, true))⟩,
     ⟨(some 95), .eqa false [true, true, true, true, true, true, true, true, true, true, true] (.t 93) (.t 94), (some (92, true))⟩,
     ⟨(some 96), .pick (.t 92) (.t 95) (.k (.s (.b false))), none⟩,
     ⟨(some 97), .mv (.t 96), none⟩,
     ⟨(some 98), .mv (.t 17), (some (97, true))⟩,
     ⟨(some 99), .mv (.t 19), (some (97, true))⟩,
     ⟨(some 100), .bin .eql (.t 98) (.t 99), (some (97, true))⟩,
     ⟨(some 101), .pick (.t 97) (.t 100) (.k (.s (.b false))), none⟩,
     ⟨(some 102), .mv (.t 101), none⟩,
     ⟨(some 103), .mv (.t 20), (some (102, true))⟩,
     ⟨(some 104), .mv (.t 21), (some (102, true))⟩,
     ⟨(some 105), .bin .eql (.t 103) (.t 104), (some (102, true))⟩,
     ⟨(some 106), .pick (.t 102) (.t 105) (.k (.s (.b false))), none⟩,
     ⟨(some 107), .mv (.t 106), none⟩,
     ⟨(some 108), .mv (.t 22), (some (107, true))⟩,
     ⟨(some 109), .mv (.t 23), (some (107, true))⟩,
     ⟨(some 110), .eqb false (.t 108) (.t 109), (some (107, true))⟩,
     ⟨(some 111), .pick (.t 107) (.t 110) (.k (.s (.b false))), none⟩,
     ⟨(some 2), .mv (.t 111), none⟩])
   (.ret))))))))))))))))), [.t 2]⟩
theorem dc3 : compF Try.prog Try.f3 = some df3 := by kernel_rfl
theorem ok3 : FnOk Try.prog 3 := ⟨Try.f3, Try.func3, by kernel_rfl, by kernel_rfl⟩

/-- citadel/citadellaw06.CapsBack -/
def df4 : DF :=
  ⟨117, .seq (.reg [⟨(some 2), .box (.t 0), none⟩,
     ⟨(some 3), .box (.t 1), none⟩,
     ⟨(some 4), .mv (.k (.s (.b false))), none⟩])
   (.seq (.reg [⟨(some 17), .call 14 [], none⟩,
     ⟨(some 5), .mv (.t 17), none⟩])
   (.seq (.reg [⟨(some 18), .ld (.t 2) (some 11), none⟩,
     ⟨(some 19), .call 15 [(.t 18)], none⟩,
     ⟨(some 6), .mv (.t 19), none⟩])
   (.seq (.reg [⟨(some 20), .ld (.t 3) (some 11), none⟩,
     ⟨(some 21), .call 15 [(.t 20)], none⟩,
     ⟨(some 7), .mv (.t 21), none⟩])
   (.seq (.reg [⟨(some 23), .ld (.t 2) (some 11), none⟩,
     ⟨(some 24), .call 17 [(.t 23)], none⟩,
     ⟨(some 22), .mv (.t 24), none⟩,
     ⟨(some 25), .ext (.t 22) 0, none⟩,
     ⟨(some 26), .ext (.t 22) 1, none⟩,
     ⟨(some 27), .ext (.t 22) 2, none⟩,
     ⟨(some 8), .mv (.t 25), none⟩,
     ⟨(some 9), .mv (.t 26), none⟩,
     ⟨(some 10), .mv (.t 27), none⟩])
   (.seq (.reg [⟨(some 29), .ld (.t 3) (some 11), none⟩,
     ⟨(some 30), .call 17 [(.t 29)], none⟩,
     ⟨(some 28), .mv (.t 30), none⟩,
     ⟨(some 31), .ext (.t 28) 0, none⟩,
     ⟨(some 32), .ext (.t 28) 1, none⟩,
     ⟨(some 33), .ext (.t 28) 2, none⟩,
     ⟨(some 11), .mv (.t 31), none⟩,
     ⟨(some 12), .mv (.t 32), none⟩,
     ⟨(some 13), .mv (.t 33), none⟩])
   (.seq (.seq (.reg [⟨(some 34), .mv (.t 10), none⟩,
      ⟨(some 35), .bin .eql (.t 34) (.k (.s (.i .i64 0))), none⟩,
      ⟨(some 36), .mv (.t 6), none⟩,
      ⟨(some 37), .eqb true (.t 35) (.t 36), none⟩,
      ⟨(some 38), .mv (.t 37), none⟩,
      ⟨(some 39), .mv (.t 13), (some (38, false))⟩,
      ⟨(some 40), .bin .eql (.t 39) (.k (.s (.i .i64 0))), (some (38, false))⟩,
      ⟨(some 41), .mv (.t 7), (some (38, false))⟩,
      ⟨(some 42), .eqb true (.t 40) (.t 41), (some (38, false))⟩,
      ⟨(some 43), .pick (.t 38) (.k (.s (.b true))) (.t 42), none⟩])
    (.cond (.t 43)
     (.seq (.reg [⟨(some 4), .mv (.k (.s (.b false))), none⟩])
      (.ret))
     (.skip)))
   (.seq (.seq (.reg [⟨(some 44), .mv (.t 6), none⟩,
      ⟨(some 45), .un .not (.t 44), none⟩])
    (.cond (.t 45)
     (.seq (.reg [⟨(some 46), .mv (.t 5), none⟩,
        ⟨(some 47), .mv (.t 46), none⟩,
        ⟨(some 48), .mv (.t 8), (some (47, true))⟩,
        ⟨(some 49), .bin .eql (.t 48) (.k (.s (.i .u64 0))), (some (47, true))⟩,
        ⟨(some 50), .pick (.t 47) (.t 49) (.k (.s (.b false))), none⟩,
        ⟨(some 51), .mv (.t 50), none⟩,
        ⟨(some 52), .mv (.t 9), (some (51, true))⟩,
        ⟨(some 53), .bin .eql (.t 52) (.k (.s (.i .u64 0))), (some (51, true))⟩,
        ⟨(some 54), .pick (.t 51) (.t 53) (.k (.s (.b false))), none⟩,
        ⟨(some 55), .mv (.t 54), none⟩,
        ⟨(some 56), .ld (.t 2) (some 11), (some (55, true))⟩,
        ⟨(some 57), .call 21 [(.t 56)], (some (55, true))⟩,
        ⟨(some 58), .bin .eql (.t 57) (.k (.s (.i .i64 0))), (some (55, true))⟩,
        ⟨(some 59), .pick (.t 55) (.t 58) (.k (.s (.b false))), none⟩,
        ⟨(some 4), .mv (.t 59), none⟩])
      (.ret))
     (.skip)))
   (.seq (.reg [⟨(some 61), .mv (.t 8), none⟩,
     ⟨(some 62), .mv (.t 9), none⟩,
     ⟨(some 63), .call 19 [(.t 61), (.t 62)], none⟩,
     ⟨(some 60), .mv (.t 63), none⟩,
     ⟨(some 64), .ext (.t 60) 0, none⟩,
     ⟨(some 65), .ext (.t 60) 1, none⟩,
     ⟨(some 14), .new [.i .i64 0, .i .i64 0, .i .i64 0, .i .i64 0, .i .i64 0, .i .i64 0, .i .i64 0, .i .i64 0, .i .i64 0, .i .i64 0, .i .i64 0], none⟩,
     ⟨none, .st (.t 14) (.t 64) 11, none⟩,
     ⟨(some 15), .mv (.t 65), none⟩])
   (.seq (.reg [⟨(some 66), .ld (.t 2) (some 11), none⟩,
     ⟨(some 67), .call 21 [(.t 66)], none⟩,
     ⟨(some 16), .mv (.t 67), none⟩])
   (.seq (.seq (.reg [⟨(some 68), .mv (.t 15), none⟩,
      ⟨(some 69), .bin .neq (.t 68) (.k (.s (.i .i64 0))), none⟩,
      ⟨(some 70), .mv (.t 69), none⟩,
      ⟨(some 71), .ld (.t 14) (some 11), (some (70, false))⟩,
      ⟨(some 72), .ld (.t 2) (some 11), (some (70, false))⟩,
      ⟨(some 73), .eqa true [true, true, true, true, true, true, true, true, true, true, true] (.t 71) (.t 72), (some (70, false))⟩,
      ⟨(some 74), .pick (.t 70) (.k (.s (.b true))) (.t 73), none⟩,
      ⟨(some 75), .mv (.t 74), none⟩,
      ⟨(some 76), .mv (.t 16), (some (75, false))⟩,
      ⟨(some 77), .bin .gtr (.t 76) (.k (.s (.i .i64 0))), (some (75, false))⟩,
      ⟨(some 78), .mv (.t 77), (some (75, false))⟩,
      ⟨(some 79), .fa (.t 2) 1, (some (78, true))⟩,
      ⟨(some 80), .ld (.t 79) none, (some (78, true))⟩,
      ⟨(some 81), .bin .lss (.t 80) (.k (.s (.i .i64 1024))), (some (78, true))⟩,
      ⟨(some 82), .mv (.t 81), (some (78, true))⟩,
      ⟨(some 83), .fa (.t 2) 1, (some (82, false))⟩,
      ⟨(some 84), .ld (.t 83) none, (some (82, false))⟩,
      ⟨(some 85), .mv (.t 16), (some (82, false))⟩,
      ⟨(some 86), .bin .add (.t 84) (.t 85), (some (82, false))⟩,
      ⟨(some 87), .bin .gtr (.t 86) (.k (.s (.i .i64 65536))), (some (82, false))⟩,
      ⟨(some 88), .pick (.t 82) (.k (.s (.b true))) (.t 87), (some (78, true))⟩,
      ⟨(some 89), .mv (.t 88), (some (78, true))⟩,
      ⟨(some 90), .fa (.t 2) 1, (some (89, false))⟩,
      ⟨(some 91), .ld (.t 90) none, (some (89, false))⟩,
      ⟨(some 92), .mv (.t 16), (some (89, false))⟩,
      ⟨(some 93), .bin .rem (.t 91) (.t 92), (some (89, false))⟩,
      ⟨(some 94), .bin .neq (.t 93) (.k (.s (.i .i64 0))), (some (89, false))⟩,
      ⟨(some 95), .pick (.t 89) (.k (.s (.b true))) (.t 94), (some (78, true))⟩,
      ⟨(some 96), .pick (.t 78) (.t 95) (.k (.s (.b false))), (some (75, false))⟩,
      ⟨(some 97), .pick (.t 75) (.k (.s (.b true))) (.t 96), none⟩])
    (.cond (.t 97)
     (.seq (.reg [⟨(some 4), .mv (.k (.s (.b false))), none⟩])
      (.ret))
     (.skip)))
   (.seq (.reg [⟨(some 98), .mv (.t 5), none⟩,
     ⟨(some 99), .mv (.t 98), none⟩,
     ⟨(some 100), .mv (.t 7), (some (99, true))⟩,
     ⟨(some 101), .un .not (.t 100), (some (99, true))⟩,
     ⟨(some 102), .mv (.t 101), (some (99, true))⟩,
     ⟨(some 103), .mv (.t 8), (some (102, false))⟩,
     ⟨(some 104), .mv (.t 11), (some (102, false))⟩,
     ⟨(some 105), .bin .eql (.t 103) (.t 104), (some (102, false))⟩,
     ⟨(some 106), .mv (.t 105), (some (102, false))⟩,
     ⟨(some 107), .mv (.t 9), (some (106, true))⟩,
     ⟨(some 108), .mv (.t 12), (some (106, true))⟩,
     ⟨(some 109), .bin .eql (.t 107) (.t 108), (some (106, true))⟩,
     ⟨(some 110), .pick (.t 106) (.t 109) (.k (.s (.b false))), (some (102, false))⟩,
     ⟨(some 111), .ld (.t 2) (some 11), (some (102, false))⟩,
     ⟨(some 112), .ld (.t 3) (some 11), (some (102, false))⟩,
     ⟨(some 113), .eqa false [true, true, true, true, true, true, true, true, true, true, true] (.t 111) (.t 112), (some (102, false))⟩,
     ⟨(some 114), .eqb false (.t 110) (.t 113), (some (102, false))⟩,
     ⟨(some 115), .pick (.t 102) (.k (.s (.b true))) (.t 114), (some (99, true))⟩,
     ⟨(some 116), .pick (.t 99) (.t 115) (.k (.s (.b false))), none⟩,
     ⟨(some 4), .mv (.t 116), none⟩])
   (.ret)))))))))))), [.t 4]⟩
theorem dc4 : compF Try.prog Try.f4 = some df4 := by kernel_rfl
theorem ok4 : FnOk Try.prog 4 := ⟨Try.f4, Try.func4, by kernel_rfl, by kernel_rfl⟩

/-- citadel/citadellaw06.CapsRead -/
def df5 : DF :=
  ⟨57, .seq (.reg [⟨(some 4), .mv (.k (.s (.b false))), none⟩])
   (.seq (.reg [⟨(some 12), .call 14 [], none⟩,
     ⟨(some 5), .mv (.t 12), none⟩])
   (.seq (.reg [⟨(some 14), .mv (.t 0), none⟩,
     ⟨(some 15), .mv (.t 1), none⟩,
     ⟨(some 16), .call 19 [(.t 14), (.t 15)], none⟩,
     ⟨(some 13), .mv (.t 16), none⟩,
     ⟨(some 17), .ext (.t 13) 0, none⟩,
     ⟨(some 18), .ext (.t 13) 1, none⟩,
     ⟨(some 6), .new [.i .i64 0, .i .i64 0, .i .i64 0, .i .i64 0, .i .i64 0, .i .i64 0, .i .i64 0, .i .i64 0, .i .i64 0, .i .i64 0, .i .i64 0], none⟩,
     ⟨none, .st (.t 6) (.t 17) 11, none⟩,
     ⟨(some 7), .mv (.t 18), none⟩])
   (.seq (.seq (.reg [⟨(some 19), .mv (.t 7), none⟩,
      ⟨(some 20), .bin .neq (.t 19) (.k (.s (.i .i64 0))), none⟩])
    (.cond (.t 20)
     (.seq (.reg [⟨(some 21), .mv (.t 5), none⟩,
        ⟨(some 22), .mv (.t 21), none⟩,
        ⟨(some 23), .mv (.t 7), (some (22, true))⟩,
        ⟨(some 24), .bin .eql (.t 23) (.k (.s (.i .i64 60))), (some (22, true))⟩,
        ⟨(some 25), .pick (.t 22) (.t 24) (.k (.s (.b false))), none⟩,
        ⟨(some 26), .mv (.t 25), none⟩,
        ⟨(some 27), .ld (.t 6) (some 11), (some (26, true))⟩,
        ⟨(some 28), .build [.i .i64 0, .i .i64 0, .i .i64 0, .i .i64 0, .i .i64 0, .i .i64 0, .i .i64 0, .i .i64 0, .i .i64 0, .i .i64 0, .i .i64 0] [], (some (26, true))⟩,
        ⟨(some 29), .eqa false [true, true, true, true, true, true, true, true, true, true, true] (.t 27) (.t 28), (some (26, true))⟩,
        ⟨(some 30), .pick (.t 26) (.t 29) (.k (.s (.b false))), none⟩,
        ⟨(some 4), .mv (.t 30), none⟩])
      (.ret))
     (.skip)))
   (.seq (.reg [⟨(some 31), .ld (.t 6) (some 11), none⟩,
     ⟨(some 32), .call 15 [(.t 31)], none⟩,
     ⟨(some 8), .mv (.t 32), none⟩])
   (.seq (.reg [⟨(some 34), .ld (.t 6) (some 11), none⟩,
     ⟨(some 35), .call 17 [(.t 34)], none⟩,
     ⟨(some 33), .mv (.t 35), none⟩,
     ⟨(some 36), .ext (.t 33) 0, none⟩,
     ⟨(some 37), .ext (.t 33) 1, none⟩,
     ⟨(some 38), .ext (.t 33) 2, none⟩,
     ⟨(some 9), .mv (.t 36), none⟩,
     ⟨(some 10), .mv (.t 37), none⟩,
     ⟨(some 11), .mv (.t 38), none⟩])
   (.seq (.reg [⟨(some 39), .mv (.t 5), none⟩,
     ⟨(some 40), .mv (.t 39), none⟩,
     ⟨(some 41), .mv (.t 8), (some (40, true))⟩,
     ⟨(some 42), .pick (.t 40) (.t 41) (.k (.s (.b false))), none⟩,
     ⟨(some 43), .mv (.t 42), none⟩,
     ⟨(some 44), .mv (.t 11), (some (43, true))⟩,
     ⟨(some 45), .bin .eql (.t 44) (.k (.s (.i .i64 0))), (some (43, true))⟩,
     ⟨(some 46), .pick (.t 43) (.t 45) (.k (.s (.b false))), none⟩,
     ⟨(some 47), .mv (.t 46), none⟩,
     ⟨(some 48), .mv (.t 9), (some (47, true))⟩,
     ⟨(some 49), .mv (.t 0), (some (47, true))⟩,
     ⟨(some 50), .bin .eql (.t 48) (.t 49), (some (47, true))⟩,
     ⟨(some 51), .pick (.t 47) (.t 50) (.k (.s (.b false))), none⟩,
     ⟨(some 52), .mv (.t 51), none⟩,
     ⟨(some 53), .mv (.t 10), (some (52, true))⟩,
     ⟨(some 54), .mv (.t 1), (some (52, true))⟩,
     ⟨(some 55), .bin .eql (.t 53) (.t 54), (some (52, true))⟩,
     ⟨(some 56), .pick (.t 52) (.t 55) (.k (.s (.b false))), none⟩,
     ⟨(some 4), .mv (.t 56), none⟩])
   (.ret))))))), [.t 4]⟩
theorem dc5 : compF Try.prog Try.f5 = some df5 := by kernel_rfl
theorem ok5 : FnOk Try.prog 5 := ⟨Try.f5, Try.func5, by kernel_rfl, by kernel_rfl⟩

/-- citadel/citadellaw06.CapsBits -/
def df6 : DF :=
  ⟨87, .seq (.reg [⟨(some 2), .box (.t 0), none⟩,
     ⟨(some 4), .mv (.k (.s (.b false))), none⟩])
   (.seq (.reg [⟨(some 14), .call 14 [], none⟩,
     ⟨(some 5), .mv (.t 14), none⟩])
   (.seq (.reg [⟨(some 16), .ld (.t 2) (some 11), none⟩,
     ⟨(some 17), .call 17 [(.t 16)], none⟩,
     ⟨(some 15), .mv (.t 17), none⟩,
     ⟨(some 18), .ext (.t 15) 0, none⟩,
     ⟨(some 19), .ext (.t 15) 1, none⟩,
     ⟨(some 20), .ext (.t 15) 2, none⟩,
     ⟨(some 6), .mv (.t 18), none⟩,
     ⟨(some 7), .mv (.t 19), none⟩,
     ⟨(some 8), .mv (.t 20), none⟩])
   (.seq (.seq (.reg [⟨(some 21), .mv (.t 8), none⟩,
      ⟨(some 22), .bin .neq (.t 21) (.k (.s (.i .i64 0))), none⟩,
      ⟨(some 23), .mv (.t 22), none⟩,
      ⟨(some 24), .mv (.t 1), (some (23, false))⟩,
      ⟨(some 25), .bin .lss (.t 24) (.k (.s (.i .i64 0))), (some (23, false))⟩,
      ⟨(some 26), .pick (.t 23) (.k (.s (.b true))) (.t 25), none⟩,
      ⟨(some 27), .mv (.t 26), none⟩,
      ⟨(some 28), .mv (.t 1), (some (27, false))⟩,
      ⟨(some 29), .bin .gtr (.t 28) (.k (.s (.i .i64 127))), (some (27, false))⟩,
      ⟨(some 30), .pick (.t 27) (.k (.s (.b true))) (.t 29), none⟩])
    (.cond (.t 30)
     (.seq (.reg [⟨(some 31), .mv (.t 5), none⟩,
        ⟨(some 4), .mv (.t 31), none⟩])
      (.ret))
     (.skip)))
   (.seq (.seq (.reg [⟨(some 32), .mv (.t 1), none⟩,
      ⟨(some 33), .bin .lss (.t 32) (.k (.s (.i .i64 64))), none⟩])
    (.cond (.t 33)
     (.reg [⟨(some 34), .mv (.t 6), none⟩,
       ⟨(some 35), .mv (.t 1), none⟩,
       ⟨(some 36), .bin .shl (.k (.s (.i .u64 1))) (.t 35), none⟩,
       ⟨(some 37), .bin .xor (.t 34) (.t 36), none⟩,
       ⟨(some 6), .mv (.t 37), none⟩])
     (.reg [⟨(some 38), .mv (.t 7), none⟩,
       ⟨(some 39), .mv (.t 1), none⟩,
       ⟨(some 40), .bin .sub (.t 39) (.k (.s (.i .i64 64))), none⟩,
       ⟨(some 41), .bin .shl (.k (.s (.i .u64 1))) (.t 40), none⟩,
       ⟨(some 42), .bin .xor (.t 38) (.t 41), none⟩,
       ⟨(some 7), .mv (.t 42), none⟩])))
   (.seq (.reg [⟨(some 44), .mv (.t 6), none⟩,
     ⟨(some 45), .mv (.t 7), none⟩,
     ⟨(some 46), .call 19 [(.t 44), (.t 45)], none⟩,
     ⟨(some 43), .mv (.t 46), none⟩,
     ⟨(some 47), .ext (.t 43) 0, none⟩,
     ⟨(some 48), .ext (.t 43) 1, none⟩,
     ⟨(some 9), .new [.i .i64 0, .i .i64 0, .i .i64 0, .i .i64 0, .i .i64 0, .i .i64 0, .i .i64 0, .i .i64 0, .i .i64 0, .i .i64 0, .i .i64 0], none⟩,
     ⟨none, .st (.t 9) (.t 47) 11, none⟩,
     ⟨(some 10), .mv (.t 48), none⟩])
   (.seq (.seq (.reg [⟨(some 49), .mv (.t 10), none⟩,
      ⟨(some 50), .bin .neq (.t 49) (.k (.s (.i .i64 0))), none⟩])
    (.cond (.t 50)
     (.seq (.reg [⟨(some 51), .mv (.t 5), none⟩,
        ⟨(some 52), .mv (.t 51), none⟩,
        ⟨(some 53), .mv (.t 10), (some (52, true))⟩,
        ⟨(some 54), .bin .eql (.t 53) (.k (.s (.i .i64 60))), (some (52, true))⟩,
        ⟨(some 55), .pick (.t 52) (.t 54) (.k (.s (.b false))), none⟩,
        ⟨(some 56), .mv (.t 55), none⟩,
        ⟨(some 57), .ld (.t 9) (some 11), (some (56, true))⟩,
        ⟨(some 58), .build [.i .i64 0, .i .i64 0, .i .i64 0, .i .i64 0, .i .i64 0, .i .i64 0, .i .i64 0, .i .i64 0, .i .i64 0, .i .i64 0, .i .i64 0] [], (some (56, true))⟩,
        ⟨(some 59), .eqa false [true, true, true, true, true, true, true, true, true, true, true] (.t 57) (.t 58), (some (56, true))⟩,
        ⟨(some 60), .pick (.t 56) (.t 59) (.k (.s (.b false))), none⟩,
        ⟨(some 4), .mv (.t 60), none⟩])
      (.ret))
     (.skip)))
   (.seq (.reg [⟨(some 62), .ld (.t 9) (some 11), none⟩,
     ⟨(some 63), .call 17 [(.t 62)], none⟩,
     ⟨(some 61), .mv (.t 63), none⟩,
     ⟨(some 64), .ext (.t 61) 0, none⟩,
     ⟨(some 65), .ext (.t 61) 1, none⟩,
     ⟨(some 66), .ext (.t 61) 2, none⟩,
     ⟨(some 11), .mv (.t 64), none⟩,
     ⟨(some 12), .mv (.t 65), none⟩,
     ⟨(some 13), .mv (.t 66), none⟩])
   (.seq (.reg [⟨(some 67), .mv (.t 5), none⟩,
     ⟨(some 68), .mv (.t 67), none⟩,
     ⟨(some 69), .ld (.t 9) (some 11), (some (68, true))⟩,
     ⟨(some 70), .ld (.t 2) (some 11), (some (68, true))⟩,
     ⟨(some 71), .eqa true [true, true, true, true, true, true, true, true, true, true, true] (.t 69) (.t 70), (some (68, true))⟩,
     ⟨(some 72), .pick (.t 68) (.t 71) (.k (.s (.b false))), none⟩,
     ⟨(some 73), .mv (.t 72), none⟩,
     ⟨(some 74), .mv (.t 13), (some (73, true))⟩,
     ⟨(some 75), .bin .eql (.t 74) (.k (.s (.i .i64 0))), (some (73, true))⟩,
     ⟨(some 76), .pick (.t 73) (.t 75) (.k (.s (.b false))), none⟩,
     ⟨(some 77), .mv (.t 76), none⟩,
     ⟨(some 78), .mv (.t 11), (some (77, true))⟩,
     ⟨(some 79), .mv (.t 6), (some (77, true))⟩,
     ⟨(some 80), .bin .eql (.t 78) (.t 79), (some (77, true))⟩,
     ⟨(some 81), .pick (.t 77) (.t 80) (.k (.s (.b false))), none⟩,
     ⟨(some 82), .mv (.t 81), none⟩,
     ⟨(some 83), .mv (.t 12), (some (82, true))⟩,
     ⟨(some 84), .mv (.t 7), (some (82, true))⟩,
     ⟨(some 85), .bin .eql (.t 83) (.t 84), (some (82, true))⟩,
     ⟨(some 86), .pick (.t 82) (.t 85) (.k (.s (.b false))), none⟩,
     ⟨(some 4), .mv (.t 86), none⟩])
   (.ret))))))))), [.t 4]⟩
theorem dc6 : compF Try.prog Try.f6 = some df6 := by kernel_rfl
theorem ok6 : FnOk Try.prog 6 := ⟨Try.f6, Try.func6, by kernel_rfl, by kernel_rfl⟩

/-- citadel/citadellaw09.HeapSizes -/
def df7 : DF :=
  ⟨108, .seq (.reg [⟨(some 1), .box (.t 0), none⟩,
     ⟨(some 2), .mv (.k (.s (.b false))), none⟩])
   (.seq (.reg [⟨(some 23), .call 25 [], none⟩,
     ⟨(some 3), .mv (.t 23), none⟩])
   (.seq (.reg [⟨(some 24), .fa (.t 1) 0, none⟩,
     ⟨(some 25), .ld (.t 24) none, none⟩,
     ⟨(some 4), .mv (.t 25), none⟩])
   (.seq (.reg [⟨(some 26), .fa (.t 1) 1, none⟩,
     ⟨(some 27), .ld (.t 26) none, none⟩,
     ⟨(some 5), .mv (.t 27), none⟩])
   (.seq (.reg [⟨(some 28), .fa (.t 1) 2, none⟩,
     ⟨(some 29), .ld (.t 28) (some 11), none⟩,
     ⟨(some 6), .new [.i .i64 0, .i .i64 0, .i .i64 0, .i .i64 0, .i .i64 0, .i .i64 0, .i .i64 0, .i .i64 0, .i .i64 0, .i .i64 0, .i .i64 0], none⟩,
     ⟨none, .st (.t 6) (.t 29) 11, none⟩])
   (.seq (.reg [⟨(some 30), .fa (.t 1) 13, none⟩,
     ⟨(some 31), .ld (.t 30) (some 11), none⟩,
     ⟨(some 7), .new [.i .i64 0, .i .i64 0, .i .i64 0, .i .i64 0, .i .i64 0, .i .i64 0, .i .i64 0, .i .i64 0, .i .i64 0, .i .i64 0, .i .i64 0], none⟩,
     ⟨none, .st (.t 7) (.t 31) 11, none⟩])
   (.seq (.reg [⟨(some 32), .fa (.t 1) 24, none⟩,
     ⟨(some 33), .ld (.t 32) none, none⟩,
     ⟨(some 8), .mv (.t 33), none⟩])
   (.seq (.reg [⟨(some 35), .mv (.t 4), none⟩,
     ⟨(some 36), .mv (.t 5), none⟩,
     ⟨(some 37), .call 26 [(.t 35), (.t 36)], none⟩,
     ⟨(some 34), .mv (.t 37), none⟩,
     ⟨(some 38), .ext (.t 34) 0, none⟩,
     ⟨(some 39), .ext (.t 34) 1, none⟩,
     ⟨(some 9), .mv (.t 38), none⟩,
     ⟨(some 10), .mv (.t 39), none⟩])
   (.seq (.reg [⟨(some 41), .mv (.t 4), none⟩,
     ⟨(some 42), .mv (.t 5), none⟩,
     ⟨(some 43), .call 27 [(.t 41), (.t 42)], none⟩,
     ⟨(some 40), .mv (.t 43), none⟩,
     ⟨(some 44), .ext (.t 40) 0, none⟩,
     ⟨(some 45), .ext (.t 40) 1, none⟩,
     ⟨(some 11), .mv (.t 44), none⟩,
     ⟨(some 12), .mv (.t 45), none⟩])
   (.seq (.reg [⟨(some 46), .mv (.t 8), none⟩,
     ⟨(some 47), .call 28 [(.t 46)], none⟩,
     ⟨(some 13), .mv (.t 47), none⟩])
   (.seq (.reg [⟨(some 48), .mv (.t 8), none⟩,
     ⟨(some 49), .call 29 [(.t 48)], none⟩,
     ⟨(some 14), .mv (.t 49), none⟩])
   (.seq (.reg [⟨(some 50), .mv (.t 8), none⟩,
     ⟨(some 51), .call 30 [(.t 50)], none⟩,
     ⟨(some 15), .mv (.t 51), none⟩])
   (.seq (.reg [⟨(some 52), .mv (.t 8), none⟩,
     ⟨(some 53), .call 31 [(.t 52)], none⟩,
     ⟨(some 16), .mv (.t 53), none⟩])
   (.seq (.reg [⟨(some 54), .ld (.t 6) (some 11), none⟩,
     ⟨(some 55), .mv (.t 8), none⟩,
     ⟨(some 56), .call 32 [(.t 54), (.t 55)], none⟩,
     ⟨(some 17), .mv (.t 56), none⟩])
   (.seq (.reg [⟨(some 57), .ld (.t 6) (some 11), none⟩,
     ⟨(some 58), .mv (.t 8), none⟩,
     ⟨(some 59), .call 33 [(.t 57), (.t 58)], none⟩,
     ⟨(some 18), .mv (.t 59), none⟩])
   (.seq (.reg [⟨(some 60), .ld (.t 6) (some 11), none⟩,
     ⟨(some 61), .ld (.t 7) (some 11), none⟩,
     ⟨(some 62), .call 34 [(.t 60), (.t 61)], none⟩,
     ⟨(some 19), .mv (.t 62), none⟩])
   (.seq (.reg [⟨(some 63), .ld (.t 6) (some 11), none⟩,
     ⟨(some 64), .ld (.t 7) (some 11), none⟩,
     ⟨(some 65), .call 35 [(.t 63), (.t 64)], none⟩,
     ⟨(some 20), .mv (.t 65), none⟩])
   (.seq (.reg [⟨(some 66), .ld (.t 6) (some 11), none⟩,
     ⟨(some 67), .ld (.t 7) (some 11), none⟩,
     ⟨(some 68), .call 36 [(.t 66), (.t 67)], none⟩,
     ⟨(some 21), .mv (.t 68), none⟩])
   (.seq (.reg [⟨(some 69), .ld (.t 6) (some 11), none⟩,
     ⟨(some 70), .ld (.t 7) (some 11), none⟩,
     ⟨(some 71), .call 37 [(.t 69), (.t 70)], none⟩,
     ⟨(some 22), .mv (.t 71), none⟩])
   (.seq (.reg [⟨(some 72), .mv (.t 3), none⟩,
     ⟨(some 73), .mv (.t 72), none⟩,
     ⟨(some 74), .mv (.t 9), (some (73, true))⟩,
     ⟨(some 75), .mv (.t 11), (some (73, true))⟩,
     ⟨(some 76), .bin .eql (.t 74) (.t 75), (some (73, true))⟩,
     ⟨(some 77), .pick (.t 73) (.t 76) (.k (.s (.b false))), none⟩,
     ⟨(some 78), .mv (.t 77), none⟩,
     ⟨(some 79), .mv (.t 10), (some (78, true))⟩,
     ⟨(some 80), .mv (.t 12), (some (78, true))⟩,
     ⟨(some 81), .bin .eql (.t 79) (.t 80), (some (78, true))⟩,
     ⟨(some 82), .pick (.t 78) (.t 81) (.k (.s (.b false))), none⟩,
     ⟨(some 83), .mv (.t 82), none⟩,
     ⟨(some 84), .mv (.t 13), (some (83, true))⟩,
     ⟨(some 85), .mv (.t 14), (some (83, true))⟩,
     ⟨(some 86), .bin .eql (.t 84) (.t 85), (some (83, true))⟩,
     ⟨(some 87), .pick (.t 83) (.t 86) (.k (.s (.b false))), none⟩,
     ⟨(some 88), .mv (.t 87), none⟩,
     ⟨(some 89), .mv (.t 15), (some (88, true))⟩,
     ⟨(some 90), .mv (.t 16), (some (88, true))⟩,
     ⟨(some 91), .bin .eql (.t 89) (.t 90), (some (88, true))⟩,
     ⟨(some 92), .pick (.t 88) (.t 91) (.k (.s (.b false))), none⟩,
     ⟨(some 93), .mv (.t 92), none⟩,
     ⟨(some 94), .mv (.t 17), (some (93, true))⟩,
     ⟨(some 95), .mv (.t 18), (some (93, true))⟩,
     ⟨(some 96), .bin .eql (.t 94) (.t 95), (some (93, true))⟩,
     ⟨(some 97), .pick (.t 93) (.t 96) (.k (.s (.b false))), none⟩,
     ⟨(some 98), .mv (.t 97), none⟩,
     ⟨(some 99), .mv (.t 19), (some (98, true))⟩,
     ⟨(some 100), .mv (.t 20), (some (98, true))⟩,
     ⟨(some 101), .eqb false (.t 99) (.t 100), (some (98, true))⟩,
     ⟨(some 102), .pick (.t 98) (.t 101) (.k (.s (.b false))), none⟩,
     ⟨(some 103), .mv (.t 102), none⟩,
     ⟨(some 104), .mv (.t 21), (some (103, true))⟩,
     ⟨(some 105), .mv (.t 22), (some (103, true))⟩,
     ⟨(some 106), .eqb false (.t 104) (.t 105), (some (103, true))⟩,
     ⟨(some 107), .pick (.t 103) (.t 106) (.k (.s (.b false))), none⟩,
     ⟨(some 2), .mv (.t 107), none⟩])
   (.ret)))))))))))))))))))), [.t 2]⟩
theorem dc7 : compF Try.prog Try.f7 = some df7 := by kernel_rfl
theorem ok7 : FnOk Try.prog 7 := ⟨Try.f7, Try.func7, by kernel_rfl, by kernel_rfl⟩

/-- citadel/citadellaw09.HeapSlots -/
def df8 : DF :=
  ⟨95, .seq (.reg [⟨(some 1), .box (.t 0), none⟩,
     ⟨(some 2), .mv (.k (.s (.b false))), none⟩])
   (.seq (.reg [⟨(some 12), .call 25 [], none⟩,
     ⟨(some 3), .mv (.t 12), none⟩])
   (.seq (.reg [⟨(some 13), .ld (.t 1) (some 11), none⟩,
     ⟨(some 14), .call 15 [(.t 13)], none⟩,
     ⟨(some 4), .mv (.t 14), none⟩])
   (.seq (.reg [⟨(some 15), .ld (.t 1) (some 11), none⟩,
     ⟨(some 16), .call 21 [(.t 15)], none⟩,
     ⟨(some 5), .mv (.t 16), none⟩])
   (.seq (.reg [⟨(some 6), .mv (.k (.s (.i .i64 0))), none⟩])
   (.seq (.seq (.reg [⟨(some 7), .mv (.k (.s (.i .i64 0))), none⟩])
    (.block 0 (.loop (.seq (.seq (.reg [⟨(some 17), .mv (.t 7), none⟩,
         ⟨(some 18), .bin .leq (.t 17) (.k (.s (.i .i64 256))), none⟩])
       (.cond (.t 18)
        (.skip)
        (.exit 0)))
      (.seq (.block 1 (.seq (.reg [⟨(some 21), .ld (.t 1) (some 11), none⟩,
          ⟨(some 22), .mv (.t 7), none⟩,
          ⟨(some 23), .call 32 [(.t 21), (.t 22)], none⟩,
          ⟨(some 8), .mv (.t 23), none⟩])
        (.seq (.seq (.reg [⟨(some 24), .mv (.t 8), none⟩,
           ⟨(some 25), .bin .eql (.t 24) (.k (.s (.i .i64 0))), none⟩])
         (.cond (.t 25)
          (.exit 0)
          (.skip)))
        (.seq (.seq (.reg [⟨(some 26), .mv (.t 8), none⟩,
           ⟨(some 27), .fa (.t 1) 1, none⟩,
           ⟨(some 28), .ld (.t 27) none, none⟩,
           ⟨(some 29), .mv (.t 7), none⟩,
           ⟨(some 30), .bin .mul (.k (.s (.i .i64 4))) (.t 29), none⟩,
           ⟨(some 31), .bin .add (.t 28) (.t 30), none⟩,
           ⟨(some 32), .bin .neq (.t 26) (.t 31), none⟩,
           ⟨(some 33), .mv (.t 32), none⟩,
           ⟨(some 34), .mv (.t 8), (some (33, false))⟩,
           ⟨(some 35), .bin .lss (.t 34) (.k (.s (.i .i64 1024))), (some (33, false))⟩,
           ⟨(some 36), .pick (.t 33) (.k (.s (.b true))) (.t 35), none⟩,
           ⟨(some 37), .mv (.t 36), none⟩,
           ⟨(some 38), .mv (.t 8), (some (37, false))⟩,
           ⟨(some 39), .bin .add (.t 38) (.k (.s (.i .i64 4))), (some (37, false))⟩,
           ⟨(some 40), .fa (.t 1) 1, (some (37, false))⟩,
           ⟨(some 41), .ld (.t 40) none, (some (37, false))⟩,
           ⟨(some 42), .mv (.t 5), (some (37, false))⟩,
           ⟨(some 43), .bin .add (.t 41) (.t 42), (some (37, false))⟩,
           ⟨(some 44), .bin .gtr (.t 39) (.t 43), (some (37, false))⟩,
           ⟨(some 45), .pick (.t 37) (.k (.s (.b true))) (.t 44), none⟩])
         (.cond (.t 45)
          (.seq (.reg [⟨(some 2), .mv (.k (.s (.b false))), none⟩])
           (.ret))
          (.skip)))
        (.reg [⟨(some 46), .mv (.t 6), none⟩,
         ⟨(some 47), .bin .add (.t 46) (.k (.s (.i .i64 1))), none⟩,
         ⟨(some 6), .mv (.t 47), none⟩])))))
      (.reg [⟨(some 19), .mv (.t 7), none⟩,
       ⟨(some 20), .bin .add (.t 19) (.k (.s (.i .i64 1))), none⟩,
       ⟨(some 7), .mv (.t 20), none⟩]))))))
   (.seq (.reg [⟨(some 48), .ld (.t 1) (some 11), none⟩,
     ⟨(some 49), .call 32 [(.t 48), (.k (.s (.i .i64 (-1))))], none⟩,
     ⟨(some 9), .mv (.t 49), none⟩])
   (.seq (.reg [⟨(some 50), .ld (.t 1) (some 11), none⟩,
     ⟨(some 51), .mv (.t 6), none⟩,
     ⟨(some 52), .call 32 [(.t 50), (.t 51)], none⟩,
     ⟨(some 10), .mv (.t 52), none⟩])
   (.seq (.seq (.reg [⟨(some 53), .mv (.t 9), none⟩,
      ⟨(some 54), .bin .neq (.t 53) (.k (.s (.i .i64 0))), none⟩,
      ⟨(some 55), .mv (.t 54), none⟩,
      ⟨(some 56), .mv (.t 10), (some (55, false))⟩,
      ⟨(some 57), .bin .neq (.t 56) (.k (.s (.i .i64 0))), (some (55, false))⟩,
      ⟨(some 58), .pick (.t 55) (.k (.s (.b true))) (.t 57), none⟩,
      ⟨(some 59), .mv (.t 58), none⟩,
      ⟨(some 60), .mv (.t 4), (some (59, false))⟩,
      ⟨(some 61), .un .not (.t 60), (some (59, false))⟩,
      ⟨(some 62), .mv (.t 61), (some (59, false))⟩,
      ⟨(some 63), .mv (.t 6), (some (62, true))⟩,
      ⟨(some 64), .bin .gtr (.t 63) (.k (.s (.i .i64 0))), (some (62, true))⟩,
      ⟨(some 65), .pick (.t 62) (.t 64) (.k (.s (.b false))), (some (59, false))⟩,
      ⟨(some 66), .pick (.t 59) (.k (.s (.b true))) (.t 65), none⟩])
    (.cond (.t 66)
     (.seq (.reg [⟨(some 2), .mv (.k (.s (.b false))), none⟩])
      (.ret))
     (.skip)))
   (.seq (.reg [⟨(some 67), .fa (.t 1) 0, none⟩,
     ⟨(some 68), .ld (.t 67) none, none⟩,
     ⟨(some 69), .bin .eql (.t 68) (.k (.s (.i .i64 2))), none⟩,
     ⟨(some 70), .mv (.t 69), none⟩,
     ⟨(some 71), .fa (.t 1) 0, (some (70, false))⟩,
     ⟨(some 72), .ld (.t 71) none, (some (70, false))⟩,
     ⟨(some 73), .bin .eql (.t 72) (.k (.s (.i .i64 10))), (some (70, false))⟩,
     ⟨(some 74), .mv (.t 73), (some (70, false))⟩,
     ⟨(some 75), .fa (.t 1) 2, (some (74, true))⟩,
     ⟨(some 76), .ld (.t 75) none, (some (74, true))⟩,
     ⟨(some 77), .bin .neq (.t 76) (.k (.s (.i .i64 31))), (some (74, true))⟩,
     ⟨(some 78), .pick (.t 74) (.t 77) (.k (.s (.b false))), (some (70, false))⟩,
     ⟨(some 79), .pick (.t 70) (.k (.s (.b true))) (.t 78), none⟩,
     ⟨(some 11), .mv (.t 79), none⟩])
   (.seq (.reg [⟨(some 80), .mv (.t 3), none⟩,
     ⟨(some 81), .mv (.t 80), none⟩,
     ⟨(some 82), .mv (.t 4), (some (81, true))⟩,
     ⟨(some 83), .un .not (.t 82), (some (81, true))⟩,
     ⟨(some 84), .mv (.t 83), (some (81, true))⟩,
     ⟨(some 85), .mv (.t 11), (some (84, false))⟩,
     ⟨(some 86), .un .not (.t 85), (some (84, false))⟩,
     ⟨(some 87), .pick (.t 84) (.k (.s (.b true))) (.t 86), (some (81, true))⟩,
     ⟨(some 88), .mv (.t 87), (some (81, true))⟩,
     ⟨(some 89), .mv (.t 6), (some (88, false))⟩,
     ⟨(some 90), .bin .mul (.k (.s (.i .i64 4))) (.t 89), (some (88, false))⟩,
     ⟨(some 91), .mv (.t 5), (some (88, false))⟩,
     ⟨(some 92), .bin .eql (.t 90) (.t 91), (some (88, false))⟩,
     ⟨(some 93), .pick (.t 88) (.k (.s (.b true))) (.t 92), (some (81, true))⟩,
     ⟨(some 94), .pick (.t 81) (.t 93) (.k (.s (.b false))), none⟩,
     ⟨(some 2), .mv (.t 94), none⟩])
   (.ret))))))))))), [.t 2]⟩
theorem dc8 : compF Try.prog Try.f8 = some df8 := by kernel_rfl
theorem ok8 : FnOk Try.prog 8 := ⟨Try.f8, Try.func8, by kernel_rfl, by kernel_rfl⟩

/-- citadel/citadellaw09.HeapNested -/
def df9 : DF :=
  ⟨89, .seq (.reg [⟨(some 3), .box (.t 0), none⟩,
     ⟨(some 4), .box (.t 1), none⟩,
     ⟨(some 5), .box (.t 2), none⟩,
     ⟨(some 6), .mv (.k (.s (.b false))), none⟩])
   (.seq (.reg [⟨(some 17), .call 25 [], none⟩,
     ⟨(some 7), .mv (.t 17), none⟩])
   (.seq (.reg [⟨(some 18), .ld (.t 3) (some 11), none⟩,
     ⟨(some 19), .ld (.t 4) (some 11), none⟩,
     ⟨(some 20), .call 34 [(.t 18), (.t 19)], none⟩,
     ⟨(some 8), .mv (.t 20), none⟩])
   (.seq (.reg [⟨(some 21), .ld (.t 4) (some 11), none⟩,
     ⟨(some 22), .ld (.t 3) (some 11), none⟩,
     ⟨(some 23), .call 34 [(.t 21), (.t 22)], none⟩,
     ⟨(some 9), .mv (.t 23), none⟩])
   (.seq (.reg [⟨(some 24), .ld (.t 3) (some 11), none⟩,
     ⟨(some 25), .ld (.t 4) (some 11), none⟩,
     ⟨(some 26), .call 36 [(.t 24), (.t 25)], none⟩,
     ⟨(some 10), .mv (.t 26), none⟩])
   (.seq (.reg [⟨(some 27), .ld (.t 4) (some 11), none⟩,
     ⟨(some 28), .ld (.t 3) (some 11), none⟩,
     ⟨(some 29), .call 36 [(.t 27), (.t 28)], none⟩,
     ⟨(some 11), .mv (.t 29), none⟩])
   (.seq (.reg [⟨(some 30), .ld (.t 4) (some 11), none⟩,
     ⟨(some 31), .ld (.t 5) (some 11), none⟩,
     ⟨(some 32), .call 36 [(.t 30), (.t 31)], none⟩,
     ⟨(some 12), .mv (.t 32), none⟩])
   (.seq (.reg [⟨(some 33), .ld (.t 3) (some 11), none⟩,
     ⟨(some 34), .ld (.t 5) (some 11), none⟩,
     ⟨(some 35), .call 36 [(.t 33), (.t 34)], none⟩,
     ⟨(some 13), .mv (.t 35), none⟩])
   (.seq (.reg [⟨(some 36), .ld (.t 3) (some 11), none⟩,
     ⟨(some 37), .call 22 [(.t 36)], none⟩,
     ⟨(some 14), .mv (.t 37), none⟩])
   (.seq (.reg [⟨(some 38), .ld (.t 4) (some 11), none⟩,
     ⟨(some 39), .call 22 [(.t 38)], none⟩,
     ⟨(some 15), .mv (.t 39), none⟩])
   (.seq (.reg [⟨(some 40), .ld (.t 3) (some 11), none⟩,
     ⟨(some 41), .ld (.t 3) (some 11), none⟩,
     ⟨(some 42), .call 36 [(.t 40), (.t 41)], none⟩,
     ⟨(some 16), .mv (.t 42), none⟩])
   (.seq (.seq (.reg [⟨(some 43), .mv (.t 8), none⟩,
      ⟨(some 44), .mv (.t 9), none⟩,
      ⟨(some 45), .eqb true (.t 43) (.t 44), none⟩,
      ⟨(some 46), .mv (.t 45), none⟩,
      ⟨(some 47), .mv (.t 16), (some (46, false))⟩,
      ⟨(some 48), .mv (.t 14), (some (46, false))⟩,
      ⟨(some 49), .bin .gtr (.t 48) (.k (.s (.i .i64 0))), (some (46, false))⟩,
      ⟨(some 50), .eqb true (.t 47) (.t 49), (some (46, false))⟩,
      ⟨(some 51), .pick (.t 46) (.k (.s (.b true))) (.t 50), none⟩,
      ⟨(some 52), .mv (.t 51), none⟩,
      ⟨(some 53), .mv (.t 8), (some (52, false))⟩,
      ⟨(some 54), .mv (.t 53), (some (52, false))⟩,
      ⟨(some 55), .mv (.t 10), (some (54, true))⟩,
      ⟨(some 56), .mv (.t 55), (some (54, true))⟩,
      ⟨(some 57), .mv (.t 11), (some (56, false))⟩,
      ⟨(some 58), .pick (.t 56) (.k (.s (.b true))) (.t 57), (some (54, true))⟩,
      ⟨(some 59), .pick (.t 54) (.t 58) (.k (.s (.b false))), (some (52, false))⟩,
      ⟨(some 60), .pick (.t 52) (.k (.s (.b true))) (.t 59), none⟩,
      ⟨(some 61), .mv (.t 60), none⟩,
      ⟨(some 62), .mv (.t 10), (some (61, false))⟩,
      ⟨(some 63), .mv (.t 62), (some (61, false))⟩,
      ⟨(some 64), .mv (.t 12), (some (63, true))⟩,
      ⟨(some 65), .pick (.t 63) (.t 64) (.k (.s (.b false))), (some (61, false))⟩,
      ⟨(some 66), .mv (.t 65), (some (61, false))⟩,
      ⟨(some 67), .mv (.t 13), (some (66, true))⟩,
      ⟨(some 68), .un .not (.t 67), (some (66, true))⟩,
      ⟨(some 69), .pick (.t 66) (.t 68) (.k (.s (.b false))), (some (61, false))⟩,
      ⟨(some 70), .pick (.t 61) (.k (.s (.b true))) (.t 69), none⟩])
    (.cond (.t 70)
     (.seq (.reg [⟨(some 6), .mv (.k (.s (.b false))), none⟩])
      (.ret))
     (.skip)))
   (.seq (.reg [⟨(some 71), .mv (.t 7), none⟩,
     ⟨(some 72), .mv (.t 71), none⟩,
     ⟨(some 73), .mv (.t 14), (some (72, true))⟩,
     ⟨(some 74), .bin .eql (.t 73) (.k (.s (.i .i64 0))), (some (72, true))⟩,
     ⟨(some 75), .mv (.t 74), (some (72, true))⟩,
     ⟨(some 76), .mv (.t 15), (some (75, false))⟩,
     ⟨(some 77), .bin .eql (.t 76) (.k (.s (.i .i64 0))), (some (75, false))⟩,
     ⟨(some 78), .pick (.t 75) (.k (.s (.b true))) (.t 77), (some (72, true))⟩,
     ⟨(some 79), .mv (.t 78), (some (72, true))⟩,
     ⟨(some 80), .mv (.t 8), (some (79, false))⟩,
     ⟨(some 81), .pick (.t 79) (.k (.s (.b true))) (.t 80), (some (72, true))⟩,
     ⟨(some 82), .mv (.t 81), (some (72, true))⟩,
     ⟨(some 83), .mv (.t 10), (some (82, false))⟩,
     ⟨(some 84), .pick (.t 82) (.k (.s (.b true))) (.t 83), (some (72, true))⟩,
     ⟨(some 85), .mv (.t 84), (some (72, true))⟩,
     ⟨(some 86), .mv (.t 11), (some (85, false))⟩,
     ⟨(some 87), .pick (.t 85) (.k (.s (.b true))) (.t 86), (some (72, true))⟩,
     ⟨(some 88), .pick (.t 72) (.t 87) (.k (.s (.b false))), none⟩,
     ⟨(some 6), .mv (.t 88), none⟩])
   (.ret))))))))))))), [.t 6]⟩
theorem dc9 : compF Try.prog Try.f9 = some df9 := by kernel_rfl
theorem ok9 : FnOk Try.prog 9 := ⟨Try.f9, Try.func9, by kernel_rfl, by kernel_rfl⟩

/-- citadel/citadellaw09.HeapOnce -/
def df10 : DF :=
  ⟨141, .seq (.reg [⟨(some 2), .box (.t 0), none⟩,
     ⟨(some 3), .box (.t 1), none⟩,
     ⟨(some 4), .mv (.k (.s (.b false))), none⟩])
   (.seq (.reg [⟨(some 16), .call 25 [], none⟩,
     ⟨(some 5), .mv (.t 16), none⟩])
   (.seq (.reg [⟨(some 17), .ld (.t 2) (some 11), none⟩,
     ⟨(some 18), .ld (.t 3) (some 11), none⟩,
     ⟨(some 19), .call 34 [(.t 17), (.t 18)], none⟩,
     ⟨(some 6), .mv (.t 19), none⟩])
   (.seq (.reg [⟨(some 7), .mv (.k (.s (.ns))), none⟩])
   (.seq (.seq (.reg [⟨(some 8), .mv (.k (.s (.i .i64 0))), none⟩])
    (.block 0 (.loop (.seq (.seq (.reg [⟨(some 20), .mv (.t 8), none⟩,
         ⟨(some 21), .bin .lss (.t 20) (.k (.s (.i .i64 16))), none⟩])
       (.cond (.t 21)
        (.skip)
        (.exit 0)))
      (.seq (.block 1 (.reg [⟨(some 24), .mv (.t 7), none⟩,
         ⟨(some 25), .mv (.t 8), none⟩,
         ⟨(some 26), .call 28 [(.t 25)], none⟩,
         ⟨(some 27), .bsl 1 [.i .i64 0] [(0, 1, (.t 26))], none⟩,
         ⟨(some 28), .app 1 8 (.t 24) (.t 27), none⟩,
         ⟨(some 7), .mv (.t 28), none⟩]))
      (.reg [⟨(some 22), .mv (.t 8), none⟩,
       ⟨(some 23), .bin .add (.t 22) (.k (.s (.i .i64 1))), none⟩,
       ⟨(some 8), .mv (.t 23), none⟩]))))))
   (.seq (.seq (.reg [⟨(some 9), .mv (.k (.s (.i .i64 0))), none⟩])
    (.block 2 (.loop (.seq (.seq (.reg [⟨(some 29), .mv (.t 9), none⟩,
         ⟨(some 30), .bin .lss (.t 29) (.k (.s (.i .i64 8))), none⟩])
       (.cond (.t 30)
        (.skip)
        (.exit 2)))
      (.seq (.block 3 (.reg [⟨(some 33), .mv (.t 7), none⟩,
         ⟨(some 34), .mv (.t 9), none⟩,
         ⟨(some 35), .call 30 [(.t 34)], none⟩,
         ⟨(some 36), .bsl 1 [.i .i64 0] [(0, 1, (.t 35))], none⟩,
         ⟨(some 37), .app 1 8 (.t 33) (.t 36), none⟩,
         ⟨(some 7), .mv (.t 37), none⟩]))
      (.reg [⟨(some 31), .mv (.t 9), none⟩,
       ⟨(some 32), .bin .add (.t 31) (.k (.s (.i .i64 1))), none⟩,
       ⟨(some 9), .mv (.t 32), none⟩]))))))
   (.seq (.seq (.reg [⟨(some 10), .mv (.k (.s (.i .i64 0))), none⟩])
    (.block 4 (.loop (.seq (.seq (.reg [⟨(some 38), .mv (.t 10), none⟩,
         ⟨(some 39), .mv (.t 7), none⟩,
         ⟨(some 40), .len (.t 39), none⟩,
         ⟨(some 41), .bin .lss (.t 38) (.t 40), none⟩])
       (.cond (.t 41)
        (.skip)
        (.exit 4)))
      (.seq (.block 5 (.seq (.reg [⟨(some 11), .mv (.k (.s (.i .i64 0))), none⟩])
        (.block 6 (.loop (.seq (.seq (.reg [⟨(some 44), .mv (.t 11), none⟩,
             ⟨(some 45), .mv (.t 10), none⟩,
             ⟨(some 46), .bin .lss (.t 44) (.t 45), none⟩])
           (.cond (.t 46)
            (.skip)
            (.exit 6)))
          (.seq (.block 7 (.seq (.drq [⟨(some 49), .mv (.t 7), none⟩,
              ⟨(some 50), .mv (.t 10), none⟩,
              ⟨(some 51), .ia none 1 (.t 49) (.t 50), none⟩,
              ⟨(some 52), .ld (.t 51) none, none⟩,
              ⟨(some 53), .mv (.t 7), none⟩,
              ⟨(some 54), .mv (.t 11), none⟩,
              ⟨(some 55), .ia none 1 (.t 53) (.t 54), none⟩,
              ⟨(some 56), .ld (.t 55) none, none⟩,
              ⟨(some 57), .bin .eql (.t 52) (.t 56), none⟩,
              ⟨(some 58), .mv (.t 57), none⟩,
              ⟨(some 59), .mv (.t 7), (some (58, false))⟩,
              ⟨(some 60), .mv (.t 10), (some (58, false))⟩,
              ⟨(some 61), .ia none 1 (.t 59) (.t 60), (some (58, false))⟩,
              ⟨(some 62), .ld (.t 61) none, (some (58, false))⟩,
              ⟨(some 63), .bin .lss (.t 62) (.k (.s (.i .i64 4))), (some (58, false))⟩,
              ⟨(some 64), .pick (.t 58) (.k (.s (.b true))) (.t 63), none⟩,
              ⟨(some 65), .mv (.t 64), none⟩,
              ⟨(some 66), .mv (.t 7), (some (65, false))⟩,
              ⟨(some 67), .mv (.t 10), (some (65, false))⟩,
              ⟨(some 68), .ia none 1 (.t 66) (.t 67), (some (65, false))⟩,
              ⟨(some 69), .ld (.t 68) none, (some (65, false))⟩,
              ⟨(some 70), .bin .add (.t 69) (.k (.s (.i .i64 4))), (some (65, false))⟩,
              ⟨(some 71), .bin .gtr (.t 70) (.k (.s (.i .i64 1024))), (some (65, false))⟩,
              ⟨(some 72), .pick (.t 65) (.k (.s (.b true))) (.t 71), none⟩,
              ⟨(some 73), .mv (.t 72), none⟩,
              ⟨(some 74), .mv (.t 7), (some (73, false))⟩,
              ⟨(some 75), .mv (.t 10), (some (73, false))⟩,
              ⟨(some 76), .ia none 1 (.t 74) (.t 75), (some (73, false))⟩,
              ⟨(some 77), .ld (.t 76) none, (some (73, false))⟩,
              ⟨(some 78), .bin .rem (.t 77) (.k (.s (.i .i64 4))), (some (73, false))⟩,
              ⟨(some 79), .bin .neq (.t 78) (.k (.s (.i .i64 0))), (some (73, false))⟩,
              ⟨(some 80), .pick (.t 73) (.k (.s (.b true))) (.t 79), none⟩])
            (.cond (.t 80)
             (.seq (.reg [⟨(some 4), .mv (.k (.s (.b false))), none⟩])
              (.ret))
             (.skip))))
          (.reg [⟨(some 47), .mv (.t 11), none⟩,
           ⟨(some 48), .bin .add (.t 47) (.k (.s (.i .i64 1))), none⟩,
           ⟨(some 11), .mv (.t 48), none⟩])))))))
      (.reg [⟨(some 42), .mv (.t 10), none⟩,
       ⟨(some 43), .bin .add (.t 42) (.k (.s (.i .i64 1))), none⟩,
       ⟨(some 10), .mv (.t 43), none⟩]))))))
   (.seq (.reg [⟨(some 81), .ld (.t 2) (some 11), none⟩,
     ⟨(some 82), .call 32 [(.t 81), (.k (.s (.i .i64 0)))], none⟩,
     ⟨(some 12), .mv (.t 82), none⟩])
   (.seq (.reg [⟨(some 83), .ld (.t 3) (some 11), none⟩,
     ⟨(some 84), .call 32 [(.t 83), (.k (.s (.i .i64 0)))], none⟩,
     ⟨(some 13), .mv (.t 84), none⟩])
   (.seq (.reg [⟨(some 14), .mv (.k (.s (.i .i64 0))), none⟩])
   (.seq (.block 8 (.loop (.seq (.seq (.reg [⟨(some 85), .ld (.t 2) (some 11), none⟩,
         ⟨(some 86), .mv (.t 14), none⟩,
         ⟨(some 87), .call 32 [(.t 85), (.t 86)], none⟩,
         ⟨(some 88), .bin .neq (.t 87) (.k (.s (.i .i64 0))), none⟩,
         ⟨(some 89), .mv (.t 88), none⟩,
         ⟨(some 90), .mv (.t 14), (some (89, true))⟩,
         ⟨(some 91), .bin .leq (.t 90) (.k (.s (.i .i64 256))), (some (89, true))⟩,
         ⟨(some 92), .pick (.t 89) (.t 91) (.k (.s (.b false))), none⟩])
       (.cond (.t 92)
        (.skip)
        (.exit 8)))
      (.block 9 (.reg [⟨(some 93), .mv (.t 14), none⟩,
        ⟨(some 94), .bin .add (.t 93) (.k (.s (.i .i64 1))), none⟩,
        ⟨(some 14), .mv (.t 94), none⟩])))))
   (.seq (.reg [⟨(some 15), .mv (.k (.s (.i .i64 0))), none⟩])
   (.seq (.block 10 (.loop (.seq (.seq (.reg [⟨(some 95), .ld (.t 3) (some 11), none⟩,
         ⟨(some 96), .mv (.t 15), none⟩,
         ⟨(some 97), .call 32 [(.t 95), (.t 96)], none⟩,
         ⟨(some 98), .bin .neq (.t 97) (.k (.s (.i .i64 0))), none⟩,
         ⟨(some 99), .mv (.t 98), none⟩,
         ⟨(some 100), .mv (.t 15), (some (99, true))⟩,
         ⟨(some 101), .bin .leq (.t 100) (.k (.s (.i .i64 256))), (some (99, true))⟩,
         ⟨(some 102), .pick (.t 99) (.t 101) (.k (.s (.b false))), none⟩])
       (.cond (.t 102)
        (.skip)
        (.exit 10)))
      (.block 11 (.reg [⟨(some 103), .mv (.t 15), none⟩,
        ⟨(some 104), .bin .add (.t 103) (.k (.s (.i .i64 1))), none⟩,
        ⟨(some 15), .mv (.t 104), none⟩])))))
   (.seq (.seq (.reg [⟨(some 105), .mv (.t 14), none⟩,
      ⟨(some 106), .bin .eql (.t 105) (.k (.s (.i .i64 0))), none⟩,
      ⟨(some 107), .mv (.t 106), none⟩,
      ⟨(some 108), .mv (.t 15), (some (107, false))⟩,
      ⟨(some 109), .bin .eql (.t 108) (.k (.s (.i .i64 0))), (some (107, false))⟩,
      ⟨(some 110), .pick (.t 107) (.k (.s (.b true))) (.t 109), none⟩,
      ⟨(some 111), .mv (.t 110), none⟩,
      ⟨(some 112), .mv (.t 6), (some (111, false))⟩,
      ⟨(some 113), .un .not (.t 112), (some (111, false))⟩,
      ⟨(some 114), .pick (.t 111) (.k (.s (.b true))) (.t 113), none⟩])
    (.cond (.t 114)
     (.seq (.reg [⟨(some 115), .mv (.t 5), none⟩,
        ⟨(some 4), .mv (.t 115), none⟩])
      (.ret))
     (.skip)))
   (.seq (.reg [⟨(some 116), .mv (.t 5), none⟩,
     ⟨(some 117), .mv (.t 116), none⟩,
     ⟨(some 118), .mv (.t 12), (some (117, true))⟩,
     ⟨(some 119), .mv (.t 14), (some (117, true))⟩,
     ⟨(some 120), .bin .mul (.k (.s (.i .i64 4))) (.t 119), (some (117, true))⟩,
     ⟨(some 121), .bin .add (.t 118) (.t 120), (some (117, true))⟩,
     ⟨(some 122), .mv (.t 13), (some (117, true))⟩,
     ⟨(some 123), .bin .leq (.t 121) (.t 122), (some (117, true))⟩,
     ⟨(some 124), .mv (.t 123), (some (117, true))⟩,
     ⟨(some 125), .mv (.t 13), (some (124, false))⟩,
     ⟨(some 126), .mv (.t 15), (some (124, false))⟩,
     ⟨(some 127), .bin .mul (.k (.s (.i .i64 4))) (.t 126), (some (124, false))⟩,
     ⟨(some 128), .bin .add (.t 125) (.t 127), (some (124, false))⟩,
     ⟨(some 129), .mv (.t 12), (some (124, false))⟩,
     ⟨(some 130), .bin .leq (.t 128) (.t 129), (some (124, false))⟩,
     ⟨(some 131), .pick (.t 124) (.k (.s (.b true))) (.t 130), (some (117, true))⟩,
     ⟨(some 132), .pick (.t 117) (.t 131) (.k (.s (.b false))), none⟩,
     ⟨(some 133), .mv (.t 132), none⟩,
     ⟨(some 134), .mv (.t 12), (some (133, true))⟩,
     ⟨(some 135), .bin .geq (.t 134) (.k (.s (.i .i64 1024))), (some (133, true))⟩,
     ⟨(some 136), .pick (.t 133) (.t 135) (.k (.s (.b false))), none⟩,
     ⟨(some 137), .mv (.t 136), none⟩,
     ⟨(some 138), .mv (.t 13), (some (137, true))⟩,
     ⟨(some 139), .bin .geq (.t 138) (.k (.s (.i .i64 1024))), (some (137, true))⟩,
     ⟨(some 140), .pick (.t 137) (.t 139) (.k (.s (.b false))), none⟩,
     ⟨(some 4), .mv (.t 140), none⟩])
   (.ret))))))))))))))), [.t 4]⟩
theorem dc10 : compF Try.prog Try.f10 = some df10 := by kernel_rfl
theorem ok10 : FnOk Try.prog 10 := ⟨Try.f10, Try.func10, by kernel_rfl, by kernel_rfl⟩

/-- citadel/citadellaw07.SlotsBack -/
def df11 : DF :=
  ⟨133, .seq (.reg [⟨(some 4), .box (.t 1), none⟩,
     ⟨(some 5), .box (.t 2), none⟩,
     ⟨(some 6), .mv (.k (.s (.b false))), none⟩])
   (.seq (.reg [⟨(some 22), .call 38 [], none⟩,
     ⟨(some 7), .mv (.t 22), none⟩])
   (.seq (.reg [⟨(some 24), .call 39 [(.k (.s (.i .i64 11)))], none⟩,
     ⟨(some 23), .mv (.t 24), none⟩,
     ⟨(some 25), .ext (.t 23) 0, none⟩,
     ⟨(some 26), .ext (.t 23) 1, none⟩,
     ⟨(some 8), .mv (.t 25), none⟩,
     ⟨(some 9), .mv (.t 26), none⟩])
   (.seq (.reg [⟨(some 28), .call 39 [(.k (.s (.i .i64 11)))], none⟩,
     ⟨(some 27), .mv (.t 28), none⟩,
     ⟨(some 29), .ext (.t 27) 0, none⟩,
     ⟨(some 30), .ext (.t 27) 1, none⟩,
     ⟨(some 10), .mv (.t 29), none⟩,
     ⟨(some 11), .mv (.t 30), none⟩])
   (.seq (.seq (.reg [⟨(some 31), .mv (.t 8), none⟩,
      ⟨(some 32), .eqn false false (.t 31), none⟩,
      ⟨(some 33), .mv (.t 32), none⟩,
      ⟨(some 34), .mv (.t 10), (some (33, false))⟩,
      ⟨(some 35), .eqn false false (.t 34), (some (33, false))⟩,
      ⟨(some 36), .pick (.t 33) (.k (.s (.b true))) (.t 35), none⟩,
      ⟨(some 37), .mv (.t 36), none⟩,
      ⟨(some 38), .mv (.t 9), (some (37, false))⟩,
      ⟨(some 39), .bin .neq (.t 38) (.k (.s (.i .i64 0))), (some (37, false))⟩,
      ⟨(some 40), .pick (.t 37) (.k (.s (.b true))) (.t 39), none⟩,
      ⟨(some 41), .mv (.t 40), none⟩,
      ⟨(some 42), .mv (.t 11), (some (41, false))⟩,
      ⟨(some 43), .bin .neq (.t 42) (.k (.s (.i .i64 0))), (some (41, false))⟩,
      ⟨(some 44), .pick (.t 41) (.k (.s (.b true))) (.t 43), none⟩])
    (.cond (.t 44)
     (.seq (.reg [⟨(some 6), .mv (.k (.s (.b false))), none⟩])
      (.ret))
     (.skip)))
   (.seq (.reg [⟨(some 45), .mv (.t 8), none⟩,
     ⟨(some 46), .call 40 [(.t 45), (.k (.s (.i .i64 0))), (.k (.s (.i .i64 2048))), (.k (.s (.i .u64 5)))], none⟩,
     ⟨(some 9), .mv (.t 46), none⟩])
   (.seq (.reg [⟨(some 47), .mv (.t 10), none⟩,
     ⟨(some 48), .call 40 [(.t 47), (.k (.s (.i .i64 0))), (.k (.s (.i .i64 2048))), (.k (.s (.i .u64 5)))], none⟩,
     ⟨(some 11), .mv (.t 48), none⟩])
   (.seq (.reg [⟨(some 49), .mv (.t 8), none⟩,
     ⟨(some 50), .mv (.t 0), none⟩,
     ⟨(some 51), .ld (.t 4) (some 14), none⟩,
     ⟨(some 52), .call 41 [(.t 49), (.t 50), (.t 51)], none⟩,
     ⟨(some 12), .mv (.t 52), none⟩])
   (.seq (.reg [⟨(some 53), .mv (.t 10), none⟩,
     ⟨(some 54), .mv (.t 0), none⟩,
     ⟨(some 55), .ld (.t 5) (some 14), none⟩,
     ⟨(some 56), .call 41 [(.t 53), (.t 54), (.t 55)], none⟩,
     ⟨(some 13), .mv (.t 56), none⟩])
   (.seq (.reg [⟨(some 58), .mv (.t 8), none⟩,
     ⟨(some 59), .call 42 [(.t 58), (.k (.s (.i .i64 0))), (.k (.s (.i .i64 2048)))], none⟩,
     ⟨(some 57), .mv (.t 59), none⟩,
     ⟨(some 60), .ext (.t 57) 0, none⟩,
     ⟨(some 61), .ext (.t 57) 1, none⟩,
     ⟨(some 14), .mv (.t 60), none⟩,
     ⟨(some 15), .mv (.t 61), none⟩])
   (.seq (.reg [⟨(some 63), .mv (.t 10), none⟩,
     ⟨(some 64), .call 42 [(.t 63), (.k (.s (.i .i64 0))), (.k (.s (.i .i64 2048)))], none⟩,
     ⟨(some 62), .mv (.t 64), none⟩,
     ⟨(some 65), .ext (.t 62) 0, none⟩,
     ⟨(some 66), .ext (.t 62) 1, none⟩,
     ⟨(some 16), .mv (.t 65), none⟩,
     ⟨(some 17), .mv (.t 66), none⟩])
   (.seq (.seq (.reg [⟨(some 67), .mv (.t 9), none⟩,
      ⟨(some 68), .bin .neq (.t 67) (.k (.s (.i .i64 0))), none⟩,
      ⟨(some 69), .mv (.t 68), none⟩,
      ⟨(some 70), .mv (.t 11), (some (69, false))⟩,
      ⟨(some 71), .bin .neq (.t 70) (.k (.s (.i .i64 0))), (some (69, false))⟩,
      ⟨(some 72), .pick (.t 69) (.k (.s (.b true))) (.t 71), none⟩,
      ⟨(some 73), .mv (.t 72), none⟩,
      ⟨(some 74), .mv (.t 14), (some (73, false))⟩,
      ⟨(some 75), .len (.t 74), (some (73, false))⟩,
      ⟨(some 76), .bin .neq (.t 75) (.k (.s (.i .i64 2048))), (some (73, false))⟩,
      ⟨(some 77), .pick (.t 73) (.k (.s (.b true))) (.t 76), none⟩])
    (.cond (.t 77)
     (.seq (.reg [⟨(some 6), .mv (.k (.s (.b false))), none⟩])
      (.ret))
     (.skip)))
   (.seq (.seq (.reg [⟨(some 18), .mv (.k (.s (.i .i64 0))), none⟩])
    (.block 0 (.loop (.seq (.seq (.reg [⟨(some 78), .mv (.t 18), none⟩,
         ⟨(some 79), .bin .lss (.t 78) (.k (.s (.i .i64 2048))), none⟩])
       (.cond (.t 79)
        (.skip)
        (.exit 0)))
      (.seq (.block 1 (.seq (.reg [⟨(some 82), .mv (.t 14), none⟩,
          ⟨(some 83), .mv (.t 18), none⟩,
          ⟨(some 84), .ia none 1 (.t 82) (.t 83), none⟩,
          ⟨(some 85), .ld (.t 84) none, none⟩,
          ⟨(some 86), .bin .neq (.t 85) (.k (.s (.i .u64 5))), none⟩,
          ⟨(some 87), .mv (.t 86), none⟩,
          ⟨(some 88), .mv (.t 12), (some (87, true))⟩,
          ⟨(some 89), .bin .neq (.t 88) (.k (.s (.i .i64 0))), (some (87, true))⟩,
          ⟨(some 90), .mv (.t 89), (some (87, true))⟩,
          ⟨(some 91), .mv (.t 18), (some (90, false))⟩,
          ⟨(some 92), .mv (.t 0), (some (90, false))⟩,
          ⟨(some 93), .bin .lss (.t 91) (.t 92), (some (90, false))⟩,
          ⟨(some 94), .pick (.t 90) (.k (.s (.b true))) (.t 93), (some (87, true))⟩,
          ⟨(some 95), .mv (.t 94), (some (87, true))⟩,
          ⟨(some 96), .mv (.t 18), (some (95, false))⟩,
          ⟨(some 97), .mv (.t 0), (some (95, false))⟩,
          ⟨(some 98), .bin .add (.t 97) (.k (.s (.i .i64 4))), (some (95, false))⟩,
          ⟨(some 99), .bin .geq (.t 96) (.t 98), (some (95, false))⟩,
          ⟨(some 100), .pick (.t 95) (.k (.s (.b true))) (.t 99), (some (87, true))⟩,
          ⟨(some 101), .pick (.t 87) (.t 100) (.k (.s (.b false))), none⟩])
        (.cond (.t 101)
         (.seq (.reg [⟨(some 6), .mv (.k (.s (.b false))), none⟩])
          (.ret))
         (.skip))))
      (.reg [⟨(some 80), .mv (.t 18), none⟩,
       ⟨(some 81), .bin .add (.t 80) (.k (.s (.i .i64 1))), none⟩,
       ⟨(some 18), .mv (.t 81), none⟩]))))))
   (.seq (.seq (.reg [⟨(some 102), .mv (.t 12), none⟩,
      ⟨(some 103), .bin .neq (.t 102) (.k (.s (.i .i64 0))), none⟩])
    (.cond (.t 103)
     (.seq (.reg [⟨(some 104), .mv (.t 7), none⟩,
        ⟨(some 6), .mv (.t 104), none⟩])
      (.ret))
     (.skip)))
   (.seq (.reg [⟨(some 106), .mv (.t 8), none⟩,
     ⟨(some 107), .mv (.t 0), none⟩,
     ⟨(some 108), .call 43 [(.t 106), (.t 107)], none⟩,
     ⟨(some 105), .mv (.t 108), none⟩,
     ⟨(some 109), .ext (.t 105) 0, none⟩,
     ⟨(some 110), .ext (.t 105) 1, none⟩,
     ⟨(some 19), .new [.i .i64 0, .i .i64 0, .i .i64 0, .i .i64 0, .i .i64 0, .i .i64 0, .i .i64 0, .i .i64 0, .i .i64 0, .i .i64 0, .i .i64 0, .i .i64 0, .i .i64 0, .i .i64 0], none⟩,
     ⟨none, .st (.t 19) (.t 109) 14, none⟩,
     ⟨(some 20), .mv (.t 110), none⟩])
   (.seq (.seq (.reg [⟨(some 111), .mv (.t 20), none⟩,
      ⟨(some 112), .bin .neq (.t 111) (.k (.s (.i .i64 0))), none⟩,
      ⟨(some 113), .mv (.t 112), none⟩,
      ⟨(some 114), .ld (.t 19) (some 14), (some (113, false))⟩,
      ⟨(some 115), .ld (.t 4) (some 14), (some (113, false))⟩,
      ⟨(some 116), .eqa true [true, true, true, true, true, true, true, true, true, true, true, true, true, true] (.t 114) (.t 115), (some (113, false))⟩,
      ⟨(some 117), .pick (.t 113) (.k (.s (.b true))) (.t 116), none⟩])
    (.cond (.t 117)
     (.seq (.reg [⟨(some 6), .mv (.k (.s (.b false))), none⟩])
      (.ret))
     (.skip)))
   (.seq (.reg [⟨(some 118), .mv (.t 14), none⟩,
     ⟨(some 119), .mv (.t 16), none⟩,
     ⟨(some 120), .call 44 [(.t 118), (.t 119)], none⟩,
     ⟨(some 21), .mv (.t 120), none⟩])
   (.seq (.reg [⟨(some 121), .mv (.t 7), none⟩,
     ⟨(some 122), .mv (.t 121), none⟩,
     ⟨(some 123), .mv (.t 13), (some (122, true))⟩,
     ⟨(some 124), .bin .neq (.t 123) (.k (.s (.i .i64 0))), (some (122, true))⟩,
     ⟨(some 125), .mv (.t 124), (some (122, true))⟩,
     ⟨(some 126), .mv (.t 21), (some (125, false))⟩,
     ⟨(some 127), .ld (.t 4) (some 14), (some (125, false))⟩,
     ⟨(some 128), .ld (.t 5) (some 14), (some (125, false))⟩,
     ⟨(some 129), .eqa false [true, true, true, true, true, true, true, true, true, true, true, true, true, true] (.t 127) (.t 128), (some (125, false))⟩,
     ⟨(some 130), .eqb false (.t 126) (.t 129), (some (125, false))⟩,
     ⟨(some 131), .pick (.t 125) (.k (.s (.b true))) (.t 130), (some (122, true))⟩,
     ⟨(some 132), .pick (.t 122) (.t 131) (.k (.s (.b false))), none⟩,
     ⟨(some 6), .mv (.t 132), none⟩])
   (.ret)))))))))))))))))), [.t 6]⟩
theorem dc11 : compF Try.prog Try.f11 = some df11 := by kernel_rfl
theorem ok11 : FnOk Try.prog 11 := ⟨Try.f11, Try.func11, by kernel_rfl, by kernel_rfl⟩

/-- citadel/citadellaw07.SlotsApart -/
def df12 : DF :=
  ⟨142, .seq (.reg [⟨(some 1), .box (.t 0), none⟩,
     ⟨(some 2), .mv (.k (.s (.b false))), none⟩])
   (.seq (.reg [⟨(some 25), .call 38 [], none⟩,
     ⟨(some 3), .mv (.t 25), none⟩])
   (.seq (.reg [⟨(some 26), .fa (.t 1) 0, none⟩,
     ⟨(some 27), .ld (.t 26) none, none⟩,
     ⟨(some 4), .mv (.t 27), none⟩])
   (.seq (.reg [⟨(some 28), .fa (.t 1) 1, none⟩,
     ⟨(some 29), .ld (.t 28) none, none⟩,
     ⟨(some 5), .mv (.t 29), none⟩])
   (.seq (.reg [⟨(some 30), .fa (.t 1) 2, none⟩,
     ⟨(some 31), .ld (.t 30) (some 14), none⟩,
     ⟨(some 6), .new [.i .i64 0, .i .i64 0, .i .i64 0, .i .i64 0, .i .i64 0, .i .i64 0, .i .i64 0, .i .i64 0, .i .i64 0, .i .i64 0, .i .i64 0, .i .i64 0, .i .i64 0, .i .i64 0], none⟩,
     ⟨none, .st (.t 6) (.t 31) 14, none⟩])
   (.seq (.reg [⟨(some 32), .fa (.t 1) 16, none⟩,
     ⟨(some 33), .ld (.t 32) (some 14), none⟩,
     ⟨(some 7), .new [.i .i64 0, .i .i64 0, .i .i64 0, .i .i64 0, .i .i64 0, .i .i64 0, .i .i64 0, .i .i64 0, .i .i64 0, .i .i64 0, .i .i64 0, .i .i64 0, .i .i64 0, .i .i64 0], none⟩,
     ⟨none, .st (.t 7) (.t 33) 14, none⟩])
   (.seq (.reg [⟨(some 35), .call 39 [(.k (.s (.i .i64 11)))], none⟩,
     ⟨(some 34), .mv (.t 35), none⟩,
     ⟨(some 36), .ext (.t 34) 0, none⟩,
     ⟨(some 37), .ext (.t 34) 1, none⟩,
     ⟨(some 8), .mv (.t 36), none⟩,
     ⟨(some 9), .mv (.t 37), none⟩])
   (.seq (.reg [⟨(some 39), .call 39 [(.k (.s (.i .i64 11)))], none⟩,
     ⟨(some 38), .mv (.t 39), none⟩,
     ⟨(some 40), .ext (.t 38) 0, none⟩,
     ⟨(some 41), .ext (.t 38) 1, none⟩,
     ⟨(some 10), .mv (.t 40), none⟩,
     ⟨(some 11), .mv (.t 41), none⟩])
   (.seq (.seq (.reg [⟨(some 42), .mv (.t 8), none⟩,
      ⟨(some 43), .eqn false false (.t 42), none⟩,
      ⟨(some 44), .mv (.t 43), none⟩,
      ⟨(some 45), .mv (.t 10), (some (44, false))⟩,
      ⟨(some 46), .eqn false false (.t 45), (some (44, false))⟩,
      ⟨(some 47), .pick (.t 44) (.k (.s (.b true))) (.t 46), none⟩,
      ⟨(some 48), .mv (.t 47), none⟩,
      ⟨(some 49), .mv (.t 9), (some (48, false))⟩,
      ⟨(some 50), .bin .neq (.t 49) (.k (.s (.i .i64 0))), (some (48, false))⟩,
      ⟨(some 51), .pick (.t 48) (.k (.s (.b true))) (.t 50), none⟩,
      ⟨(some 52), .mv (.t 51), none⟩,
      ⟨(some 53), .mv (.t 11), (some (52, false))⟩,
      ⟨(some 54), .bin .neq (.t 53) (.k (.s (.i .i64 0))), (some (52, false))⟩,
      ⟨(some 55), .pick (.t 52) (.k (.s (.b true))) (.t 54), none⟩,
      ⟨(some 56), .mv (.t 55), none⟩,
      ⟨(some 57), .mv (.t 4), (some (56, false))⟩,
      ⟨(some 58), .mv (.t 5), (some (56, false))⟩,
      ⟨(some 59), .bin .eql (.t 57) (.t 58), (some (56, false))⟩,
      ⟨(some 60), .pick (.t 56) (.k (.s (.b true))) (.t 59), none⟩])
    (.cond (.t 60)
     (.seq (.reg [⟨(some 61), .mv (.t 3), none⟩,
        ⟨(some 62), .mv (.t 61), none⟩,
        ⟨(some 63), .mv (.t 8), (some (62, true))⟩,
        ⟨(some 64), .eqn false true (.t 63), (some (62, true))⟩,
        ⟨(some 65), .pick (.t 62) (.t 64) (.k (.s (.b false))), none⟩,
        ⟨(some 66), .mv (.t 65), none⟩,
        ⟨(some 67), .mv (.t 10), (some (66, true))⟩,
        ⟨(some 68), .eqn false true (.t 67), (some (66, true))⟩,
        ⟨(some 69), .pick (.t 66) (.t 68) (.k (.s (.b false))), none⟩,
        ⟨(some 2), .mv (.t 69), none⟩])
      (.ret))
     (.skip)))
   (.seq (.reg [⟨(some 70), .mv (.t 8), none⟩,
     ⟨(some 71), .mv (.t 4), none⟩,
     ⟨(some 72), .ld (.t 6) (some 14), none⟩,
     ⟨(some 73), .call 41 [(.t 70), (.t 71), (.t 72)], none⟩,
     ⟨(some 12), .mv (.t 73), none⟩])
   (.seq (.reg [⟨(some 74), .mv (.t 8), none⟩,
     ⟨(some 75), .mv (.t 5), none⟩,
     ⟨(some 76), .ld (.t 7) (some 14), none⟩,
     ⟨(some 77), .call 41 [(.t 74), (.t 75), (.t 76)], none⟩,
     ⟨(some 13), .mv (.t 77), none⟩])
   (.seq (.reg [⟨(some 78), .mv (.t 10), none⟩,
     ⟨(some 79), .mv (.t 5), none⟩,
     ⟨(some 80), .ld (.t 7) (some 14), none⟩,
     ⟨(some 81), .call 41 [(.t 78), (.t 79), (.t 80)], none⟩,
     ⟨(some 14), .mv (.t 81), none⟩])
   (.seq (.reg [⟨(some 82), .mv (.t 10), none⟩,
     ⟨(some 83), .mv (.t 4), none⟩,
     ⟨(some 84), .ld (.t 6) (some 14), none⟩,
     ⟨(some 85), .call 41 [(.t 82), (.t 83), (.t 84)], none⟩,
     ⟨(some 15), .mv (.t 85), none⟩])
   (.seq (.reg [⟨(some 87), .mv (.t 8), none⟩,
     ⟨(some 88), .mv (.t 4), none⟩,
     ⟨(some 89), .call 43 [(.t 87), (.t 88)], none⟩,
     ⟨(some 86), .mv (.t 89), none⟩,
     ⟨(some 90), .ext (.t 86) 0, none⟩,
     ⟨(some 91), .ext (.t 86) 1, none⟩,
     ⟨(some 16), .new [.i .i64 0, .i .i64 0, .i .i64 0, .i .i64 0, .i .i64 0, .i .i64 0, .i .i64 0, .i .i64 0, .i .i64 0, .i .i64 0, .i .i64 0, .i .i64 0, .i .i64 0, .i .i64 0], none⟩,
     ⟨none, .st (.t 16) (.t 90) 14, none⟩,
     ⟨(some 17), .mv (.t 91), none⟩])
   (.seq (.reg [⟨(some 93), .mv (.t 8), none⟩,
     ⟨(some 94), .mv (.t 5), none⟩,
     ⟨(some 95), .call 43 [(.t 93), (.t 94)], none⟩,
     ⟨(some 92), .mv (.t 95), none⟩,
     ⟨(some 96), .ext (.t 92) 0, none⟩,
     ⟨(some 97), .ext (.t 92) 1, none⟩,
     ⟨(some 18), .new [.i .i64 0, .i .i64 0, .i .i64 0, .i .i64 0, .i .i64 0, .i .i64 0, .i .i64 0, .i .i64 0, .i .i64 0, .i .i64 0, .i .i64 0, .i .i64 0, .i .i64 0, .i .i64 0], none⟩,
     ⟨none, .st (.t 18) (.t 96) 14, none⟩,
     ⟨(some 19), .mv (.t 97), none⟩])
   (.seq (.reg [⟨(some 99), .mv (.t 8), none⟩,
     ⟨(some 100), .call 42 [(.t 99), (.k (.s (.i .i64 0))), (.k (.s (.i .i64 2048)))], none⟩,
     ⟨(some 98), .mv (.t 100), none⟩,
     ⟨(some 101), .ext (.t 98) 0, none⟩,
     ⟨(some 102), .ext (.t 98) 1, none⟩,
     ⟨(some 20), .mv (.t 101), none⟩,
     ⟨(some 21), .mv (.t 102), none⟩])
   (.seq (.reg [⟨(some 104), .mv (.t 10), none⟩,
     ⟨(some 105), .call 42 [(.t 104), (.k (.s (.i .i64 0))), (.k (.s (.i .i64 2048)))], none⟩,
     ⟨(some 103), .mv (.t 105), none⟩,
     ⟨(some 106), .ext (.t 103) 0, none⟩,
     ⟨(some 107), .ext (.t 103) 1, none⟩,
     ⟨(some 22), .mv (.t 106), none⟩,
     ⟨(some 23), .mv (.t 107), none⟩])
   (.seq (.reg [⟨(some 108), .mv (.t 20), none⟩,
     ⟨(some 109), .mv (.t 22), none⟩,
     ⟨(some 110), .call 44 [(.t 108), (.t 109)], none⟩,
     ⟨(some 24), .mv (.t 110), none⟩])
   (.seq (.seq (.reg [⟨(some 111), .mv (.t 12), none⟩,
      ⟨(some 112), .mv (.t 15), none⟩,
      ⟨(some 113), .bin .neq (.t 111) (.t 112), none⟩,
      ⟨(some 114), .mv (.t 113), none⟩,
      ⟨(some 115), .mv (.t 13), (some (114, false))⟩,
      ⟨(some 116), .mv (.t 14), (some (114, false))⟩,
      ⟨(some 117), .bin .neq (.t 115) (.t 116), (some (114, false))⟩,
      ⟨(some 118), .pick (.t 114) (.k (.s (.b true))) (.t 117), none⟩,
      ⟨(some 119), .mv (.t 118), none⟩,
      ⟨(some 120), .mv (.t 24), (some (119, false))⟩,
      ⟨(some 121), .un .not (.t 120), (some (119, false))⟩,
      ⟨(some 122), .pick (.t 119) (.k (.s (.b true))) (.t 121), none⟩])
    (.cond (.t 122)
     (.seq (.reg [⟨(some 2), .mv (.k (.s (.b false))), none⟩])
      (.ret))
     (.skip)))
   (.seq (.reg [⟨(some 123), .mv (.t 3), none⟩,
     ⟨(some 124), .mv (.t 123), none⟩,
     ⟨(some 125), .mv (.t 12), (some (124, true))⟩,
     ⟨(some 126), .bin .neq (.t 125) (.k (.s (.i .i64 0))), (some (124, true))⟩,
     ⟨(some 127), .mv (.t 126), (some (124, true))⟩,
     ⟨(some 128), .ld (.t 16) (some 14), (some (127, false))⟩,
     ⟨(some 129), .ld (.t 6) (some 14), (some (127, false))⟩,
     ⟨(some 130), .eqa false [true, true, true, true, true, true, true, true, true, true, true, true, true, true] (.t 128) (.t 129), (some (127, false))⟩,
     ⟨(some 131), .pick (.t 127) (.k (.s (.b true))) (.t 130), (some (124, true))⟩,
     ⟨(some 132), .pick (.t 124) (.t 131) (.k (.s (.b false))), none⟩,
     ⟨(some 133), .mv (.t 132), none⟩,
     ⟨(some 134), .mv (.t 13), (some (133, true))⟩,
     ⟨(some 135), .bin .neq (.t 134) (.k (.s (.i .i64 0))), (some (133, true))⟩,
     ⟨(some 136), .mv (.t 135), (some (133, true))⟩,
     ⟨(some 137), .ld (.t 18) (some 14), (some (136, false))⟩,
     ⟨(some 138), .ld (.t 7) (some 14), (some (136, false))⟩,
     ⟨(some 139), .eqa false [true, true, true, true, true, true, true, true, true, true, true, true, true, true] (.t 137) (.t 138), (some (136, false))⟩,
     ⟨(some 140), .pick (.t 136) (.k (.s (.b true))) (.t 139), (some (133, true))⟩,
     ⟨(some 141), .pick (.t 133) (.t 140) (.k (.s (.b false))), none⟩,
     ⟨(some 2), .mv (.t 141), none⟩])
   (.ret)))))))))))))))))))), [.t 2]⟩
theorem dc12 : compF Try.prog Try.f12 = some df12 := by kernel_rfl
theorem ok12 : FnOk Try.prog 12 := ⟨Try.f12, Try.func12, by kernel_rfl, by kernel_rfl⟩

/-- citadel/citadellaw07.SlotsPlays -/
def df13 : DF :=
  ⟨80, .seq (.reg [⟨(some 6), .mv (.k (.s (.b false))), none⟩])
   (.seq (.seq (.reg [⟨(some 15), .mv (.t 1), none⟩,
      ⟨(some 16), .len (.t 15), none⟩,
      ⟨(some 17), .bin .gtr (.t 16) (.k (.s (.i .i64 2147483647))), none⟩,
      ⟨(some 18), .mv (.t 17), none⟩,
      ⟨(some 19), .mv (.t 2), (some (18, false))⟩,
      ⟨(some 20), .len (.t 19), (some (18, false))⟩,
      ⟨(some 21), .bin .gtr (.t 20) (.k (.s (.i .i64 2147483647))), (some (18, false))⟩,
      ⟨(some 22), .pick (.t 18) (.k (.s (.b true))) (.t 21), none⟩])
    (.cond (.t 22)
     (.seq (.reg [⟨(some 6), .mv (.k (.s (.b true))), none⟩])
      (.ret))
     (.skip)))
   (.seq (.reg [⟨(some 23), .call 38 [], none⟩,
     ⟨(some 7), .mv (.t 23), none⟩])
   (.seq (.seq (.reg [⟨(some 24), .mv (.t 0), none⟩,
      ⟨(some 25), .bin .lss (.t 24) (.k (.s (.i .i64 11))), none⟩,
      ⟨(some 26), .mv (.t 25), none⟩,
      ⟨(some 27), .mv (.t 0), (some (26, false))⟩,
      ⟨(some 28), .bin .gtr (.t 27) (.k (.s (.i .i64 16))), (some (26, false))⟩,
      ⟨(some 29), .pick (.t 26) (.k (.s (.b true))) (.t 28), none⟩])
    (.cond (.t 29)
     (.seq (.reg [⟨(some 30), .mv (.t 7), none⟩,
        ⟨(some 6), .mv (.t 30), none⟩])
      (.ret))
     (.skip)))
   (.seq (.reg [⟨(some 31), .mv (.t 0), none⟩,
     ⟨(some 32), .call 45 [(.t 31)], none⟩,
     ⟨(some 8), .mv (.t 32), none⟩])
   (.seq (.seq (.reg [⟨(some 33), .mv (.t 8), none⟩,
      ⟨(some 34), .eqn false false (.t 33), none⟩])
    (.cond (.t 34)
     (.seq (.reg [⟨(some 6), .mv (.k (.s (.b false))), none⟩])
      (.ret))
     (.skip)))
   (.seq (.seq (.reg [⟨(some 9), .mv (.k (.s (.i .i64 0))), none⟩])
    (.block 0 (.loop (.seq (.seq (.reg [⟨(some 35), .mv (.t 9), none⟩,
         ⟨(some 36), .mv (.t 1), none⟩,
         ⟨(some 37), .len (.t 36), none⟩,
         ⟨(some 38), .bin .lss (.t 35) (.t 37), none⟩])
       (.cond (.t 38)
        (.skip)
        (.exit 0)))
      (.seq (.block 1 (.seq (.reg [⟨(some 41), .mv (.t 8), none⟩,
          ⟨(some 42), .mv (.t 1), none⟩,
          ⟨(some 43), .mv (.t 9), none⟩,
          ⟨(some 44), .ia none 20 (.t 42) (.t 43), none⟩,
          ⟨(some 45), .ld (.t 44) (some 20), none⟩,
          ⟨(some 46), .call 46 [(.t 41), (.t 45)], none⟩,
          ⟨(some 10), .mv (.t 46), none⟩])
        (.seq (.reg [⟨(some 47), .mv (.t 8), none⟩,
          ⟨(some 48), .mv (.t 1), none⟩,
          ⟨(some 49), .mv (.t 9), none⟩,
          ⟨(some 50), .ia none 20 (.t 48) (.t 49), none⟩,
          ⟨(some 51), .fa (.t 50) 0, none⟩,
          ⟨(some 52), .ld (.t 51) none, none⟩,
          ⟨(some 53), .call 47 [(.t 47), (.t 52)], none⟩,
          ⟨(some 11), .mv (.t 53), none⟩])
        (.seq (.reg [⟨(some 54), .mv (.t 10), none⟩,
          ⟨(some 55), .un .not (.t 54), none⟩,
          ⟨(some 56), .mv (.t 55), none⟩,
          ⟨(some 57), .mv (.t 11), (some (56, false))⟩,
          ⟨(some 58), .un .not (.t 57), (some (56, false))⟩,
          ⟨(some 59), .pick (.t 56) (.k (.s (.b true))) (.t 58), none⟩])
        (.cond (.t 59)
         (.seq (.reg [⟨(some 6), .mv (.k (.s (.b false))), none⟩])
          (.ret))
         (.skip))))))
      (.reg [⟨(some 39), .mv (.t 9), none⟩,
       ⟨(some 40), .bin .add (.t 39) (.k (.s (.i .i64 1))), none⟩,
       ⟨(some 9), .mv (.t 40), none⟩]))))))
   (.seq (.seq (.reg [⟨(some 12), .mv (.k (.s (.i .i64 0))), none⟩])
    (.block 2 (.loop (.seq (.seq (.reg [⟨(some 60), .mv (.t 12), none⟩,
         ⟨(some 61), .mv (.t 2), none⟩,
         ⟨(some 62), .len (.t 61), none⟩,
         ⟨(some 63), .bin .lss (.t 60) (.t 62), none⟩])
       (.cond (.t 63)
        (.skip)
        (.exit 2)))
      (.seq (.block 3 (.seq (.reg [⟨(some 66), .mv (.t 8), none⟩,
          ⟨(some 67), .mv (.t 2), none⟩,
          ⟨(some 68), .mv (.t 12), none⟩,
          ⟨(some 69), .ia none 1 (.t 67) (.t 68), none⟩,
          ⟨(some 70), .ld (.t 69) none, none⟩,
          ⟨(some 71), .call 47 [(.t 66), (.t 70)], none⟩,
          ⟨(some 13), .mv (.t 71), none⟩])
        (.seq (.reg [⟨(some 72), .mv (.t 13), none⟩,
          ⟨(some 73), .un .not (.t 72), none⟩])
        (.cond (.t 73)
         (.seq (.reg [⟨(some 6), .mv (.k (.s (.b false))), none⟩])
          (.ret))
         (.skip)))))
      (.reg [⟨(some 64), .mv (.t 12), none⟩,
       ⟨(some 65), .bin .add (.t 64) (.k (.s (.i .i64 1))), none⟩,
       ⟨(some 12), .mv (.t 65), none⟩]))))))
   (.seq (.reg [⟨(some 74), .mv (.t 8), none⟩,
     ⟨(some 75), .call 48 [(.t 74)], none⟩,
     ⟨(some 14), .mv (.t 75), none⟩])
   (.seq (.reg [⟨(some 76), .mv (.t 7), none⟩,
     ⟨(some 77), .mv (.t 76), none⟩,
     ⟨(some 78), .mv (.t 14), (some (77, true))⟩,
     ⟨(some 79), .pick (.t 77) (.t 78) (.k (.s (.b false))), none⟩,
     ⟨(some 6), .mv (.t 79), none⟩])
   (.ret)))))))))), [.t 6]⟩
theorem dc13 : compF Try.prog Try.f13 = some df13 := by kernel_rfl
theorem ok13 : FnOk Try.prog 13 := ⟨Try.f13, Try.func13, by kernel_rfl, by kernel_rfl⟩

/-- citadel/citadellaw06.awake -/
def df14 : DF :=
  ⟨66, .seq (.reg [⟨(some 0), .mv (.k (.s (.b false))), none⟩])
   (.seq (.reg [⟨(some 12), .build [.i .i64 0, .i .i64 0, .i .i64 0, .i .i64 0, .i .i64 0, .i .i64 0, .i .i64 0, .i .i64 0, .i .i64 0, .i .i64 0, .i .i64 0] [(0, 1, (.k (.s (.i .i64 4)))), (1, 1, (.k (.s (.i .i64 1024)))), (7, 1, (.k (.s (.i .i64 7)))), (6, 1, (.k (.s (.i .i64 5))))], none⟩,
     ⟨(some 13), .call 17 [(.t 12)], none⟩,
     ⟨(some 11), .mv (.t 13), none⟩,
     ⟨(some 14), .ext (.t 11) 0, none⟩,
     ⟨(some 15), .ext (.t 11) 1, none⟩,
     ⟨(some 16), .ext (.t 11) 2, none⟩,
     ⟨(some 1), .mv (.t 14), none⟩,
     ⟨(some 2), .mv (.t 15), none⟩,
     ⟨(some 3), .mv (.t 16), none⟩])
   (.seq (.reg [⟨(some 18), .call 19 [(.k (.s (.i .u64 11567105))), (.k (.s (.i .u64 64)))], none⟩,
     ⟨(some 17), .mv (.t 18), none⟩,
     ⟨(some 19), .ext (.t 17) 0, none⟩,
     ⟨(some 20), .ext (.t 17) 1, none⟩,
     ⟨(some 4), .new [.i .i64 0, .i .i64 0, .i .i64 0, .i .i64 0, .i .i64 0, .i .i64 0, .i .i64 0, .i .i64 0, .i .i64 0, .i .i64 0, .i .i64 0], none⟩,
     ⟨none, .st (.t 4) (.t 19) 11, none⟩,
     ⟨(some 5), .mv (.t 20), none⟩])
   (.seq (.reg [⟨(some 21), .build [.i .i64 0, .i .i64 0, .i .i64 0, .i .i64 0, .i .i64 0, .i .i64 0, .i .i64 0, .i .i64 0, .i .i64 0, .i .i64 0, .i .i64 0] [(0, 1, (.k (.s (.i .i64 1)))), (1, 1, (.k (.s (.i .i64 1024)))), (2, 1, (.k (.s (.i .i64 11))))], none⟩,
     ⟨(some 22), .call 15 [(.t 21)], none⟩,
     ⟨(some 6), .mv (.t 22), none⟩])
   (.seq (.reg [⟨(some 24), .call 19 [(.k (.s (.i .u64 14))), (.k (.s (.i .u64 0)))], none⟩,
     ⟨(some 23), .mv (.t 24), none⟩,
     ⟨(some 25), .ext (.t 23) 0, none⟩,
     ⟨(some 26), .ext (.t 23) 1, none⟩,
     ⟨(some 7), .new [.i .i64 0, .i .i64 0, .i .i64 0, .i .i64 0, .i .i64 0, .i .i64 0, .i .i64 0, .i .i64 0, .i .i64 0, .i .i64 0, .i .i64 0], none⟩,
     ⟨none, .st (.t 7) (.t 25) 11, none⟩,
     ⟨(some 8), .mv (.t 26), none⟩])
   (.seq (.reg [⟨(some 27), .build [.i .i64 0, .i .i64 0, .i .i64 0, .i .i64 0, .i .i64 0, .i .i64 0, .i .i64 0, .i .i64 0, .i .i64 0, .i .i64 0, .i .i64 0] [(0, 1, (.k (.s (.i .i64 2)))), (1, 1, (.k (.s (.i .i64 2048)))), (2, 1, (.k (.s (.i .i64 8))))], none⟩,
     ⟨(some 28), .call 21 [(.t 27)], none⟩,
     ⟨(some 9), .mv (.t 28), none⟩])
   (.seq (.reg [⟨(some 29), .build [.i .i64 0, .i .i64 0, .i .i64 0, .i .i64 0, .i .i64 0, .i .i64 0, .i .i64 0, .i .i64 0, .i .i64 0, .i .i64 0, .i .i64 0] [(0, 1, (.k (.s (.i .i64 5)))), (1, 1, (.k (.s (.i .i64 1024)))), (6, 1, (.k (.s (.i .i64 1))))], none⟩,
     ⟨(some 30), .build [.i .i64 0, .i .i64 0, .i .i64 0, .i .i64 0, .i .i64 0, .i .i64 0, .i .i64 0, .i .i64 0, .i .i64 0, .i .i64 0, .i .i64 0] [(0, 1, (.k (.s (.i .i64 5)))), (1, 1, (.k (.s (.i .i64 1024))))], none⟩,
     ⟨(some 31), .call 23 [(.t 29), (.t 30)], none⟩,
     ⟨(some 10), .mv (.t 31), none⟩])
   (.seq (.reg [⟨(some 32), .mv (.t 1), none⟩,
     ⟨(some 33), .bin .eql (.t 32) (.k (.s (.i .u64 234897412))), none⟩,
     ⟨(some 34), .mv (.t 33), none⟩,
     ⟨(some 35), .mv (.t 2), (some (34, true))⟩,
     ⟨(some 36), .bin .eql (.t 35) (.k (.s (.i .u64 5))), (some (34, true))⟩,
     ⟨(some 37), .pick (.t 34) (.t 36) (.k (.s (.b false))), none⟩,
     ⟨(some 38), .mv (.t 37), none⟩,
     ⟨(some 39), .mv (.t 3), (some (38, true))⟩,
     ⟨(some 40), .bin .eql (.t 39) (.k (.s (.i .i64 0))), (some (38, true))⟩,
     ⟨(some 41), .pick (.t 38) (.t 40) (.k (.s (.b false))), none⟩,
     ⟨(some 42), .mv (.t 41), none⟩,
     ⟨(some 43), .ld (.t 4) (some 11), (some (42, true))⟩,
     ⟨(some 44), .build [.i .i64 0, .i .i64 0, .i .i64 0, .i .i64 0, .i .i64 0, .i .i64 0, .i .i64 0, .i .i64 0, .i .i64 0, .i .i64 0, .i .i64 0] [(0, 1, (.k (.s (.i .i64 1)))), (1, 1, (.k (.s (.i .i64 2048)))), (2, 1, (.k (.s (.i .i64 11)))), (3, 1, (.k (.s (.i .i64 64))))], (some (42, true))⟩,
     ⟨(some 45), .eqa false [true, true, true, true, true, true, true, true, true, true, true] (.t 43) (.t 44), (some (42, true))⟩,
     ⟨(some 46), .pick (.t 42) (.t 45) (.k (.s (.b false))), none⟩,
     ⟨(some 47), .mv (.t 46), none⟩,
     ⟨(some 48), .mv (.t 5), (some (47, true))⟩,
     ⟨(some 49), .bin .eql (.t 48) (.k (.s (.i .i64 0))), (some (47, true))⟩,
     ⟨(some 50), .pick (.t 47) (.t 49) (.k (.s (.b false))), none⟩,
     ⟨(some 51), .mv (.t 50), none⟩,
     ⟨(some 52), .mv (.t 6), (some (51, true))⟩,
     ⟨(some 53), .un .not (.t 52), (some (51, true))⟩,
     ⟨(some 54), .pick (.t 51) (.t 53) (.k (.s (.b false))), none⟩,
     ⟨(some 55), .mv (.t 54), none⟩,
     ⟨(some 56), .mv (.t 8), (some (55, true))⟩,
     ⟨(some 57), .bin .eql (.t 56) (.k (.s (.i .i64 60))), (some (55, true))⟩,
     ⟨(some 58), .pick (.t 55) (.t 57) (.k (.s (.b false))), none⟩,
     ⟨(some 59), .mv (.t 58), none⟩,
     ⟨(some 60), .mv (.t 9), (some (59, true))⟩,
     ⟨(some 61), .bin .eql (.t 60) (.k (.s (.i .i64 1024))), (some (59, true))⟩,
     ⟨(some 62), .pick (.t 59) (.t 61) (.k (.s (.b false))), none⟩,
     ⟨(some 63), .mv (.t 62), none⟩,
     ⟨(some 64), .mv (.t 10), (some (63, true))⟩,
     ⟨(some 65), .pick (.t 63) (.t 64) (.k (.s (.b false))), none⟩,
     ⟨(some 0), .mv (.t 65), none⟩])
   (.ret)))))))), [.t 0]⟩
theorem dc14 : compF Try.prog Try.f14 = some df14 := by kernel_rfl
theorem ok14 : FnOk Try.prog 14 := ⟨Try.f14, Try.func14, by kernel_rfl, by kernel_rfl⟩

/-- citadel/caps.Right -/
def df15 : DF :=
  ⟨130, .seq (.reg [⟨(some 1), .box (.t 0), none⟩,
     ⟨(some 2), .mv (.k (.s (.b false))), none⟩])
   (.seq (.reg [⟨(some 6), .ld (.t 1) (some 11), none⟩,
     ⟨(some 7), .call 49 [(.t 6)], none⟩,
     ⟨(some 5), .mv (.t 7), none⟩,
     ⟨(some 8), .ext (.t 5) 0, none⟩,
     ⟨(some 9), .ext (.t 5) 1, none⟩,
     ⟨(some 3), .mv (.t 8), none⟩,
     ⟨(some 4), .mv (.t 9), none⟩])
   (.seq (.seq (.drm [(true, ⟨(some 10), .mv (.t 4), none⟩),
      (true, ⟨(some 11), .un .not (.t 10), none⟩),
      (true, ⟨(some 12), .mv (.t 11), none⟩),
      (true, ⟨(some 13), .fa (.t 1) 0, (some (12, false))⟩),
      (true, ⟨(some 14), .ld (.t 13) none, (some (12, false))⟩),
      (true, ⟨(some 15), .bin .lss (.t 14) (.k (.s (.i .i64 0))), (some (12, false))⟩),
      (true, ⟨(some 16), .pick (.t 12) (.k (.s (.b true))) (.t 15), none⟩),
      (true, ⟨(some 17), .mv (.t 16), none⟩),
      (true, ⟨(some 18), .fa (.t 1) 0, (some (17, false))⟩),
      (true, ⟨(some 19), .ld (.t 18) none, (some (17, false))⟩),
      (true, ⟨(some 20), .bin .gtr (.t 19) (.k (.s (.i .i64 13))), (some (17, false))⟩),
      (true, ⟨(some 21), .pick (.t 17) (.k (.s (.b true))) (.t 20), none⟩),
      (true, ⟨(some 22), .mv (.t 21), none⟩),
      (true, ⟨(some 23), .ld (.t 1) (some 11), (some (22, false))⟩),
      (true, ⟨(some 25), .fa (.t 1) 0, (some (22, false))⟩),
      (true, ⟨(some 26), .ld (.t 25) none, (some (22, false))⟩),
      (true, ⟨(some 27), .build [.i .i64 0, .i .i64 0, .i .i64 0, .i .i64 0, .i .i64 0, .i .i64 0, .i .i64 0, .i .i64 0, .i .i64 0, .i .i64 0, .i .i64 0] [(0, 1, (.t 26))], (some (22, false))⟩),
      (true, ⟨(some 24), .call 50 [(.t 23)], (some (22, false))⟩),
      (true, ⟨(some 28), .eqa true [true, true, true, true, true, true, true, true, true, true, true] (.t 24) (.t 27), (some (22, false))⟩),
      (true, ⟨(some 29), .pick (.t 22) (.k (.s (.b true))) (.t 28), none⟩)])
    (.cond (.t 29)
     (.seq (.reg [⟨(some 2), .mv (.k (.s (.b false))), none⟩])
      (.ret))
     (.skip)))
   (.seq (.seq (.reg [⟨(some 30), .mv (.t 3), none⟩,
      ⟨(some 31), .bin .gtr (.t 30) (.k (.s (.i .i64 0))), none⟩,
      ⟨(some 32), .mv (.t 31), none⟩,
      ⟨(some 33), .fa (.t 1) 1, (some (32, true))⟩,
      ⟨(some 34), .ld (.t 33) none, (some (32, true))⟩,
      ⟨(some 35), .bin .lss (.t 34) (.k (.s (.i .i64 1024))), (some (32, true))⟩,
      ⟨(some 36), .mv (.t 35), (some (32, true))⟩,
      ⟨(some 37), .fa (.t 1) 1, (some (36, false))⟩,
      ⟨(some 38), .ld (.t 37) none, (some (36, false))⟩,
      ⟨(some 39), .bin .gtr (.t 38) (.k (.s (.i .i64 65535))), (some (36, false))⟩,
      ⟨(some 40), .pick (.t 36) (.k (.s (.b true))) (.t 39), (some (32, true))⟩,
      ⟨(some 41), .mv (.t 40), (some (32, true))⟩,
      ⟨(some 42), .fa (.t 1) 1, (some (41, false))⟩,
      ⟨(some 43), .ld (.t 42) none, (some (41, false))⟩,
      ⟨(some 44), .mv (.t 3), (some (41, false))⟩,
      ⟨(some 45), .bin .rem (.t 43) (.t 44), (some (41, false))⟩,
      ⟨(some 46), .bin .neq (.t 45) (.k (.s (.i .i64 0))), (some (41, false))⟩,
      ⟨(some 47), .pick (.t 41) (.k (.s (.b true))) (.t 46), (some (32, true))⟩,
      ⟨(some 48), .pick (.t 32) (.t 47) (.k (.s (.b false))), none⟩])
    (.cond (.t 48)
     (.seq (.reg [⟨(some 2), .mv (.k (.s (.b false))), none⟩])
      (.ret))
     (.skip)))
   (.seq (.seq (.reg [⟨(some 49), .fa (.t 1) 0, none⟩,
      ⟨(some 50), .ld (.t 49) none, none⟩])
    (.block 0 (.seq (.reg [⟨(some 52), .bin .eql (.t 50) (.k (.s (.i .i64 1))), none⟩,
       ⟨(some 51), .mv (.t 52), none⟩])
     (.cond (.t 51)
      (.seq (.reg [⟨(some 53), .fa (.t 1) 3, none⟩,
         ⟨(some 54), .ld (.t 53) none, none⟩,
         ⟨(some 55), .mv (.t 3), none⟩,
         ⟨(some 56), .call 51 [(.t 54), (.t 55)], none⟩,
         ⟨(some 2), .mv (.t 56), none⟩])
       (.ret))
      (.seq (.reg [⟨(some 58), .bin .eql (.t 50) (.k (.s (.i .i64 2))), none⟩,
         ⟨(some 57), .mv (.t 58), none⟩])
       (.cond (.t 57)
        (.seq (.drm [(true, ⟨(some 59), .fa (.t 1) 5, none⟩),
           (true, ⟨(some 60), .ld (.t 59) none, none⟩),
           (false, ⟨(some 61), .call 51 [(.t 60), (.k (.s (.i .i64 31)))], none⟩),
           (true, ⟨(some 62), .mv (.t 61), none⟩),
           (true, ⟨(some 63), .fa (.t 1) 4, (some (62, true))⟩),
           (true, ⟨(some 64), .ld (.t 63) none, (some (62, true))⟩),
           (true, ⟨(some 65), .fa (.t 1) 5, (some (62, true))⟩),
           (true, ⟨(some 66), .ld (.t 65) none, (some (62, true))⟩),
           (true, ⟨(some 67), .bin .shl (.k (.s (.i .i64 1))) (.t 66), (some (62, true))⟩),
           (true, ⟨(some 68), .bin .sub (.t 67) (.k (.s (.i .i64 1))), (some (62, true))⟩),
           (false, ⟨(some 69), .call 51 [(.t 64), (.t 68)], (some (62, true))⟩),
           (true, ⟨(some 70), .pick (.t 62) (.t 69) (.k (.s (.b false))), none⟩),
           (true, ⟨(some 2), .mv (.t 70), none⟩)])
         (.ret))
        (.seq (.seq (.reg [⟨(some 72), .bin .eql (.t 50) (.k (.s (.i .i64 4))), none⟩,
            ⟨(some 71), .mv (.t 72), none⟩])
          (.cond (.t 71)
           (.skip)
           (.reg [⟨(some 73), .bin .eql (.t 50) (.k (.s (.i .i64 5))), none⟩,
             ⟨(some 71), .mv (.t 73), none⟩])))
         (.cond (.t 71)
          (.seq (.reg [⟨(some 74), .fa (.t 1) 7, none⟩,
             ⟨(some 75), .ld (.t 74) none, none⟩,
             ⟨(some 76), .call 51 [(.t 75), (.k (.s (.i .i64 7)))], none⟩,
             ⟨(some 77), .mv (.t 76), none⟩,
             ⟨(some 78), .fa (.t 1) 6, (some (77, true))⟩,
             ⟨(some 79), .ld (.t 78) none, (some (77, true))⟩,
             ⟨(some 80), .call 51 [(.t 79), (.k (.s (.i .i64 268435455)))], (some (77, true))⟩,
             ⟨(some 81), .pick (.t 77) (.t 80) (.k (.s (.b false))), none⟩,
             ⟨(some 2), .mv (.t 81), none⟩])
           (.ret))
          (.seq (.reg [⟨(some 83), .bin .eql (.t 50) (.k (.s (.i .i64 6))), none⟩,
             ⟨(some 82), .mv (.t 83), none⟩])
           (.cond (.t 82)
            (.seq (.reg [⟨(some 84), .fa (.t 1) 8, none⟩,
               ⟨(some 85), .ld (.t 84) none, none⟩,
               ⟨(some 86), .fa (.t 1) 9, none⟩,
               ⟨(some 87), .ld (.t 86) none, none⟩,
               ⟨(some 88), .call 52 [(.t 85), (.t 87), (.k (.s (.i .i64 1)))], none⟩,
               ⟨(some 2), .mv (.t 88), none⟩])
             (.ret))
            (.seq (.reg [⟨(some 90), .bin .eql (.t 50) (.k (.s (.i .i64 7))), none⟩,
               ⟨(some 89), .mv (.t 90), none⟩])
             (.cond (.t 89)
              (.seq (.reg [⟨(some 91), .fa (.t 1) 8, none⟩,
                 ⟨(some 92), .ld (.t 91) none, none⟩,
                 ⟨(some 93), .call 51 [(.t 92), (.k (.s (.i .i64 63)))], none⟩,
                 ⟨(some 94), .mv (.t 93), none⟩,
                 ⟨(some 95), .fa (.t 1) 8, (some (94, true))⟩,
                 ⟨(some 96), .ld (.t 95) none, (some (94, true))⟩,
                 ⟨(some 97), .bin .rem (.t 96) (.k (.s (.i .i64 8))), (some (94, true))⟩,
                 ⟨(some 98), .bin .eql (.t 97) (.k (.s (.i .i64 0))), (some (94, true))⟩,
                 ⟨(some 99), .pick (.t 94) (.t 98) (.k (.s (.b false))), none⟩,
                 ⟨(some 2), .mv (.t 99), none⟩])
               (.ret))
              (.seq (.reg [⟨(some 101), .bin .eql (.t 50) (.k (.s (.i .i64 8))), none⟩,
                 ⟨(some 100), .mv (.t 101), none⟩])
               (.cond (.t 100)
                (.seq (.reg [⟨(some 102), .fa (.t 1) 7, none⟩,
                   ⟨(some 103), .ld (.t 102) none, none⟩,
                   ⟨(some 104), .call 51 [(.t 103), (.k (.s (.i .i64 7)))], none⟩,
                   ⟨(some 105), .mv (.t 104), none⟩,
                   ⟨(some 106), .fa (.t 1) 8, (some (105, true))⟩,
                   ⟨(some 107), .ld (.t 106) none, (some (105, true))⟩,
                   ⟨(some 108), .fa (.t 1) 9, (some (105, true))⟩,
                   ⟨(some 109), .ld (.t 108) none, (some (105, true))⟩,
                   ⟨(some 110), .call 52 [(.t 107), (.t 109), (.k (.s (.i .i64 16)))], (some (105, true))⟩,
                   ⟨(some 111), .pick (.t 105) (.t 110) (.k (.s (.b false))), none⟩,
                   ⟨(some 2), .mv (.t 111), none⟩])
                 (.ret))
                (.seq (.reg [⟨(some 113), .bin .eql (.t 50) (.k (.s (.i .i64 10))), none⟩,
                   ⟨(some 112), .mv (.t 113), none⟩])
                 (.cond (.t 112)
                  (.seq (.seq (.reg [⟨(some 114), .fa (.t 1) 2, none⟩,
                      ⟨(some 115), .ld (.t 114) none, none⟩,
                      ⟨(some 116), .bin .eql (.t 115) (.k (.s (.i .i64 31))), none⟩])
                    (.cond (.t 116)
                     (.seq (.reg [⟨(some 117), .fa (.t 1) 3, none⟩,
                        ⟨(some 118), .ld (.t 117) none, none⟩,
                        ⟨(some 119), .call 51 [(.t 118), (.k (.s (.i .i64 3)))], none⟩,
                        ⟨(some 2), .mv (.t 119), none⟩])
                      (.ret))
                     (.skip)))
                   (.seq (.reg [⟨(some 120), .fa (.t 1) 3, none⟩,
                     ⟨(some 121), .ld (.t 120) none, none⟩,
                     ⟨(some 122), .mv (.t 3), none⟩,
                     ⟨(some 123), .bin .quo (.t 122) (.k (.s (.i .i64 4))), none⟩,
                     ⟨(some 124), .call 51 [(.t 121), (.t 123)], none⟩,
                     ⟨(some 2), .mv (.t 124), none⟩])
                   (.ret)))
                  (.seq (.reg [⟨(some 126), .bin .eql (.t 50) (.k (.s (.i .i64 12))), none⟩,
                     ⟨(some 125), .mv (.t 126), none⟩])
                   (.cond (.t 125)
                    (.seq (.reg [⟨(some 127), .fa (.t 1) 10, none⟩,
                       ⟨(some 128), .ld (.t 127) none, none⟩,
                       ⟨(some 129), .call 51 [(.t 128), (.k (.s (.i .i64 15)))], none⟩,
                       ⟨(some 2), .mv (.t 129), none⟩])
                     (.ret))
                    (.skip)))))))))))))))))))
   (.seq (.reg [⟨(some 2), .mv (.k (.s (.b true))), none⟩])
   (.ret)))))), [.t 2]⟩
theorem dc15 : compF Try.prog Try.f15 = some df15 := by kernel_rfl
theorem ok15 : FnOk Try.prog 15 := ⟨Try.f15, Try.func15, by kernel_rfl, by kernel_rfl⟩

/-- citadel/citadelref06.Right -/
def df16 : DF :=
  ⟨151, .seq (.reg [⟨(some 1), .box (.t 0), none⟩,
     ⟨(some 2), .mv (.k (.s (.b false))), none⟩])
   (.seq (.seq (.drm [(true, ⟨(some 5), .ld (.t 1) (some 11), none⟩),
      (true, ⟨(some 6), .ld (.t 1) (some 11), none⟩),
      (true, ⟨(some 7), .call 53 [(.t 6)], none⟩),
      (true, ⟨(some 8), .eqa true [true, true, true, true, true, true, true, true, true, true, true] (.t 5) (.t 7), none⟩)])
    (.cond (.t 8)
     (.seq (.reg [⟨(some 2), .mv (.k (.s (.b false))), none⟩])
      (.ret))
     (.skip)))
   (.seq (.reg [⟨(some 9), .ld (.t 1) (some 11), none⟩,
     ⟨(some 10), .call 54 [(.t 9)], none⟩,
     ⟨(some 3), .mv (.t 10), none⟩])
   (.seq (.seq (.reg [⟨(some 11), .mv (.t 3), none⟩,
      ⟨(some 12), .bin .gtr (.t 11) (.k (.s (.i .i64 0))), none⟩])
    (.cond (.t 12)
     (.seq (.reg [⟨(some 13), .fa (.t 1) 1, none⟩,
        ⟨(some 14), .ld (.t 13) none, none⟩,
        ⟨(some 15), .mv (.t 3), none⟩,
        ⟨(some 16), .call 55 [(.t 14), (.t 15)], none⟩,
        ⟨(some 4), .mv (.t 16), none⟩])
      (.seq (.reg [⟨(some 17), .mv (.t 4), none⟩,
        ⟨(some 18), .un .not (.t 17), none⟩])
      (.cond (.t 18)
       (.seq (.reg [⟨(some 2), .mv (.k (.s (.b false))), none⟩])
        (.ret))
       (.skip))))
     (.skip)))
   (.seq (.seq (.reg [⟨(some 19), .fa (.t 1) 0, none⟩,
      ⟨(some 20), .ld (.t 19) none, none⟩])
    (.block 0 (.seq (.seq (.reg [⟨(some 22), .bin .eql (.t 20) (.k (.s (.i .i64 0))), none⟩,
        ⟨(some 21), .mv (.t 22), none⟩])
      (.cond (.t 21)
       (.skip)
       (.seq (.reg [⟨(some 23), .bin .eql (.t 20) (.k (.s (.i .i64 11))), none⟩,
          ⟨(some 21), .mv (.t 23), none⟩])
        (.cond (.t 21)
         (.skip)
         (.reg [⟨(some 24), .bin .eql (.t 20) (.k (.s (.i .i64 13))), none⟩,
           ⟨(some 21), .mv (.t 24), none⟩])))))
     (.cond (.t 21)
      (.seq (.reg [⟨(some 2), .mv (.k (.s (.b true))), none⟩])
       (.ret))
      (.seq (.seq (.reg [⟨(some 26), .bin .eql (.t 20) (.k (.s (.i .i64 3))), none⟩,
          ⟨(some 25), .mv (.t 26), none⟩])
        (.cond (.t 25)
         (.skip)
         (.reg [⟨(some 27), .bin .eql (.t 20) (.k (.s (.i .i64 9))), none⟩,
           ⟨(some 25), .mv (.t 27), none⟩])))
       (.cond (.t 25)
        (.seq (.reg [⟨(some 2), .mv (.k (.s (.b true))), none⟩])
         (.ret))
        (.seq (.reg [⟨(some 29), .bin .eql (.t 20) (.k (.s (.i .i64 1))), none⟩,
           ⟨(some 28), .mv (.t 29), none⟩])
         (.cond (.t 28)
          (.seq (.reg [⟨(some 30), .mv (.t 3), none⟩,
             ⟨(some 31), .bin .gtr (.t 30) (.k (.s (.i .i64 0))), none⟩,
             ⟨(some 32), .mv (.t 31), none⟩,
             ⟨(some 33), .fa (.t 1) 3, (some (32, true))⟩,
             ⟨(some 34), .ld (.t 33) none, (some (32, true))⟩,
             ⟨(some 35), .mv (.t 3), (some (32, true))⟩,
             ⟨(some 36), .call 56 [(.t 34), (.k (.s (.i .i64 0))), (.t 35)], (some (32, true))⟩,
             ⟨(some 37), .pick (.t 32) (.t 36) (.k (.s (.b false))), none⟩,
             ⟨(some 2), .mv (.t 37), none⟩])
           (.ret))
          (.seq (.reg [⟨(some 39), .bin .eql (.t 20) (.k (.s (.i .i64 2))), none⟩,
             ⟨(some 38), .mv (.t 39), none⟩])
           (.cond (.t 38)
            (.seq (.drm [(true, ⟨(some 40), .mv (.t 3), none⟩),
               (true, ⟨(some 41), .bin .gtr (.t 40) (.k (.s (.i .i64 0))), none⟩),
               (true, ⟨(some 42), .mv (.t 41), none⟩),
               (true, ⟨(some 43), .fa (.t 1) 5, (some (42, true))⟩),
               (true, ⟨(some 44), .ld (.t 43) none, (some (42, true))⟩),
               (false, ⟨(some 45), .call 56 [(.t 44), (.k (.s (.i .i64 0))), (.k (.s (.i .i64 31)))], (some (42, true))⟩),
               (true, ⟨(some 46), .pick (.t 42) (.t 45) (.k (.s (.b false))), none⟩),
               (true, ⟨(some 47), .mv (.t 46), none⟩),
               (true, ⟨(some 48), .fa (.t 1) 4, (some (47, true))⟩),
               (true, ⟨(some 49), .ld (.t 48) none, (some (47, true))⟩),
               (true, ⟨(some 50), .fa (.t 1) 5, (some (47, true))⟩),
               (true, ⟨(some 51), .ld (.t 50) none, (some (47, true))⟩),
               (true, ⟨(some 52), .bin .shl (.k (.s (.i .i64 1))) (.t 51), (some (47, true))⟩),
               (true, ⟨(some 53), .bin .sub (.t 52) (.k (.s (.i .i64 1))), (some (47, true))⟩),
               (false, ⟨(some 54), .call 56 [(.t 49), (.k (.s (.i .i64 0))), (.t 53)], (some (47, true))⟩),
               (true, ⟨(some 55), .pick (.t 47) (.t 54) (.k (.s (.b false))), none⟩),
               (true, ⟨(some 2), .mv (.t 55), none⟩)])
             (.ret))
            (.seq (.seq (.reg [⟨(some 57), .bin .eql (.t 20) (.k (.s (.i .i64 4))), none⟩,
                ⟨(some 56), .mv (.t 57), none⟩])
              (.cond (.t 56)
               (.skip)
               (.reg [⟨(some 58), .bin .eql (.t 20) (.k (.s (.i .i64 5))), none⟩,
                 ⟨(some 56), .mv (.t 58), none⟩])))
             (.cond (.t 56)
              (.seq (.reg [⟨(some 59), .fa (.t 1) 7, none⟩,
                 ⟨(some 60), .ld (.t 59) none, none⟩,
                 ⟨(some 61), .call 56 [(.t 60), (.k (.s (.i .i64 0))), (.k (.s (.i .i64 7)))], none⟩,
                 ⟨(some 62), .mv (.t 61), none⟩,
                 ⟨(some 63), .fa (.t 1) 6, (some (62, true))⟩,
                 ⟨(some 64), .ld (.t 63) none, (some (62, true))⟩,
                 ⟨(some 65), .call 56 [(.t 64), (.k (.s (.i .i64 0))), (.k (.s (.i .i64 268435455)))], (some (62, true))⟩,
                 ⟨(some 66), .pick (.t 62) (.t 65) (.k (.s (.b false))), none⟩,
                 ⟨(some 2), .mv (.t 66), none⟩])
               (.ret))
              (.seq (.reg [⟨(some 68), .bin .eql (.t 20) (.k (.s (.i .i64 6))), none⟩,
                 ⟨(some 67), .mv (.t 68), none⟩])
               (.cond (.t 67)
                (.seq (.reg [⟨(some 69), .fa (.t 1) 8, none⟩,
                   ⟨(some 70), .ld (.t 69) none, none⟩,
                   ⟨(some 71), .call 56 [(.t 70), (.k (.s (.i .i64 0))), (.k (.s (.i .i64 63)))], none⟩,
                   ⟨(some 72), .mv (.t 71), none⟩,
                   ⟨(some 73), .fa (.t 1) 9, (some (72, true))⟩,
                   ⟨(some 74), .ld (.t 73) none, (some (72, true))⟩,
                   ⟨(some 75), .call 56 [(.t 74), (.k (.s (.i .i64 0))), (.k (.s (.i .i64 65535)))], (some (72, true))⟩,
                   ⟨(some 76), .pick (.t 72) (.t 75) (.k (.s (.b false))), none⟩,
                   ⟨(some 77), .mv (.t 76), none⟩,
                   ⟨(some 78), .fa (.t 1) 8, (some (77, true))⟩,
                   ⟨(some 79), .ld (.t 78) none, (some (77, true))⟩,
                   ⟨(some 80), .bin .gtr (.t 79) (.k (.s (.i .i64 0))), (some (77, true))⟩,
                   ⟨(some 81), .mv (.t 80), (some (77, true))⟩,
                   ⟨(some 82), .fa (.t 1) 9, (some (81, false))⟩,
                   ⟨(some 83), .ld (.t 82) none, (some (81, false))⟩,
                   ⟨(some 84), .bin .eql (.t 83) (.k (.s (.i .i64 0))), (some (81, false))⟩,
                   ⟨(some 85), .pick (.t 81) (.k (.s (.b true))) (.t 84), (some (77, true))⟩,
                   ⟨(some 86), .pick (.t 77) (.t 85) (.k (.s (.b false))), none⟩,
                   ⟨(some 2), .mv (.t 86), none⟩])
                 (.ret))
                (.seq (.reg [⟨(some 88), .bin .eql (.t 20) (.k (.s (.i .i64 7))), none⟩,
                   ⟨(some 87), .mv (.t 88), none⟩])
                 (.cond (.t 87)
                  (.seq (.reg [⟨(some 89), .fa (.t 1) 8, none⟩,
                     ⟨(some 90), .ld (.t 89) none, none⟩,
                     ⟨(some 91), .call 56 [(.t 90), (.k (.s (.i .i64 0))), (.k (.s (.i .i64 56)))], none⟩,
                     ⟨(some 92), .mv (.t 91), none⟩,
                     ⟨(some 93), .fa (.t 1) 8, (some (92, true))⟩,
                     ⟨(some 94), .ld (.t 93) none, (some (92, true))⟩,
                     ⟨(some 95), .bin .rem (.t 94) (.k (.s (.i .i64 8))), (some (92, true))⟩,
                     ⟨(some 96), .bin .eql (.t 95) (.k (.s (.i .i64 0))), (some (92, true))⟩,
                     ⟨(some 97), .pick (.t 92) (.t 96) (.k (.s (.b false))), none⟩,
                     ⟨(some 2), .mv (.t 97), none⟩])
                   (.ret))
                  (.seq (.reg [⟨(some 99), .bin .eql (.t 20) (.k (.s (.i .i64 8))), none⟩,
                     ⟨(some 98), .mv (.t 99), none⟩])
                   (.cond (.t 98)
                    (.seq (.reg [⟨(some 100), .fa (.t 1) 7, none⟩,
                       ⟨(some 101), .ld (.t 100) none, none⟩,
                       ⟨(some 102), .call 56 [(.t 101), (.k (.s (.i .i64 0))), (.k (.s (.i .i64 7)))], none⟩,
                       ⟨(some 103), .mv (.t 102), none⟩,
                       ⟨(some 104), .fa (.t 1) 8, (some (103, true))⟩,
                       ⟨(some 105), .ld (.t 104) none, (some (103, true))⟩,
                       ⟨(some 106), .call 56 [(.t 105), (.k (.s (.i .i64 0))), (.k (.s (.i .i64 63)))], (some (103, true))⟩,
                       ⟨(some 107), .pick (.t 103) (.t 106) (.k (.s (.b false))), none⟩,
                       ⟨(some 108), .mv (.t 107), none⟩,
                       ⟨(some 109), .fa (.t 1) 9, (some (108, true))⟩,
                       ⟨(some 110), .ld (.t 109) none, (some (108, true))⟩,
                       ⟨(some 111), .call 56 [(.t 110), (.k (.s (.i .i64 0))), (.k (.s (.i .i64 65520)))], (some (108, true))⟩,
                       ⟨(some 112), .pick (.t 108) (.t 111) (.k (.s (.b false))), none⟩,
                       ⟨(some 113), .mv (.t 112), none⟩,
                       ⟨(some 114), .fa (.t 1) 9, (some (113, true))⟩,
                       ⟨(some 115), .ld (.t 114) none, (some (113, true))⟩,
                       ⟨(some 116), .bin .rem (.t 115) (.k (.s (.i .i64 16))), (some (113, true))⟩,
                       ⟨(some 117), .bin .eql (.t 116) (.k (.s (.i .i64 0))), (some (113, true))⟩,
                       ⟨(some 118), .pick (.t 113) (.t 117) (.k (.s (.b false))), none⟩,
                       ⟨(some 119), .mv (.t 118), none⟩,
                       ⟨(some 120), .fa (.t 1) 8, (some (119, true))⟩,
                       ⟨(some 121), .ld (.t 120) none, (some (119, true))⟩,
                       ⟨(some 122), .bin .gtr (.t 121) (.k (.s (.i .i64 0))), (some (119, true))⟩,
                       ⟨(some 123), .mv (.t 122), (some (119, true))⟩,
                       ⟨(some 124), .fa (.t 1) 9, (some (123, false))⟩,
                       ⟨(some 125), .ld (.t 124) none, (some (123, false))⟩,
                       ⟨(some 126), .bin .eql (.t 125) (.k (.s (.i .i64 0))), (some (123, false))⟩,
                       ⟨(some 127), .pick (.t 123) (.k (.s (.b true))) (.t 126), (some (119, true))⟩,
                       ⟨(some 128), .pick (.t 119) (.t 127) (.k (.s (.b false))), none⟩,
                       ⟨(some 2), .mv (.t 128), none⟩])
                     (.ret))
                    (.seq (.reg [⟨(some 130), .bin .eql (.t 20) (.k (.s (.i .i64 10))), none⟩,
                       ⟨(some 129), .mv (.t 130), none⟩])
                     (.cond (.t 129)
                      (.seq (.seq (.reg [⟨(some 131), .fa (.t 1) 2, none⟩,
                          ⟨(some 132), .ld (.t 131) none, none⟩,
                          ⟨(some 133), .bin .eql (.t 132) (.k (.s (.i .i64 31))), none⟩])
                        (.cond (.t 133)
                         (.seq (.reg [⟨(some 134), .fa (.t 1) 3, none⟩,
                            ⟨(some 135), .ld (.t 134) none, none⟩,
                            ⟨(some 136), .call 56 [(.t 135), (.k (.s (.i .i64 0))), (.k (.s (.i .i64 3)))], none⟩,
                            ⟨(some 2), .mv (.t 136), none⟩])
                          (.ret))
                         (.skip)))
                       (.seq (.reg [⟨(some 137), .mv (.t 3), none⟩,
                         ⟨(some 138), .bin .gtr (.t 137) (.k (.s (.i .i64 0))), none⟩,
                         ⟨(some 139), .mv (.t 138), none⟩,
                         ⟨(some 140), .fa (.t 1) 3, (some (139, true))⟩,
                         ⟨(some 141), .ld (.t 140) none, (some (139, true))⟩,
                         ⟨(some 142), .mv (.t 3), (some (139, true))⟩,
                         ⟨(some 143), .bin .quo (.t 142) (.k (.s (.i .i64 4))), (some (139, true))⟩,
                         ⟨(some 144), .call 56 [(.t 141), (.k (.s (.i .i64 0))), (.t 143)], (some (139, true))⟩,
                         ⟨(some 145), .pick (.t 139) (.t 144) (.k (.s (.b false))), none⟩,
                         ⟨(some 2), .mv (.t 145), none⟩])
                       (.ret)))
                      (.seq (.reg [⟨(some 147), .bin .eql (.t 20) (.k (.s (.i .i64 12))), none⟩,
                         ⟨(some 146), .mv (.t 147), none⟩])
                       (.cond (.t 146)
                        (.seq (.reg [⟨(some 148), .fa (.t 1) 10, none⟩,
                           ⟨(some 149), .ld (.t 148) none, none⟩,
                           ⟨(some 150), .call 56 [(.t 149), (.k (.s (.i .i64 0))), (.k (.s (.i .i64 15)))], none⟩,
                           ⟨(some 2), .mv (.t 150), none⟩])
                         (.ret))
                        (.skip)))))))))))))))))))))))
   (.seq (.reg [⟨(some 2), .mv (.k (.s (.b false))), none⟩])
   (.ret)))))), [.t 2]⟩
theorem dc16 : compF Try.prog Try.f16 = some df16 := by kernel_rfl
theorem ok16 : FnOk Try.prog 16 := ⟨Try.f16, Try.func16, by kernel_rfl, by kernel_rfl⟩

/-- citadel/caps.Encode -/
def df17 : DF :=
  ⟨46, .seq (.reg [⟨(some 1), .box (.t 0), none⟩,
     ⟨(some 2), .mv (.k (.s (.i .u64 0))), none⟩,
     ⟨(some 3), .mv (.k (.s (.i .u64 0))), none⟩,
     ⟨(some 4), .mv (.k (.s (.i .i64 0))), none⟩])
   (.seq (.seq (.reg [⟨(some 6), .ld (.t 1) (some 11), none⟩,
      ⟨(some 7), .call 15 [(.t 6)], none⟩,
      ⟨(some 8), .un .not (.t 7), none⟩])
    (.cond (.t 8)
     (.seq (.reg [⟨(some 2), .mv (.k (.s (.i .u64 0))), none⟩,
        ⟨(some 3), .mv (.k (.s (.i .u64 0))), none⟩,
        ⟨(some 4), .mv (.k (.s (.i .i64 60))), none⟩])
      (.ret))
     (.skip)))
   (.seq (.reg [⟨(some 5), .mv (.k (.s (.fn 57 []))), none⟩])
   (.seq (.drm [(true, ⟨(some 10), .mv (.t 5), none⟩),
     (true, ⟨(some 11), .fa (.t 1) 0, none⟩),
     (true, ⟨(some 12), .ld (.t 11) none, none⟩),
     (true, ⟨(some 14), .mv (.t 5), none⟩),
     (true, ⟨(some 15), .fa (.t 1) 1, none⟩),
     (true, ⟨(some 16), .ld (.t 15) none, none⟩),
     (true, ⟨(some 18), .mv (.t 5), none⟩),
     (true, ⟨(some 19), .fa (.t 1) 2, none⟩),
     (true, ⟨(some 20), .ld (.t 19) none, none⟩),
     (true, ⟨(some 22), .mv (.t 5), none⟩),
     (true, ⟨(some 23), .fa (.t 1) 7, none⟩),
     (true, ⟨(some 24), .ld (.t 23) none, none⟩),
     (true, ⟨(some 26), .mv (.t 5), none⟩),
     (true, ⟨(some 27), .fa (.t 1) 10, none⟩),
     (true, ⟨(some 28), .ld (.t 27) none, none⟩),
     (true, ⟨(some 30), .mv (.t 5), none⟩),
     (true, ⟨(some 31), .fa (.t 1) 8, none⟩),
     (true, ⟨(some 32), .ld (.t 31) none, none⟩),
     (true, ⟨(some 34), .mv (.t 5), none⟩),
     (true, ⟨(some 35), .fa (.t 1) 5, none⟩),
     (true, ⟨(some 36), .ld (.t 35) none, none⟩),
     (true, ⟨(some 13), .callv (.t 10) [(.k (.s (.i .i64 4))), (.t 12)], none⟩),
     (true, ⟨(some 17), .callv (.t 14) [(.k (.s (.i .i64 16))), (.t 16)], none⟩),
     (true, ⟨(some 21), .callv (.t 18) [(.k (.s (.i .i64 5))), (.t 20)], none⟩),
     (true, ⟨(some 25), .callv (.t 22) [(.k (.s (.i .i64 3))), (.t 24)], none⟩),
     (true, ⟨(some 29), .callv (.t 26) [(.k (.s (.i .i64 4))), (.t 28)], none⟩),
     (true, ⟨(some 33), .callv (.t 30) [(.k (.s (.i .i64 6))), (.t 32)], none⟩),
     (false, ⟨(some 37), .callv (.t 34) [(.k (.s (.i .i64 5))), (.t 36)], none⟩),
     (false, ⟨(some 38), .bsl 7 [.i .i64 0, .i .u64 0, .i .i64 0, .i .u64 0, .i .i64 0, .i .u64 0, .i .i64 0, .i .u64 0, .i .i64 0, .i .u64 0, .i .i64 0, .i .u64 0, .i .i64 0, .i .u64 0] [(0, 2, (.t 13)), (2, 2, (.t 17)), (4, 2, (.t 21)), (6, 2, (.t 25)), (8, 2, (.t 29)), (10, 2, (.t 33)), (12, 2, (.t 37))], none⟩),
     (false, ⟨(some 39), .call 58 [(.t 38)], none⟩),
     (true, ⟨(some 9), .mv (.t 39), none⟩),
     (true, ⟨(some 40), .ext (.t 9) 0, none⟩),
     (true, ⟨(some 41), .ext (.t 9) 1, none⟩),
     (true, ⟨(some 2), .mv (.t 40), none⟩)])
   (.seq (.reg [⟨(some 42), .mv (.t 2), none⟩,
     ⟨(some 43), .ld (.t 1) (some 11), none⟩,
     ⟨(some 44), .call 59 [(.t 43)], none⟩,
     ⟨(some 45), .conv .u64 (.t 44), none⟩,
     ⟨(some 2), .mv (.t 42), none⟩,
     ⟨(some 3), .mv (.t 45), none⟩,
     ⟨(some 4), .mv (.k (.s (.i .i64 0))), none⟩])
   (.ret))))), [.t 2, .t 3, .t 4]⟩
theorem dc17 : compF Try.prog Try.f17 = some df17 := by kernel_rfl
theorem ok17 : FnOk Try.prog 17 := ⟨Try.f17, Try.func17, by kernel_rfl, by kernel_rfl⟩

/-- citadel/citadelref06.Encode -/
def df18 : DF :=
  ⟨66, .seq (.reg [⟨(some 1), .box (.t 0), none⟩,
     ⟨(some 2), .mv (.k (.s (.i .u64 0))), none⟩,
     ⟨(some 3), .mv (.k (.s (.i .u64 0))), none⟩,
     ⟨(some 4), .mv (.k (.s (.i .i64 0))), none⟩])
   (.seq (.reg [⟨(some 8), .ld (.t 1) (some 11), none⟩,
     ⟨(some 9), .call 16 [(.t 8)], none⟩,
     ⟨(some 5), .mv (.t 9), none⟩])
   (.seq (.seq (.reg [⟨(some 10), .mv (.t 5), none⟩,
      ⟨(some 11), .un .not (.t 10), none⟩])
    (.cond (.t 11)
     (.seq (.reg [⟨(some 2), .mv (.k (.s (.i .u64 0))), none⟩,
        ⟨(some 3), .mv (.k (.s (.i .u64 0))), none⟩,
        ⟨(some 4), .mv (.k (.s (.i .i64 60))), none⟩])
      (.ret))
     (.skip)))
   (.seq (.reg [⟨(some 12), .fa (.t 1) 0, none⟩,
     ⟨(some 13), .ld (.t 12) none, none⟩,
     ⟨(some 14), .conv .u64 (.t 13), none⟩,
     ⟨(some 15), .fa (.t 1) 1, none⟩,
     ⟨(some 16), .ld (.t 15) none, none⟩,
     ⟨(some 17), .conv .u64 (.t 16), none⟩,
     ⟨(some 18), .bin .shl (.t 17) (.k (.s (.i .u64 4))), none⟩,
     ⟨(some 19), .bin .add (.t 14) (.t 18), none⟩,
     ⟨(some 20), .fa (.t 1) 2, none⟩,
     ⟨(some 21), .ld (.t 20) none, none⟩,
     ⟨(some 22), .conv .u64 (.t 21), none⟩,
     ⟨(some 23), .bin .shl (.t 22) (.k (.s (.i .u64 20))), none⟩,
     ⟨(some 24), .bin .add (.t 19) (.t 23), none⟩,
     ⟨(some 25), .fa (.t 1) 7, none⟩,
     ⟨(some 26), .ld (.t 25) none, none⟩,
     ⟨(some 27), .conv .u64 (.t 26), none⟩,
     ⟨(some 28), .bin .shl (.t 27) (.k (.s (.i .u64 25))), none⟩,
     ⟨(some 29), .bin .add (.t 24) (.t 28), none⟩,
     ⟨(some 30), .fa (.t 1) 10, none⟩,
     ⟨(some 31), .ld (.t 30) none, none⟩,
     ⟨(some 32), .conv .u64 (.t 31), none⟩,
     ⟨(some 33), .bin .shl (.t 32) (.k (.s (.i .u64 28))), none⟩,
     ⟨(some 34), .bin .add (.t 29) (.t 33), none⟩,
     ⟨(some 35), .fa (.t 1) 8, none⟩,
     ⟨(some 36), .ld (.t 35) none, none⟩,
     ⟨(some 37), .conv .u64 (.t 36), none⟩,
     ⟨(some 38), .bin .shl (.t 37) (.k (.s (.i .u64 32))), none⟩,
     ⟨(some 39), .bin .add (.t 34) (.t 38), none⟩,
     ⟨(some 40), .fa (.t 1) 5, none⟩,
     ⟨(some 41), .ld (.t 40) none, none⟩,
     ⟨(some 42), .conv .u64 (.t 41), none⟩,
     ⟨(some 43), .bin .shl (.t 42) (.k (.s (.i .u64 38))), none⟩,
     ⟨(some 44), .bin .add (.t 39) (.t 43), none⟩,
     ⟨(some 6), .mv (.t 44), none⟩])
   (.seq (.reg [⟨(some 45), .fa (.t 1) 3, none⟩,
     ⟨(some 46), .ld (.t 45) none, none⟩,
     ⟨(some 7), .mv (.t 46), none⟩])
   (.seq (.seq (.reg [⟨(some 47), .fa (.t 1) 0, none⟩,
      ⟨(some 48), .ld (.t 47) none, none⟩])
    (.block 0 (.seq (.reg [⟨(some 50), .bin .eql (.t 48) (.k (.s (.i .i64 2))), none⟩,
       ⟨(some 49), .mv (.t 50), none⟩])
     (.cond (.t 49)
      (.reg [⟨(some 51), .fa (.t 1) 4, none⟩,
        ⟨(some 52), .ld (.t 51) none, none⟩,
        ⟨(some 7), .mv (.t 52), none⟩])
      (.seq (.seq (.reg [⟨(some 54), .bin .eql (.t 48) (.k (.s (.i .i64 4))), none⟩,
          ⟨(some 53), .mv (.t 54), none⟩])
        (.cond (.t 53)
         (.skip)
         (.reg [⟨(some 55), .bin .eql (.t 48) (.k (.s (.i .i64 5))), none⟩,
           ⟨(some 53), .mv (.t 55), none⟩])))
       (.cond (.t 53)
        (.reg [⟨(some 56), .fa (.t 1) 6, none⟩,
          ⟨(some 57), .ld (.t 56) none, none⟩,
          ⟨(some 7), .mv (.t 57), none⟩])
        (.seq (.seq (.reg [⟨(some 59), .bin .eql (.t 48) (.k (.s (.i .i64 6))), none⟩,
            ⟨(some 58), .mv (.t 59), none⟩])
          (.cond (.t 58)
           (.skip)
           (.reg [⟨(some 60), .bin .eql (.t 48) (.k (.s (.i .i64 8))), none⟩,
             ⟨(some 58), .mv (.t 60), none⟩])))
         (.cond (.t 58)
          (.reg [⟨(some 61), .fa (.t 1) 9, none⟩,
            ⟨(some 62), .ld (.t 61) none, none⟩,
            ⟨(some 7), .mv (.t 62), none⟩])
          (.skip)))))))))
   (.seq (.reg [⟨(some 63), .mv (.t 6), none⟩,
     ⟨(some 64), .mv (.t 7), none⟩,
     ⟨(some 65), .conv .u64 (.t 64), none⟩,
     ⟨(some 2), .mv (.t 63), none⟩,
     ⟨(some 3), .mv (.t 65), none⟩,
     ⟨(some 4), .mv (.k (.s (.i .i64 0))), none⟩])
   (.ret))))))), [.t 2, .t 3, .t 4]⟩
theorem dc18 : compF Try.prog Try.f18 = some df18 := by kernel_rfl
theorem ok18 : FnOk Try.prog 18 := ⟨Try.f18, Try.func18, by kernel_rfl, by kernel_rfl⟩

/-- citadel/caps.Decode -/
def df19 : DF :=
  ⟨77, .seq (.reg [⟨(some 4), .new [.i .i64 0, .i .i64 0, .i .i64 0, .i .i64 0, .i .i64 0, .i .i64 0, .i .i64 0, .i .i64 0, .i .i64 0, .i .i64 0, .i .i64 0], none⟩,
     ⟨(some 5), .mv (.k (.s (.i .i64 0))), none⟩])
   (.seq (.reg [⟨(some 11), .mv (.t 0), none⟩,
     ⟨(some 12), .bsl 7 [.i .i64 0, .i .i64 0, .i .i64 0, .i .i64 0, .i .i64 0, .i .i64 0, .i .i64 0] [(0, 1, (.k (.s (.i .i64 4)))), (1, 1, (.k (.s (.i .i64 16)))), (2, 1, (.k (.s (.i .i64 5)))), (3, 1, (.k (.s (.i .i64 3)))), (4, 1, (.k (.s (.i .i64 4)))), (5, 1, (.k (.s (.i .i64 6)))), (6, 1, (.k (.s (.i .i64 5))))], none⟩,
     ⟨(some 13), .call 60 [(.t 11), (.t 12)], none⟩,
     ⟨(some 10), .mv (.t 13), none⟩,
     ⟨(some 14), .ext (.t 10) 0, none⟩,
     ⟨(some 15), .ext (.t 10) 1, none⟩,
     ⟨(some 6), .mv (.t 14), none⟩,
     ⟨(some 7), .mv (.t 15), none⟩])
   (.seq (.seq (.reg [⟨(some 16), .mv (.t 7), none⟩,
      ⟨(some 17), .bin .neq (.t 16) (.k (.s (.i .i64 0))), none⟩,
      ⟨(some 18), .mv (.t 17), none⟩,
      ⟨(some 19), .mv (.t 1), (some (18, false))⟩,
      ⟨(some 20), .bin .geq (.t 19) (.k (.s (.i .u64 4294967296))), (some (18, false))⟩,
      ⟨(some 21), .pick (.t 18) (.k (.s (.b true))) (.t 20), none⟩])
    (.cond (.t 21)
     (.seq (.reg [⟨(some 22), .build [.i .i64 0, .i .i64 0, .i .i64 0, .i .i64 0, .i .i64 0, .i .i64 0, .i .i64 0, .i .i64 0, .i .i64 0, .i .i64 0, .i .i64 0] [], none⟩,
        ⟨none, .st (.t 4) (.t 22) 11, none⟩,
        ⟨(some 5), .mv (.k (.s (.i .i64 60))), none⟩])
      (.ret))
     (.skip)))
   (.seq (.drm [(true, ⟨(some 23), .mv (.t 6), none⟩),
     (true, ⟨(some 24), .ia none 1 (.t 23) (.k (.s (.i .i64 0))), none⟩),
     (true, ⟨(some 25), .ld (.t 24) none, none⟩),
     (true, ⟨(some 26), .conv .i64 (.t 25), none⟩),
     (true, ⟨(some 27), .mv (.t 6), none⟩),
     (true, ⟨(some 28), .ia none 1 (.t 27) (.k (.s (.i .i64 1))), none⟩),
     (true, ⟨(some 29), .ld (.t 28) none, none⟩),
     (true, ⟨(some 30), .conv .i64 (.t 29), none⟩),
     (true, ⟨(some 31), .mv (.t 6), none⟩),
     (true, ⟨(some 32), .ia none 1 (.t 31) (.k (.s (.i .i64 2))), none⟩),
     (true, ⟨(some 33), .ld (.t 32) none, none⟩),
     (true, ⟨(some 34), .conv .i64 (.t 33), none⟩),
     (true, ⟨(some 35), .mv (.t 6), none⟩),
     (true, ⟨(some 36), .ia none 1 (.t 35) (.k (.s (.i .i64 3))), none⟩),
     (true, ⟨(some 37), .ld (.t 36) none, none⟩),
     (true, ⟨(some 38), .conv .i64 (.t 37), none⟩),
     (true, ⟨(some 39), .mv (.t 6), none⟩),
     (true, ⟨(some 40), .ia none 1 (.t 39) (.k (.s (.i .i64 4))), none⟩),
     (true, ⟨(some 41), .ld (.t 40) none, none⟩),
     (true, ⟨(some 42), .conv .i64 (.t 41), none⟩),
     (true, ⟨(some 43), .mv (.t 6), none⟩),
     (true, ⟨(some 44), .ia none 1 (.t 43) (.k (.s (.i .i64 5))), none⟩),
     (true, ⟨(some 45), .ld (.t 44) none, none⟩),
     (true, ⟨(some 46), .conv .i64 (.t 45), none⟩),
     (true, ⟨(some 47), .mv (.t 6), none⟩),
     (true, ⟨(some 48), .ia none 1 (.t 47) (.k (.s (.i .i64 6))), none⟩),
     (true, ⟨(some 49), .ld (.t 48) none, none⟩),
     (true, ⟨(some 50), .conv .i64 (.t 49), none⟩),
     (true, ⟨(some 51), .build [.i .i64 0, .i .i64 0, .i .i64 0, .i .i64 0, .i .i64 0, .i .i64 0, .i .i64 0, .i .i64 0, .i .i64 0, .i .i64 0, .i .i64 0] [(0, 1, (.t 26)), (1, 1, (.t 30)), (2, 1, (.t 34)), (7, 1, (.t 38)), (10, 1, (.t 42)), (8, 1, (.t 46)), (5, 1, (.t 50))], none⟩),
     (false, ⟨(some 8), .new [.i .i64 0, .i .i64 0, .i .i64 0, .i .i64 0, .i .i64 0, .i .i64 0, .i .i64 0, .i .i64 0, .i .i64 0, .i .i64 0, .i .i64 0], none⟩),
     (false, ⟨none, .st (.t 8) (.t 51) 11, none⟩)])
   (.seq (.reg [⟨(some 52), .mv (.t 1), none⟩,
     ⟨(some 53), .conv .i64 (.t 52), none⟩,
     ⟨(some 9), .mv (.t 53), none⟩])
   (.seq (.seq (.reg [⟨(some 54), .fa (.t 8) 0, none⟩,
      ⟨(some 55), .ld (.t 54) none, none⟩])
    (.block 0 (.seq (.reg [⟨(some 59), .bin .eql (.t 55) (.k (.s (.i .i64 2))), none⟩,
       ⟨(some 58), .mv (.t 59), none⟩])
     (.cond (.t 58)
      (.reg [⟨(some 60), .mv (.t 9), none⟩,
        ⟨(some 61), .fa (.t 8) 4, none⟩,
        ⟨none, .st (.t 61) (.t 60) 1, none⟩])
      (.seq (.seq (.reg [⟨(some 63), .bin .eql (.t 55) (.k (.s (.i .i64 4))), none⟩,
          ⟨(some 62), .mv (.t 63), none⟩])
        (.cond (.t 62)
         (.skip)
         (.reg [⟨(some 64), .bin .eql (.t 55) (.k (.s (.i .i64 5))), none⟩,
           ⟨(some 62), .mv (.t 64), none⟩])))
       (.cond (.t 62)
        (.reg [⟨(some 65), .mv (.t 9), none⟩,
          ⟨(some 66), .fa (.t 8) 6, none⟩,
          ⟨none, .st (.t 66) (.t 65) 1, none⟩])
        (.seq (.seq (.reg [⟨(some 68), .bin .eql (.t 55) (.k (.s (.i .i64 6))), none⟩,
            ⟨(some 67), .mv (.t 68), none⟩])
          (.cond (.t 67)
           (.skip)
           (.reg [⟨(some 69), .bin .eql (.t 55) (.k (.s (.i .i64 8))), none⟩,
             ⟨(some 67), .mv (.t 69), none⟩])))
         (.cond (.t 67)
          (.reg [⟨(some 70), .mv (.t 9), none⟩,
            ⟨(some 71), .fa (.t 8) 9, none⟩,
            ⟨none, .st (.t 71) (.t 70) 1, none⟩])
          (.reg [⟨(some 56), .mv (.t 9), none⟩,
            ⟨(some 57), .fa (.t 8) 3, none⟩,
            ⟨none, .st (.t 57) (.t 56) 1, none⟩])))))))))
   (.seq (.seq (.reg [⟨(some 72), .ld (.t 8) (some 11), none⟩,
      ⟨(some 73), .call 15 [(.t 72)], none⟩,
      ⟨(some 74), .un .not (.t 73), none⟩])
    (.cond (.t 74)
     (.seq (.reg [⟨(some 75), .build [.i .i64 0, .i .i64 0, .i .i64 0, .i .i64 0, .i .i64 0, .i .i64 0, .i .i64 0, .i .i64 0, .i .i64 0, .i .i64 0, .i .i64 0] [], none⟩,
        ⟨none, .st (.t 4) (.t 75) 11, none⟩,
        ⟨(some 5), .mv (.k (.s (.i .i64 60))), none⟩])
      (.ret))
     (.skip)))
   (.seq (.reg [⟨(some 76), .ld (.t 8) (some 11), none⟩,
     ⟨none, .st (.t 4) (.t 76) 11, none⟩,
     ⟨(some 5), .mv (.k (.s (.i .i64 0))), none⟩])
   (.ret)))))))), [.c 4 (some 11), .t 5]⟩
theorem dc19 : compF Try.prog Try.f19 = some df19 := by kernel_rfl
theorem ok19 : FnOk Try.prog 19 := ⟨Try.f19, Try.func19, by kernel_rfl, by kernel_rfl⟩

/-- citadel/citadelref06.Decode -/
def df20 : DF :=
  ⟨86, .seq (.reg [⟨(some 4), .new [.i .i64 0, .i .i64 0, .i .i64 0, .i .i64 0, .i .i64 0, .i .i64 0, .i .i64 0, .i .i64 0, .i .i64 0, .i .i64 0, .i .i64 0], none⟩,
     ⟨(some 5), .mv (.k (.s (.i .i64 0))), none⟩])
   (.seq (.seq (.reg [⟨(some 10), .mv (.t 1), none⟩,
      ⟨(some 11), .bin .geq (.t 10) (.k (.s (.i .u64 4294967296))), none⟩])
    (.cond (.t 11)
     (.seq (.reg [⟨(some 12), .build [.i .i64 0, .i .i64 0, .i .i64 0, .i .i64 0, .i .i64 0, .i .i64 0, .i .i64 0, .i .i64 0, .i .i64 0, .i .i64 0, .i .i64 0] [], none⟩,
        ⟨none, .st (.t 4) (.t 12) 11, none⟩,
        ⟨(some 5), .mv (.k (.s (.i .i64 60))), none⟩])
      (.ret))
     (.skip)))
   (.seq (.reg [⟨(some 13), .mv (.t 0), none⟩,
     ⟨(some 14), .bin .rem (.t 13) (.k (.s (.i .u64 16))), none⟩,
     ⟨(some 15), .conv .i64 (.t 14), none⟩,
     ⟨(some 16), .mv (.t 0), none⟩,
     ⟨(some 17), .bin .shr (.t 16) (.k (.s (.i .u64 4))), none⟩,
     ⟨(some 18), .bin .rem (.t 17) (.k (.s (.i .u64 65536))), none⟩,
     ⟨(some 19), .conv .i64 (.t 18), none⟩,
     ⟨(some 20), .mv (.t 0), none⟩,
     ⟨(some 21), .bin .shr (.t 20) (.k (.s (.i .u64 20))), none⟩,
     ⟨(some 22), .bin .rem (.t 21) (.k (.s (.i .u64 32))), none⟩,
     ⟨(some 23), .conv .i64 (.t 22), none⟩,
     ⟨(some 24), .mv (.t 0), none⟩,
     ⟨(some 25), .bin .shr (.t 24) (.k (.s (.i .u64 25))), none⟩,
     ⟨(some 26), .bin .rem (.t 25) (.k (.s (.i .u64 8))), none⟩,
     ⟨(some 27), .conv .i64 (.t 26), none⟩,
     ⟨(some 28), .mv (.t 0), none⟩,
     ⟨(some 29), .bin .shr (.t 28) (.k (.s (.i .u64 28))), none⟩,
     ⟨(some 30), .bin .rem (.t 29) (.k (.s (.i .u64 16))), none⟩,
     ⟨(some 31), .conv .i64 (.t 30), none⟩,
     ⟨(some 32), .mv (.t 0), none⟩,
     ⟨(some 33), .bin .shr (.t 32) (.k (.s (.i .u64 32))), none⟩,
     ⟨(some 34), .bin .rem (.t 33) (.k (.s (.i .u64 64))), none⟩,
     ⟨(some 35), .conv .i64 (.t 34), none⟩,
     ⟨(some 36), .mv (.t 0), none⟩,
     ⟨(some 37), .bin .shr (.t 36) (.k (.s (.i .u64 38))), none⟩,
     ⟨(some 38), .bin .rem (.t 37) (.k (.s (.i .u64 32))), none⟩,
     ⟨(some 39), .conv .i64 (.t 38), none⟩,
     ⟨(some 40), .build [.i .i64 0, .i .i64 0, .i .i64 0, .i .i64 0, .i .i64 0, .i .i64 0, .i .i64 0, .i .i64 0, .i .i64 0, .i .i64 0, .i .i64 0] [(0, 1, (.t 15)), (1, 1, (.t 19)), (2, 1, (.t 23)), (7, 1, (.t 27)), (10, 1, (.t 31)), (8, 1, (.t 35)), (5, 1, (.t 39))], none⟩,
     ⟨(some 6), .new [.i .i64 0, .i .i64 0, .i .i64 0, .i .i64 0, .i .i64 0, .i .i64 0, .i .i64 0, .i .i64 0, .i .i64 0, .i .i64 0, .i .i64 0], none⟩,
     ⟨none, .st (.t 6) (.t 40) 11, none⟩])
   (.seq (.seq (.reg [⟨(some 41), .fa (.t 6) 0, none⟩,
      ⟨(some 42), .ld (.t 41) none, none⟩])
    (.block 0 (.seq (.seq (.reg [⟨(some 44), .bin .eql (.t 42) (.k (.s (.i .i64 1))), none⟩,
        ⟨(some 43), .mv (.t 44), none⟩])
      (.cond (.t 43)
       (.skip)
       (.reg [⟨(some 45), .bin .eql (.t 42) (.k (.s (.i .i64 10))), none⟩,
         ⟨(some 43), .mv (.t 45), none⟩])))
     (.cond (.t 43)
      (.reg [⟨(some 46), .mv (.t 1), none⟩,
        ⟨(some 47), .conv .i64 (.t 46), none⟩,
        ⟨(some 48), .fa (.t 6) 3, none⟩,
        ⟨none, .st (.t 48) (.t 47) 1, none⟩])
      (.seq (.reg [⟨(some 50), .bin .eql (.t 42) (.k (.s (.i .i64 2))), none⟩,
         ⟨(some 49), .mv (.t 50), none⟩])
       (.cond (.t 49)
        (.reg [⟨(some 51), .mv (.t 1), none⟩,
          ⟨(some 52), .conv .i64 (.t 51), none⟩,
          ⟨(some 53), .fa (.t 6) 4, none⟩,
          ⟨none, .st (.t 53) (.t 52) 1, none⟩])
        (.seq (.seq (.reg [⟨(some 55), .bin .eql (.t 42) (.k (.s (.i .i64 4))), none⟩,
            ⟨(some 54), .mv (.t 55), none⟩])
          (.cond (.t 54)
           (.skip)
           (.reg [⟨(some 56), .bin .eql (.t 42) (.k (.s (.i .i64 5))), none⟩,
             ⟨(some 54), .mv (.t 56), none⟩])))
         (.cond (.t 54)
          (.reg [⟨(some 57), .mv (.t 1), none⟩,
            ⟨(some 58), .conv .i64 (.t 57), none⟩,
            ⟨(some 59), .fa (.t 6) 6, none⟩,
            ⟨none, .st (.t 59) (.t 58) 1, none⟩])
          (.seq (.seq (.reg [⟨(some 61), .bin .eql (.t 42) (.k (.s (.i .i64 6))), none⟩,
              ⟨(some 60), .mv (.t 61), none⟩])
            (.cond (.t 60)
             (.skip)
             (.reg [⟨(some 62), .bin .eql (.t 42) (.k (.s (.i .i64 8))), none⟩,
               ⟨(some 60), .mv (.t 62), none⟩])))
           (.cond (.t 60)
            (.reg [⟨(some 63), .mv (.t 1), none⟩,
              ⟨(some 64), .conv .i64 (.t 63), none⟩,
              ⟨(some 65), .fa (.t 6) 9, none⟩,
              ⟨none, .st (.t 65) (.t 64) 1, none⟩])
            (.skip)))))))))))
   (.seq (.reg [⟨(some 67), .ld (.t 6) (some 11), none⟩,
     ⟨(some 68), .call 18 [(.t 67)], none⟩,
     ⟨(some 66), .mv (.t 68), none⟩,
     ⟨(some 69), .ext (.t 66) 0, none⟩,
     ⟨(some 70), .ext (.t 66) 1, none⟩,
     ⟨(some 71), .ext (.t 66) 2, none⟩,
     ⟨(some 7), .mv (.t 69), none⟩,
     ⟨(some 8), .mv (.t 70), none⟩,
     ⟨(some 9), .mv (.t 71), none⟩])
   (.seq (.seq (.reg [⟨(some 72), .mv (.t 9), none⟩,
      ⟨(some 73), .bin .neq (.t 72) (.k (.s (.i .i64 0))), none⟩,
      ⟨(some 74), .mv (.t 73), none⟩,
      ⟨(some 75), .mv (.t 7), (some (74, false))⟩,
      ⟨(some 76), .mv (.t 0), (some (74, false))⟩,
      ⟨(some 77), .bin .neq (.t 75) (.t 76), (some (74, false))⟩,
      ⟨(some 78), .pick (.t 74) (.k (.s (.b true))) (.t 77), none⟩,
      ⟨(some 79), .mv (.t 78), none⟩,
      ⟨(some 80), .mv (.t 8), (some (79, false))⟩,
      ⟨(some 81), .mv (.t 1), (some (79, false))⟩,
      ⟨(some 82), .bin .neq (.t 80) (.t 81), (some (79, false))⟩,
      ⟨(some 83), .pick (.t 79) (.k (.s (.b true))) (.t 82), none⟩])
    (.cond (.t 83)
     (.seq (.reg [⟨(some 84), .build [.i .i64 0, .i .i64 0, .i .i64 0, .i .i64 0, .i .i64 0, .i .i64 0, .i .i64 0, .i .i64 0, .i .i64 0, .i .i64 0, .i .i64 0] [], none⟩,
        ⟨none, .st (.t 4) (.t 84) 11, none⟩,
        ⟨(some 5), .mv (.k (.s (.i .i64 60))), none⟩])
      (.ret))
     (.skip)))
   (.seq (.reg [⟨(some 85), .ld (.t 6) (some 11), none⟩,
     ⟨none, .st (.t 4) (.t 85) 11, none⟩,
     ⟨(some 5), .mv (.k (.s (.i .i64 0))), none⟩])
   (.ret))))))), [.c 4 (some 11), .t 5]⟩
theorem dc20 : compF Try.prog Try.f20 = some df20 := by kernel_rfl
theorem ok20 : FnOk Try.prog 20 := ⟨Try.f20, Try.func20, by kernel_rfl, by kernel_rfl⟩

/-- citadel/caps.Words -/
def df21 : DF :=
  ⟨14, .seq (.reg [⟨(some 1), .box (.t 0), none⟩,
     ⟨(some 2), .mv (.k (.s (.i .i64 0))), none⟩])
   (.seq (.seq (.reg [⟨(some 5), .ld (.t 1) (some 11), none⟩,
      ⟨(some 6), .call 15 [(.t 5)], none⟩,
      ⟨(some 7), .un .not (.t 6), none⟩])
    (.cond (.t 7)
     (.seq (.reg [⟨(some 2), .mv (.k (.s (.i .i64 0))), none⟩])
      (.ret))
     (.skip)))
   (.seq (.reg [⟨(some 9), .ld (.t 1) (some 11), none⟩,
     ⟨(some 10), .call 49 [(.t 9)], none⟩,
     ⟨(some 8), .mv (.t 10), none⟩,
     ⟨(some 11), .ext (.t 8) 0, none⟩,
     ⟨(some 12), .ext (.t 8) 1, none⟩,
     ⟨(some 3), .mv (.t 11), none⟩,
     ⟨(some 4), .mv (.t 12), none⟩])
   (.seq (.reg [⟨(some 13), .mv (.t 3), none⟩,
     ⟨(some 2), .mv (.t 13), none⟩])
   (.ret)))), [.t 2]⟩
theorem dc21 : compF Try.prog Try.f21 = some df21 := by kernel_rfl
theorem ok21 : FnOk Try.prog 21 := ⟨Try.f21, Try.func21, by kernel_rfl, by kernel_rfl⟩

/-- citadel/citadelref06.Words -/
def df22 : DF :=
  ⟨10, .seq (.reg [⟨(some 1), .box (.t 0), none⟩,
     ⟨(some 2), .mv (.k (.s (.i .i64 0))), none⟩])
   (.seq (.reg [⟨(some 4), .ld (.t 1) (some 11), none⟩,
     ⟨(some 5), .call 16 [(.t 4)], none⟩,
     ⟨(some 3), .mv (.t 5), none⟩])
   (.seq (.seq (.reg [⟨(some 6), .mv (.t 3), none⟩,
      ⟨(some 7), .un .not (.t 6), none⟩])
    (.cond (.t 7)
     (.seq (.reg [⟨(some 2), .mv (.k (.s (.i .i64 0))), none⟩])
      (.ret))
     (.skip)))
   (.seq (.reg [⟨(some 8), .ld (.t 1) (some 11), none⟩,
     ⟨(some 9), .call 54 [(.t 8)], none⟩,
     ⟨(some 2), .mv (.t 9), none⟩])
   (.ret)))), [.t 2]⟩
theorem dc22 : compF Try.prog Try.f22 = some df22 := by kernel_rfl
theorem ok22 : FnOk Try.prog 22 := ⟨Try.f22, Try.func22, by kernel_rfl, by kernel_rfl⟩

/-- citadel/caps.Same -/
def df23 : DF :=
  ⟨18, .seq (.reg [⟨(some 2), .box (.t 0), none⟩,
     ⟨(some 3), .box (.t 1), none⟩,
     ⟨(some 4), .mv (.k (.s (.b false))), none⟩])
   (.seq (.reg [⟨(some 5), .mv (.k (.s (.fn 61 []))), none⟩])
   (.seq (.drm [(true, ⟨(some 6), .fa (.t 2) 0, none⟩),
     (true, ⟨(some 7), .ld (.t 6) none, none⟩),
     (true, ⟨(some 8), .bin .neq (.t 7) (.k (.s (.i .i64 0))), none⟩),
     (true, ⟨(some 9), .mv (.t 8), none⟩),
     (true, ⟨(some 10), .mv (.t 5), (some (9, true))⟩),
     (true, ⟨(some 11), .ld (.t 2) (some 11), (some (9, true))⟩),
     (true, ⟨(some 13), .mv (.t 5), (some (9, true))⟩),
     (true, ⟨(some 14), .ld (.t 3) (some 11), (some (9, true))⟩),
     (true, ⟨(some 12), .callv (.t 10) [(.t 11)], (some (9, true))⟩),
     (false, ⟨(some 15), .callv (.t 13) [(.t 14)], (some (9, true))⟩),
     (true, ⟨(some 16), .eqa false [true, true, true, true, true, true, true, true, true, true, true] (.t 12) (.t 15), (some (9, true))⟩),
     (true, ⟨(some 17), .pick (.t 9) (.t 16) (.k (.s (.b false))), none⟩),
     (true, ⟨(some 4), .mv (.t 17), none⟩)])
   (.ret))), [.t 4]⟩
theorem dc23 : compF Try.prog Try.f23 = some df23 := by kernel_rfl
theorem ok23 : FnOk Try.prog 23 := ⟨Try.f23, Try.func23, by kernel_rfl, by kernel_rfl⟩

/-- citadel/citadelref06.Same -/
def df24 : DF :=
  ⟨34, .seq (.reg [⟨(some 2), .box (.t 0), none⟩,
     ⟨(some 3), .box (.t 1), none⟩,
     ⟨(some 4), .mv (.k (.s (.b false))), none⟩])
   (.seq (.reg [⟨(some 5), .fa (.t 2) 0, none⟩,
     ⟨(some 6), .ld (.t 5) none, none⟩,
     ⟨(some 7), .bin .neq (.t 6) (.k (.s (.i .i64 0))), none⟩,
     ⟨(some 8), .mv (.t 7), none⟩,
     ⟨(some 9), .fa (.t 2) 0, (some (8, true))⟩,
     ⟨(some 10), .ld (.t 9) none, (some (8, true))⟩,
     ⟨(some 11), .fa (.t 3) 0, (some (8, true))⟩,
     ⟨(some 12), .ld (.t 11) none, (some (8, true))⟩,
     ⟨(some 13), .bin .eql (.t 10) (.t 12), (some (8, true))⟩,
     ⟨(some 14), .pick (.t 8) (.t 13) (.k (.s (.b false))), none⟩,
     ⟨(some 15), .mv (.t 14), none⟩,
     ⟨(some 16), .fa (.t 2) 1, (some (15, true))⟩,
     ⟨(some 17), .ld (.t 16) none, (some (15, true))⟩,
     ⟨(some 18), .fa (.t 3) 1, (some (15, true))⟩,
     ⟨(some 19), .ld (.t 18) none, (some (15, true))⟩,
     ⟨(some 20), .bin .eql (.t 17) (.t 19), (some (15, true))⟩,
     ⟨(some 21), .pick (.t 15) (.t 20) (.k (.s (.b false))), none⟩,
     ⟨(some 22), .mv (.t 21), none⟩,
     ⟨(some 23), .fa (.t 2) 0, (some (22, true))⟩,
     ⟨(some 24), .ld (.t 23) none, (some (22, true))⟩,
     ⟨(some 25), .bin .neq (.t 24) (.k (.s (.i .i64 12))), (some (22, true))⟩,
     ⟨(some 26), .mv (.t 25), (some (22, true))⟩,
     ⟨(some 27), .fa (.t 2) 10, (some (26, false))⟩,
     ⟨(some 28), .ld (.t 27) none, (some (26, false))⟩,
     ⟨(some 29), .fa (.t 3) 10, (some (26, false))⟩,
     ⟨(some 30), .ld (.t 29) none, (some (26, false))⟩,
     ⟨(some 31), .bin .eql (.t 28) (.t 30), (some (26, false))⟩,
     ⟨(some 32), .pick (.t 26) (.k (.s (.b true))) (.t 31), (some (22, true))⟩,
     ⟨(some 33), .pick (.t 22) (.t 32) (.k (.s (.b false))), none⟩,
     ⟨(some 4), .mv (.t 33), none⟩])
   (.ret)), [.t 4]⟩
theorem dc24 : compF Try.prog Try.f24 = some df24 := by kernel_rfl
theorem ok24 : FnOk Try.prog 24 := ⟨Try.f24, Try.func24, by kernel_rfl, by kernel_rfl⟩

/-- citadel/citadellaw09.awake -/
def df25 : DF :=
  ⟨94, .seq (.reg [⟨(some 0), .mv (.k (.s (.b false))), none⟩])
   (.seq (.reg [⟨(some 18), .call 39 [(.k (.s (.i .i64 11)))], none⟩,
     ⟨(some 17), .mv (.t 18), none⟩,
     ⟨(some 19), .ext (.t 17) 0, none⟩,
     ⟨(some 20), .ext (.t 17) 1, none⟩,
     ⟨(some 1), .mv (.t 19), none⟩,
     ⟨(some 2), .mv (.t 20), none⟩])
   (.seq (.seq (.reg [⟨(some 21), .mv (.t 1), none⟩,
      ⟨(some 22), .eqn false false (.t 21), none⟩,
      ⟨(some 23), .mv (.t 22), none⟩,
      ⟨(some 24), .mv (.t 2), (some (23, false))⟩,
      ⟨(some 25), .bin .neq (.t 24) (.k (.s (.i .i64 0))), (some (23, false))⟩,
      ⟨(some 26), .pick (.t 23) (.k (.s (.b true))) (.t 25), none⟩])
    (.cond (.t 26)
     (.seq (.reg [⟨(some 0), .mv (.k (.s (.b false))), none⟩])
      (.ret))
     (.skip)))
   (.seq (.reg [⟨(some 28), .call 26 [(.k (.s (.i .i64 2))), (.k (.s (.i .i64 8)))], none⟩,
     ⟨(some 27), .mv (.t 28), none⟩,
     ⟨(some 29), .ext (.t 27) 0, none⟩,
     ⟨(some 30), .ext (.t 27) 1, none⟩,
     ⟨(some 3), .mv (.t 29), none⟩,
     ⟨(some 4), .mv (.t 30), none⟩])
   (.seq (.reg [⟨(some 32), .call 26 [(.k (.s (.i .i64 3))), (.k (.s (.i .i64 1)))], none⟩,
     ⟨(some 31), .mv (.t 32), none⟩,
     ⟨(some 33), .ext (.t 31) 0, none⟩,
     ⟨(some 34), .ext (.t 31) 1, none⟩,
     ⟨(some 5), .mv (.t 33), none⟩,
     ⟨(some 6), .mv (.t 34), none⟩])
   (.seq (.reg [⟨(some 35), .mv (.t 1), none⟩,
     ⟨(some 36), .call 62 [(.t 35), (.k (.s (.i .i64 1088)))], none⟩,
     ⟨(some 7), .mv (.t 36), none⟩])
   (.seq (.reg [⟨(some 37), .mv (.t 1), none⟩,
     ⟨(some 38), .call 62 [(.t 37), (.k (.s (.i .i64 1056)))], none⟩,
     ⟨(some 8), .mv (.t 38), none⟩])
   (.seq (.reg [⟨(some 39), .mv (.t 1), none⟩,
     ⟨(some 40), .call 63 [(.t 39)], none⟩,
     ⟨(some 9), .mv (.t 40), none⟩])
   (.seq (.reg [⟨(some 41), .call 28 [(.k (.s (.i .i64 15)))], none⟩,
     ⟨(some 10), .mv (.t 41), none⟩])
   (.seq (.reg [⟨(some 42), .call 30 [(.k (.s (.i .i64 7)))], none⟩,
     ⟨(some 11), .mv (.t 42), none⟩])
   (.seq (.reg [⟨(some 43), .build [.i .i64 0, .i .i64 0, .i .i64 0, .i .i64 0, .i .i64 0, .i .i64 0, .i .i64 0, .i .i64 0, .i .i64 0, .i .i64 0, .i .i64 0] [(0, 1, (.k (.s (.i .i64 2)))), (1, 1, (.k (.s (.i .i64 2048)))), (2, 1, (.k (.s (.i .i64 1))))], none⟩,
     ⟨(some 44), .call 32 [(.t 43), (.k (.s (.i .i64 1)))], none⟩,
     ⟨(some 12), .mv (.t 44), none⟩])
   (.seq (.reg [⟨(some 45), .build [.i .i64 0, .i .i64 0, .i .i64 0, .i .i64 0, .i .i64 0, .i .i64 0, .i .i64 0, .i .i64 0, .i .i64 0, .i .i64 0, .i .i64 0] [(0, 1, (.k (.s (.i .i64 1)))), (1, 1, (.k (.s (.i .i64 2048)))), (2, 1, (.k (.s (.i .i64 11))))], none⟩,
     ⟨(some 13), .new [.i .i64 0, .i .i64 0, .i .i64 0, .i .i64 0, .i .i64 0, .i .i64 0, .i .i64 0, .i .i64 0, .i .i64 0, .i .i64 0, .i .i64 0], none⟩,
     ⟨none, .st (.t 13) (.t 45) 11, none⟩])
   (.seq (.reg [⟨(some 46), .build [.i .i64 0, .i .i64 0, .i .i64 0, .i .i64 0, .i .i64 0, .i .i64 0, .i .i64 0, .i .i64 0, .i .i64 0, .i .i64 0, .i .i64 0] [(0, 1, (.k (.s (.i .i64 3)))), (1, 1, (.k (.s (.i .i64 2112))))], none⟩,
     ⟨(some 14), .new [.i .i64 0, .i .i64 0, .i .i64 0, .i .i64 0, .i .i64 0, .i .i64 0, .i .i64 0, .i .i64 0, .i .i64 0, .i .i64 0, .i .i64 0], none⟩,
     ⟨none, .st (.t 14) (.t 46) 11, none⟩])
   (.seq (.reg [⟨(some 47), .ld (.t 13) (some 11), none⟩,
     ⟨(some 48), .ld (.t 14) (some 11), none⟩,
     ⟨(some 49), .call 34 [(.t 47), (.t 48)], none⟩,
     ⟨(some 15), .mv (.t 49), none⟩])
   (.seq (.reg [⟨(some 50), .ld (.t 14) (some 11), none⟩,
     ⟨(some 51), .ld (.t 13) (some 11), none⟩,
     ⟨(some 52), .call 36 [(.t 50), (.t 51)], none⟩,
     ⟨(some 16), .mv (.t 52), none⟩])
   (.seq (.reg [⟨(some 53), .mv (.t 3), none⟩,
     ⟨(some 54), .bin .eql (.t 53) (.k (.s (.i .i64 1024))), none⟩,
     ⟨(some 55), .mv (.t 54), none⟩,
     ⟨(some 56), .mv (.t 4), (some (55, true))⟩,
     ⟨(some 57), .bin .eql (.t 56) (.k (.s (.i .i64 0))), (some (55, true))⟩,
     ⟨(some 58), .pick (.t 55) (.t 57) (.k (.s (.b false))), none⟩,
     ⟨(some 59), .mv (.t 58), none⟩,
     ⟨(some 60), .mv (.t 6), (some (59, true))⟩,
     ⟨(some 61), .bin .eql (.t 60) (.k (.s (.i .i64 90))), (some (59, true))⟩,
     ⟨(some 62), .pick (.t 59) (.t 61) (.k (.s (.b false))), none⟩,
     ⟨(some 63), .mv (.t 62), none⟩,
     ⟨(some 64), .mv (.t 7), (some (63, true))⟩,
     ⟨(some 65), .bin .eql (.t 64) (.k (.s (.i .i64 0))), (some (63, true))⟩,
     ⟨(some 66), .pick (.t 63) (.t 65) (.k (.s (.b false))), none⟩,
     ⟨(some 67), .mv (.t 66), none⟩,
     ⟨(some 68), .mv (.t 8), (some (67, true))⟩,
     ⟨(some 69), .bin .eql (.t 68) (.k (.s (.i .i64 20))), (some (67, true))⟩,
     ⟨(some 70), .pick (.t 67) (.t 69) (.k (.s (.b false))), none⟩,
     ⟨(some 71), .mv (.t 70), none⟩,
     ⟨(some 72), .mv (.t 9), (some (71, true))⟩,
     ⟨(some 73), .bin .eql (.t 72) (.k (.s (.i .i64 1088))), (some (71, true))⟩,
     ⟨(some 74), .pick (.t 71) (.t 73) (.k (.s (.b false))), none⟩,
     ⟨(some 75), .mv (.t 74), none⟩,
     ⟨(some 76), .mv (.t 10), (some (75, true))⟩,
     ⟨(some 77), .bin .eql (.t 76) (.k (.s (.i .i64 124))), (some (75, true))⟩,
     ⟨(some 78), .pick (.t 75) (.t 77) (.k (.s (.b false))), none⟩,
     ⟨(some 79), .mv (.t 78), none⟩,
     ⟨(some 80), .mv (.t 11), (some (79, true))⟩,
     ⟨(some 81), .bin .eql (.t 80) (.k (.s (.i .i64 60))), (some (79, true))⟩,
     ⟨(some 82), .pick (.t 79) (.t 81) (.k (.s (.b false))), none⟩,
     ⟨(some 83), .mv (.t 82), none⟩,
     ⟨(some 84), .mv (.t 12), (some (83, true))⟩,
     ⟨(some 85), .bin .eql (.t 84) (.k (.s (.i .i64 2052))), (some (83, true))⟩,
     ⟨(some 86), .pick (.t 83) (.t 85) (.k (.s (.b false))), none⟩,
     ⟨(some 87), .mv (.t 86), none⟩,
     ⟨(some 88), .mv (.t 15), (some (87, true))⟩,
     ⟨(some 89), .un .not (.t 88), (some (87, true))⟩,
     ⟨(some 90), .pick (.t 87) (.t 89) (.k (.s (.b false))), none⟩,
     ⟨(some 91), .mv (.t 90), none⟩,
     ⟨(some 92), .mv (.t 16), (some (91, true))⟩,
     ⟨(some 93), .pick (.t 91) (.t 92) (.k (.s (.b false))), none⟩,
     ⟨(some 0), .mv (.t 93), none⟩])
   (.ret)))))))))))))))), [.t 0]⟩
theorem dc25 : compF Try.prog Try.f25 = some df25 := by kernel_rfl
theorem ok25 : FnOk Try.prog 25 := ⟨Try.f25, Try.func25, by kernel_rfl, by kernel_rfl⟩

/-- citadel/heap.Size -/
def df26 : DF :=
  ⟨46, .seq (.reg [⟨(some 4), .mv (.k (.s (.i .i64 0))), none⟩,
     ⟨(some 5), .mv (.k (.s (.i .i64 0))), none⟩])
   (.seq (.block 0 (.seq (.reg [⟨(some 7), .mv (.t 0), none⟩,
       ⟨(some 8), .bin .eql (.t 7) (.k (.s (.i .i64 1))), none⟩,
       ⟨(some 9), .mv (.t 8), none⟩,
       ⟨(some 10), .mv (.t 1), (some (9, true))⟩,
       ⟨(some 11), .bin .geq (.t 10) (.k (.s (.i .i64 4))), (some (9, true))⟩,
       ⟨(some 12), .pick (.t 9) (.t 11) (.k (.s (.b false))), none⟩,
       ⟨(some 13), .mv (.t 12), none⟩,
       ⟨(some 14), .mv (.t 1), (some (13, true))⟩,
       ⟨(some 15), .bin .leq (.t 14) (.k (.s (.i .i64 15))), (some (13, true))⟩,
       ⟨(some 16), .pick (.t 13) (.t 15) (.k (.s (.b false))), none⟩,
       ⟨(some 6), .mv (.t 16), none⟩])
     (.cond (.t 6)
      (.seq (.reg [⟨(some 17), .mv (.t 1), none⟩,
         ⟨(some 18), .bin .shl (.k (.s (.i .i64 1))) (.t 17), none⟩,
         ⟨(some 4), .mv (.t 18), none⟩,
         ⟨(some 5), .mv (.k (.s (.i .i64 0))), none⟩])
       (.ret))
      (.seq (.reg [⟨(some 20), .mv (.t 0), none⟩,
         ⟨(some 21), .bin .eql (.t 20) (.k (.s (.i .i64 2))), none⟩,
         ⟨(some 22), .mv (.t 21), none⟩,
         ⟨(some 23), .mv (.t 1), (some (22, true))⟩,
         ⟨(some 24), .bin .geq (.t 23) (.k (.s (.i .i64 1))), (some (22, true))⟩,
         ⟨(some 25), .pick (.t 22) (.t 24) (.k (.s (.b false))), none⟩,
         ⟨(some 26), .mv (.t 25), none⟩,
         ⟨(some 27), .mv (.t 1), (some (26, true))⟩,
         ⟨(some 28), .bin .leq (.t 27) (.k (.s (.i .i64 8))), (some (26, true))⟩,
         ⟨(some 29), .pick (.t 26) (.t 28) (.k (.s (.b false))), none⟩,
         ⟨(some 19), .mv (.t 29), none⟩])
       (.cond (.t 19)
        (.seq (.reg [⟨(some 30), .mv (.t 1), none⟩,
           ⟨(some 31), .bin .shl (.k (.s (.i .i64 4))) (.t 30), none⟩,
           ⟨(some 4), .mv (.t 31), none⟩,
           ⟨(some 5), .mv (.k (.s (.i .i64 0))), none⟩])
         (.ret))
        (.seq (.reg [⟨(some 33), .mv (.t 0), none⟩,
           ⟨(some 34), .bin .geq (.t 33) (.k (.s (.i .i64 3))), none⟩,
           ⟨(some 35), .mv (.t 34), none⟩,
           ⟨(some 36), .mv (.t 0), (some (35, true))⟩,
           ⟨(some 37), .bin .leq (.t 36) (.k (.s (.i .i64 8))), (some (35, true))⟩,
           ⟨(some 38), .pick (.t 35) (.t 37) (.k (.s (.b false))), none⟩,
           ⟨(some 39), .mv (.t 38), none⟩,
           ⟨(some 40), .mv (.t 1), (some (39, true))⟩,
           ⟨(some 41), .bin .eql (.t 40) (.k (.s (.i .i64 0))), (some (39, true))⟩,
           ⟨(some 42), .pick (.t 39) (.t 41) (.k (.s (.b false))), none⟩,
           ⟨(some 32), .mv (.t 42), none⟩])
         (.cond (.t 32)
          (.seq (.reg [⟨(some 43), .call 64 [], none⟩,
             ⟨(some 44), .mv (.t 0), none⟩,
             ⟨(some 45), .ix 9 1 none (.t 43) (.t 44), none⟩,
             ⟨(some 4), .mv (.t 45), none⟩,
             ⟨(some 5), .mv (.k (.s (.i .i64 0))), none⟩])
           (.ret))
          (.skip))))))))
   (.seq (.reg [⟨(some 4), .mv (.k (.s (.i .i64 0))), none⟩,
     ⟨(some 5), .mv (.k (.s (.i .i64 90))), none⟩])
   (.ret))), [.t 4, .t 5]⟩
theorem dc26 : compF Try.prog Try.f26 = some df26 := by kernel_rfl
theorem ok26 : FnOk Try.prog 26 := ⟨Try.f26, Try.func26, by kernel_rfl, by kernel_rfl⟩

/-- citadel/citadelref09.Size -/
def df27 : DF :=
  ⟨39, .seq (.reg [⟨(some 4), .mv (.k (.s (.i .i64 0))), none⟩,
     ⟨(some 5), .mv (.k (.s (.i .i64 0))), none⟩])
   (.seq (.seq (.reg [⟨(some 6), .mv (.t 0), none⟩])
    (.block 0 (.seq (.reg [⟨(some 8), .bin .eql (.t 6) (.k (.s (.i .i64 1))), none⟩,
       ⟨(some 7), .mv (.t 8), none⟩])
     (.cond (.t 7)
      (.seq (.reg [⟨(some 9), .mv (.t 1), none⟩,
         ⟨(some 10), .bin .geq (.t 9) (.k (.s (.i .i64 4))), none⟩,
         ⟨(some 11), .mv (.t 10), none⟩,
         ⟨(some 12), .mv (.t 1), (some (11, true))⟩,
         ⟨(some 13), .bin .leq (.t 12) (.k (.s (.i .i64 15))), (some (11, true))⟩,
         ⟨(some 14), .pick (.t 11) (.t 13) (.k (.s (.b false))), none⟩])
       (.cond (.t 14)
        (.seq (.reg [⟨(some 15), .mv (.t 1), none⟩,
           ⟨(some 16), .bin .shl (.k (.s (.i .i64 1))) (.t 15), none⟩,
           ⟨(some 4), .mv (.t 16), none⟩,
           ⟨(some 5), .mv (.k (.s (.i .i64 0))), none⟩])
         (.ret))
        (.skip)))
      (.seq (.reg [⟨(some 18), .bin .eql (.t 6) (.k (.s (.i .i64 2))), none⟩,
         ⟨(some 17), .mv (.t 18), none⟩])
       (.cond (.t 17)
        (.seq (.reg [⟨(some 19), .mv (.t 1), none⟩,
           ⟨(some 20), .bin .geq (.t 19) (.k (.s (.i .i64 1))), none⟩,
           ⟨(some 21), .mv (.t 20), none⟩,
           ⟨(some 22), .mv (.t 1), (some (21, true))⟩,
           ⟨(some 23), .bin .leq (.t 22) (.k (.s (.i .i64 8))), (some (21, true))⟩,
           ⟨(some 24), .pick (.t 21) (.t 23) (.k (.s (.b false))), none⟩])
         (.cond (.t 24)
          (.seq (.reg [⟨(some 25), .mv (.t 1), none⟩,
             ⟨(some 26), .bin .shl (.k (.s (.i .i64 4))) (.t 25), none⟩,
             ⟨(some 4), .mv (.t 26), none⟩,
             ⟨(some 5), .mv (.k (.s (.i .i64 0))), none⟩])
           (.ret))
          (.skip)))
        (.seq (.seq (.reg [⟨(some 28), .bin .eql (.t 6) (.k (.s (.i .i64 3))), none⟩,
            ⟨(some 27), .mv (.t 28), none⟩])
          (.cond (.t 27)
           (.skip)
           (.seq (.reg [⟨(some 29), .bin .eql (.t 6) (.k (.s (.i .i64 4))), none⟩,
              ⟨(some 27), .mv (.t 29), none⟩])
            (.cond (.t 27)
             (.skip)
             (.seq (.reg [⟨(some 30), .bin .eql (.t 6) (.k (.s (.i .i64 5))), none⟩,
                ⟨(some 27), .mv (.t 30), none⟩])
              (.cond (.t 27)
               (.skip)
               (.seq (.reg [⟨(some 31), .bin .eql (.t 6) (.k (.s (.i .i64 6))), none⟩,
                  ⟨(some 27), .mv (.t 31), none⟩])
                (.cond (.t 27)
                 (.skip)
                 (.seq (.reg [⟨(some 32), .bin .eql (.t 6) (.k (.s (.i .i64 7))), none⟩,
                    ⟨(some 27), .mv (.t 32), none⟩])
                  (.cond (.t 27)
                   (.skip)
                   (.reg [⟨(some 33), .bin .eql (.t 6) (.k (.s (.i .i64 8))), none⟩,
                     ⟨(some 27), .mv (.t 33), none⟩])))))))))))
         (.cond (.t 27)
          (.seq (.reg [⟨(some 34), .mv (.t 1), none⟩,
             ⟨(some 35), .bin .eql (.t 34) (.k (.s (.i .i64 0))), none⟩])
           (.cond (.t 35)
            (.seq (.reg [⟨(some 36), .build [.i .i64 0, .i .i64 0, .i .i64 0, .i .i64 0, .i .i64 0, .i .i64 0, .i .i64 0, .i .i64 0, .i .i64 0] [(0, 1, (.k (.s (.i .i64 0)))), (1, 1, (.k (.s (.i .i64 0)))), (2, 1, (.k (.s (.i .i64 0)))), (3, 1, (.k (.s (.i .i64 64)))), (4, 1, (.k (.s (.i .i64 4)))), (5, 1, (.k (.s (.i .i64 8)))), (6, 1, (.k (.s (.i .i64 8)))), (7, 1, (.k (.s (.i .i64 8)))), (8, 1, (.k (.s (.i .i64 16))))], none⟩,
               ⟨(some 37), .mv (.t 0), none⟩,
               ⟨(some 38), .ix 9 1 none (.t 36) (.t 37), none⟩,
               ⟨(some 4), .mv (.t 38), none⟩,
               ⟨(some 5), .mv (.k (.s (.i .i64 0))), none⟩])
             (.ret))
            (.skip)))
          (.skip)))))))))
   (.seq (.reg [⟨(some 4), .mv (.k (.s (.i .i64 0))), none⟩,
     ⟨(some 5), .mv (.k (.s (.i .i64 90))), none⟩])
   (.ret))), [.t 4, .t 5]⟩
theorem dc27 : compF Try.prog Try.f27 = some df27 := by kernel_rfl
theorem ok27 : FnOk Try.prog 27 := ⟨Try.f27, Try.func27, by kernel_rfl, by kernel_rfl⟩

/-- citadel/heap.LineSlot -/
def df28 : DF :=
  ⟨9, .seq (.reg [⟨(some 2), .mv (.k (.s (.i .i64 0))), none⟩])
   (.seq (.seq (.reg [⟨(some 3), .mv (.t 0), none⟩,
      ⟨(some 4), .call 65 [(.t 3), (.k (.s (.i .i64 16)))], none⟩,
      ⟨(some 5), .un .not (.t 4), none⟩])
    (.cond (.t 5)
     (.seq (.reg [⟨(some 2), .mv (.k (.s (.i .i64 0))), none⟩])
      (.ret))
     (.skip)))
   (.seq (.reg [⟨(some 6), .mv (.t 0), none⟩,
     ⟨(some 7), .bin .mul (.k (.s (.i .i64 4))) (.t 6), none⟩,
     ⟨(some 8), .bin .add (.k (.s (.i .i64 64))) (.t 7), none⟩,
     ⟨(some 2), .mv (.t 8), none⟩])
   (.ret))), [.t 2]⟩
theorem dc28 : compF Try.prog Try.f28 = some df28 := by kernel_rfl
theorem ok28 : FnOk Try.prog 28 := ⟨Try.f28, Try.func28, by kernel_rfl, by kernel_rfl⟩

/-- citadel/citadelref09.LineSlot -/
def df29 : DF :=
  ⟨12, .seq (.reg [⟨(some 2), .mv (.k (.s (.i .i64 0))), none⟩])
   (.seq (.seq (.reg [⟨(some 3), .mv (.t 0), none⟩,
      ⟨(some 4), .bin .lss (.t 3) (.k (.s (.i .i64 0))), none⟩,
      ⟨(some 5), .mv (.t 4), none⟩,
      ⟨(some 6), .mv (.t 0), (some (5, false))⟩,
      ⟨(some 7), .bin .gtr (.t 6) (.k (.s (.i .i64 15))), (some (5, false))⟩,
      ⟨(some 8), .pick (.t 5) (.k (.s (.b true))) (.t 7), none⟩])
    (.cond (.t 8)
     (.seq (.reg [⟨(some 2), .mv (.k (.s (.i .i64 0))), none⟩])
      (.ret))
     (.skip)))
   (.seq (.reg [⟨(some 9), .mv (.t 0), none⟩,
     ⟨(some 10), .bin .mul (.k (.s (.i .i64 4))) (.t 9), none⟩,
     ⟨(some 11), .bin .add (.k (.s (.i .i64 64))) (.t 10), none⟩,
     ⟨(some 2), .mv (.t 11), none⟩])
   (.ret))), [.t 2]⟩
theorem dc29 : compF Try.prog Try.f29 = some df29 := by kernel_rfl
theorem ok29 : FnOk Try.prog 29 := ⟨Try.f29, Try.func29, by kernel_rfl, by kernel_rfl⟩

/-- citadel/heap.BootSlot -/
def df30 : DF :=
  ⟨9, .seq (.reg [⟨(some 2), .mv (.k (.s (.i .i64 0))), none⟩])
   (.seq (.seq (.reg [⟨(some 3), .mv (.t 0), none⟩,
      ⟨(some 4), .call 65 [(.t 3), (.k (.s (.i .i64 8)))], none⟩,
      ⟨(some 5), .un .not (.t 4), none⟩])
    (.cond (.t 5)
     (.seq (.reg [⟨(some 2), .mv (.k (.s (.i .i64 0))), none⟩])
      (.ret))
     (.skip)))
   (.seq (.reg [⟨(some 6), .mv (.t 0), none⟩,
     ⟨(some 7), .bin .mul (.k (.s (.i .i64 4))) (.t 6), none⟩,
     ⟨(some 8), .bin .add (.k (.s (.i .i64 32))) (.t 7), none⟩,
     ⟨(some 2), .mv (.t 8), none⟩])
   (.ret))), [.t 2]⟩
theorem dc30 : compF Try.prog Try.f30 = some df30 := by kernel_rfl
theorem ok30 : FnOk Try.prog 30 := ⟨Try.f30, Try.func30, by kernel_rfl, by kernel_rfl⟩

/-- citadel/citadelref09.BootSlot -/
def df31 : DF :=
  ⟨12, .seq (.reg [⟨(some 2), .mv (.k (.s (.i .i64 0))), none⟩])
   (.seq (.seq (.reg [⟨(some 3), .mv (.t 0), none⟩,
      ⟨(some 4), .bin .lss (.t 3) (.k (.s (.i .i64 0))), none⟩,
      ⟨(some 5), .mv (.t 4), none⟩,
      ⟨(some 6), .mv (.t 0), (some (5, false))⟩,
      ⟨(some 7), .bin .gtr (.t 6) (.k (.s (.i .i64 7))), (some (5, false))⟩,
      ⟨(some 8), .pick (.t 5) (.k (.s (.b true))) (.t 7), none⟩])
    (.cond (.t 8)
     (.seq (.reg [⟨(some 2), .mv (.k (.s (.i .i64 0))), none⟩])
      (.ret))
     (.skip)))
   (.seq (.reg [⟨(some 9), .mv (.t 0), none⟩,
     ⟨(some 10), .bin .mul (.k (.s (.i .i64 4))) (.t 9), none⟩,
     ⟨(some 11), .bin .add (.k (.s (.i .i64 32))) (.t 10), none⟩,
     ⟨(some 2), .mv (.t 11), none⟩])
   (.ret))), [.t 2]⟩
theorem dc31 : compF Try.prog Try.f31 = some df31 := by kernel_rfl
theorem ok31 : FnOk Try.prog 31 := ⟨Try.f31, Try.func31, by kernel_rfl, by kernel_rfl⟩

/-- citadel/heap.SlotAt -/
def df32 : DF :=
  ⟨45, .seq (.reg [⟨(some 2), .box (.t 0), none⟩,
     ⟨(some 4), .mv (.k (.s (.i .i64 0))), none⟩])
   (.seq (.reg [⟨(some 5), .mv (.k (.s (.i .i64 0))), none⟩])
   (.seq (.block 0 (.seq (.reg [⟨(some 7), .ld (.t 2) (some 11), none⟩,
       ⟨(some 8), .call 15 [(.t 7)], none⟩,
       ⟨(some 9), .un .not (.t 8), none⟩,
       ⟨(some 6), .mv (.t 9), none⟩])
     (.cond (.t 6)
      (.skip)
      (.seq (.reg [⟨(some 11), .fa (.t 2) 0, none⟩,
         ⟨(some 12), .ld (.t 11) none, none⟩,
         ⟨(some 13), .bin .eql (.t 12) (.k (.s (.i .i64 3))), none⟩,
         ⟨(some 14), .mv (.t 13), none⟩,
         ⟨(some 15), .fa (.t 2) 0, (some (14, false))⟩,
         ⟨(some 16), .ld (.t 15) none, (some (14, false))⟩,
         ⟨(some 17), .bin .eql (.t 16) (.k (.s (.i .i64 10))), (some (14, false))⟩,
         ⟨(some 18), .mv (.t 17), (some (14, false))⟩,
         ⟨(some 19), .fa (.t 2) 2, (some (18, true))⟩,
         ⟨(some 20), .ld (.t 19) none, (some (18, true))⟩,
         ⟨(some 21), .bin .eql (.t 20) (.k (.s (.i .i64 31))), (some (18, true))⟩,
         ⟨(some 22), .pick (.t 18) (.t 21) (.k (.s (.b false))), (some (14, false))⟩,
         ⟨(some 23), .pick (.t 14) (.k (.s (.b true))) (.t 22), none⟩,
         ⟨(some 10), .mv (.t 23), none⟩])
       (.cond (.t 10)
        (.reg [⟨(some 5), .mv (.k (.s (.i .i64 3))), none⟩])
        (.seq (.reg [⟨(some 25), .fa (.t 2) 0, none⟩,
           ⟨(some 26), .ld (.t 25) none, none⟩,
           ⟨(some 27), .bin .eql (.t 26) (.k (.s (.i .i64 2))), none⟩,
           ⟨(some 28), .mv (.t 27), none⟩,
           ⟨(some 29), .fa (.t 2) 0, (some (28, false))⟩,
           ⟨(some 30), .ld (.t 29) none, (some (28, false))⟩,
           ⟨(some 31), .bin .eql (.t 30) (.k (.s (.i .i64 10))), (some (28, false))⟩,
           ⟨(some 32), .pick (.t 28) (.k (.s (.b true))) (.t 31), none⟩,
           ⟨(some 24), .mv (.t 32), none⟩])
         (.cond (.t 24)
          (.reg [⟨(some 33), .fa (.t 2) 2, none⟩,
            ⟨(some 34), .ld (.t 33) none, none⟩,
            ⟨(some 35), .bin .shl (.k (.s (.i .i64 1))) (.t 34), none⟩,
            ⟨(some 5), .mv (.t 35), none⟩])
          (.skip))))))))
   (.seq (.seq (.reg [⟨(some 36), .mv (.t 1), none⟩,
      ⟨(some 37), .mv (.t 5), none⟩,
      ⟨(some 38), .call 65 [(.t 36), (.t 37)], none⟩,
      ⟨(some 39), .un .not (.t 38), none⟩])
    (.cond (.t 39)
     (.seq (.reg [⟨(some 4), .mv (.k (.s (.i .i64 0))), none⟩])
      (.ret))
     (.skip)))
   (.seq (.reg [⟨(some 40), .fa (.t 2) 1, none⟩,
     ⟨(some 41), .ld (.t 40) none, none⟩,
     ⟨(some 42), .mv (.t 1), none⟩,
     ⟨(some 43), .bin .mul (.k (.s (.i .i64 4))) (.t 42), none⟩,
     ⟨(some 44), .bin .add (.t 41) (.t 43), none⟩,
     ⟨(some 4), .mv (.t 44), none⟩])
   (.ret))))), [.t 4]⟩
theorem dc32 : compF Try.prog Try.f32 = some df32 := by kernel_rfl
theorem ok32 : FnOk Try.prog 32 := ⟨Try.f32, Try.func32, by kernel_rfl, by kernel_rfl⟩

/-- citadel/citadelref09.SlotAt -/
def df33 : DF :=
  ⟨20, .seq (.reg [⟨(some 2), .box (.t 0), none⟩,
     ⟨(some 4), .mv (.k (.s (.i .i64 0))), none⟩])
   (.seq (.reg [⟨(some 6), .ld (.t 2) (some 11), none⟩,
     ⟨(some 7), .call 66 [(.t 6)], none⟩,
     ⟨(some 5), .mv (.t 7), none⟩])
   (.seq (.seq (.reg [⟨(some 8), .mv (.t 1), none⟩,
      ⟨(some 9), .bin .lss (.t 8) (.k (.s (.i .i64 0))), none⟩,
      ⟨(some 10), .mv (.t 9), none⟩,
      ⟨(some 11), .mv (.t 1), (some (10, false))⟩,
      ⟨(some 12), .mv (.t 5), (some (10, false))⟩,
      ⟨(some 13), .bin .geq (.t 11) (.t 12), (some (10, false))⟩,
      ⟨(some 14), .pick (.t 10) (.k (.s (.b true))) (.t 13), none⟩])
    (.cond (.t 14)
     (.seq (.reg [⟨(some 4), .mv (.k (.s (.i .i64 0))), none⟩])
      (.ret))
     (.skip)))
   (.seq (.reg [⟨(some 15), .fa (.t 2) 1, none⟩,
     ⟨(some 16), .ld (.t 15) none, none⟩,
     ⟨(some 17), .mv (.t 1), none⟩,
     ⟨(some 18), .bin .mul (.k (.s (.i .i64 4))) (.t 17), none⟩,
     ⟨(some 19), .bin .add (.t 16) (.t 18), none⟩,
     ⟨(some 4), .mv (.t 19), none⟩])
   (.ret)))), [.t 4]⟩
theorem dc33 : compF Try.prog Try.f33 = some df33 := by kernel_rfl
theorem ok33 : FnOk Try.prog 33 := ⟨Try.f33, Try.func33, by kernel_rfl, by kernel_rfl⟩

/-- citadel/heap.Apart -/
def df34 : DF :=
  ⟨35, .seq (.reg [⟨(some 2), .box (.t 0), none⟩,
     ⟨(some 3), .box (.t 1), none⟩,
     ⟨(some 4), .mv (.k (.s (.b false))), none⟩])
   (.seq (.drm [(true, ⟨(some 7), .ld (.t 2) (some 11), none⟩),
     (true, ⟨(some 9), .ld (.t 3) (some 11), none⟩),
     (true, ⟨(some 8), .call 21 [(.t 7)], none⟩),
     (false, ⟨(some 10), .call 21 [(.t 9)], none⟩),
     (true, ⟨(some 5), .mv (.t 8), none⟩),
     (true, ⟨(some 6), .mv (.t 10), none⟩)])
   (.seq (.reg [⟨(some 11), .mv (.t 5), none⟩,
     ⟨(some 12), .bin .eql (.t 11) (.k (.s (.i .i64 0))), none⟩,
     ⟨(some 13), .mv (.t 12), none⟩,
     ⟨(some 14), .mv (.t 6), (some (13, false))⟩,
     ⟨(some 15), .bin .eql (.t 14) (.k (.s (.i .i64 0))), (some (13, false))⟩,
     ⟨(some 16), .pick (.t 13) (.k (.s (.b true))) (.t 15), none⟩,
     ⟨(some 17), .mv (.t 16), none⟩,
     ⟨(some 18), .fa (.t 2) 1, (some (17, false))⟩,
     ⟨(some 19), .ld (.t 18) none, (some (17, false))⟩,
     ⟨(some 20), .mv (.t 5), (some (17, false))⟩,
     ⟨(some 21), .bin .add (.t 19) (.t 20), (some (17, false))⟩,
     ⟨(some 22), .fa (.t 3) 1, (some (17, false))⟩,
     ⟨(some 23), .ld (.t 22) none, (some (17, false))⟩,
     ⟨(some 24), .bin .leq (.t 21) (.t 23), (some (17, false))⟩,
     ⟨(some 25), .pick (.t 17) (.k (.s (.b true))) (.t 24), none⟩,
     ⟨(some 26), .mv (.t 25), none⟩,
     ⟨(some 27), .fa (.t 3) 1, (some (26, false))⟩,
     ⟨(some 28), .ld (.t 27) none, (some (26, false))⟩,
     ⟨(some 29), .mv (.t 6), (some (26, false))⟩,
     ⟨(some 30), .bin .add (.t 28) (.t 29), (some (26, false))⟩,
     ⟨(some 31), .fa (.t 2) 1, (some (26, false))⟩,
     ⟨(some 32), .ld (.t 31) none, (some (26, false))⟩,
     ⟨(some 33), .bin .leq (.t 30) (.t 32), (some (26, false))⟩,
     ⟨(some 34), .pick (.t 26) (.k (.s (.b true))) (.t 33), none⟩,
     ⟨(some 4), .mv (.t 34), none⟩])
   (.ret))), [.t 4]⟩
theorem dc34 : compF Try.prog Try.f34 = some df34 := by kernel_rfl
theorem ok34 : FnOk Try.prog 34 := ⟨Try.f34, Try.func34, by kernel_rfl, by kernel_rfl⟩

/-- citadel/citadelref09.Apart -/
def df35 : DF :=
  ⟨35, .seq (.reg [⟨(some 2), .box (.t 0), none⟩,
     ⟨(some 3), .box (.t 1), none⟩,
     ⟨(some 4), .mv (.k (.s (.b false))), none⟩])
   (.seq (.reg [⟨(some 7), .ld (.t 2) (some 11), none⟩,
     ⟨(some 8), .call 22 [(.t 7)], none⟩,
     ⟨(some 5), .mv (.t 8), none⟩])
   (.seq (.reg [⟨(some 9), .ld (.t 3) (some 11), none⟩,
     ⟨(some 10), .call 22 [(.t 9)], none⟩,
     ⟨(some 6), .mv (.t 10), none⟩])
   (.seq (.reg [⟨(some 11), .mv (.t 5), none⟩,
     ⟨(some 12), .bin .eql (.t 11) (.k (.s (.i .i64 0))), none⟩,
     ⟨(some 13), .mv (.t 12), none⟩,
     ⟨(some 14), .mv (.t 6), (some (13, false))⟩,
     ⟨(some 15), .bin .eql (.t 14) (.k (.s (.i .i64 0))), (some (13, false))⟩,
     ⟨(some 16), .pick (.t 13) (.k (.s (.b true))) (.t 15), none⟩,
     ⟨(some 17), .mv (.t 16), none⟩,
     ⟨(some 18), .fa (.t 2) 1, (some (17, false))⟩,
     ⟨(some 19), .ld (.t 18) none, (some (17, false))⟩,
     ⟨(some 20), .mv (.t 5), (some (17, false))⟩,
     ⟨(some 21), .bin .add (.t 19) (.t 20), (some (17, false))⟩,
     ⟨(some 22), .fa (.t 3) 1, (some (17, false))⟩,
     ⟨(some 23), .ld (.t 22) none, (some (17, false))⟩,
     ⟨(some 24), .bin .leq (.t 21) (.t 23), (some (17, false))⟩,
     ⟨(some 25), .pick (.t 17) (.k (.s (.b true))) (.t 24), none⟩,
     ⟨(some 26), .mv (.t 25), none⟩,
     ⟨(some 27), .fa (.t 3) 1, (some (26, false))⟩,
     ⟨(some 28), .ld (.t 27) none, (some (26, false))⟩,
     ⟨(some 29), .mv (.t 6), (some (26, false))⟩,
     ⟨(some 30), .bin .add (.t 28) (.t 29), (some (26, false))⟩,
     ⟨(some 31), .fa (.t 2) 1, (some (26, false))⟩,
     ⟨(some 32), .ld (.t 31) none, (some (26, false))⟩,
     ⟨(some 33), .bin .leq (.t 30) (.t 32), (some (26, false))⟩,
     ⟨(some 34), .pick (.t 26) (.k (.s (.b true))) (.t 33), none⟩,
     ⟨(some 4), .mv (.t 34), none⟩])
   (.ret)))), [.t 4]⟩
theorem dc35 : compF Try.prog Try.f35 = some df35 := by kernel_rfl
theorem ok35 : FnOk Try.prog 35 := ⟨Try.f35, Try.func35, by kernel_rfl, by kernel_rfl⟩

/-- citadel/heap.Within -/
def df36 : DF :=
  ⟨35, .seq (.reg [⟨(some 2), .box (.t 0), none⟩,
     ⟨(some 3), .box (.t 1), none⟩,
     ⟨(some 4), .mv (.k (.s (.b false))), none⟩])
   (.seq (.drm [(true, ⟨(some 7), .ld (.t 2) (some 11), none⟩),
     (true, ⟨(some 9), .ld (.t 3) (some 11), none⟩),
     (true, ⟨(some 8), .call 21 [(.t 7)], none⟩),
     (false, ⟨(some 10), .call 21 [(.t 9)], none⟩),
     (true, ⟨(some 5), .mv (.t 8), none⟩),
     (true, ⟨(some 6), .mv (.t 10), none⟩)])
   (.seq (.reg [⟨(some 11), .mv (.t 5), none⟩,
     ⟨(some 12), .bin .gtr (.t 11) (.k (.s (.i .i64 0))), none⟩,
     ⟨(some 13), .mv (.t 12), none⟩,
     ⟨(some 14), .mv (.t 6), (some (13, true))⟩,
     ⟨(some 15), .bin .gtr (.t 14) (.k (.s (.i .i64 0))), (some (13, true))⟩,
     ⟨(some 16), .pick (.t 13) (.t 15) (.k (.s (.b false))), none⟩,
     ⟨(some 17), .mv (.t 16), none⟩,
     ⟨(some 18), .fa (.t 2) 1, (some (17, true))⟩,
     ⟨(some 19), .ld (.t 18) none, (some (17, true))⟩,
     ⟨(some 20), .fa (.t 3) 1, (some (17, true))⟩,
     ⟨(some 21), .ld (.t 20) none, (some (17, true))⟩,
     ⟨(some 22), .bin .geq (.t 19) (.t 21), (some (17, true))⟩,
     ⟨(some 23), .pick (.t 17) (.t 22) (.k (.s (.b false))), none⟩,
     ⟨(some 24), .mv (.t 23), none⟩,
     ⟨(some 25), .fa (.t 2) 1, (some (24, true))⟩,
     ⟨(some 26), .ld (.t 25) none, (some (24, true))⟩,
     ⟨(some 27), .mv (.t 5), (some (24, true))⟩,
     ⟨(some 28), .bin .add (.t 26) (.t 27), (some (24, true))⟩,
     ⟨(some 29), .fa (.t 3) 1, (some (24, true))⟩,
     ⟨(some 30), .ld (.t 29) none, (some (24, true))⟩,
     ⟨(some 31), .mv (.t 6), (some (24, true))⟩,
     ⟨(some 32), .bin .add (.t 30) (.t 31), (some (24, true))⟩,
     ⟨(some 33), .bin .leq (.t 28) (.t 32), (some (24, true))⟩,
     ⟨(some 34), .pick (.t 24) (.t 33) (.k (.s (.b false))), none⟩,
     ⟨(some 4), .mv (.t 34), none⟩])
   (.ret))), [.t 4]⟩
theorem dc36 : compF Try.prog Try.f36 = some df36 := by kernel_rfl
theorem ok36 : FnOk Try.prog 36 := ⟨Try.f36, Try.func36, by kernel_rfl, by kernel_rfl⟩

/-- citadel/citadelref09.Within -/
def df37 : DF :=
  ⟨35, .seq (.reg [⟨(some 2), .box (.t 0), none⟩,
     ⟨(some 3), .box (.t 1), none⟩,
     ⟨(some 4), .mv (.k (.s (.b false))), none⟩])
   (.seq (.reg [⟨(some 7), .ld (.t 2) (some 11), none⟩,
     ⟨(some 8), .call 22 [(.t 7)], none⟩,
     ⟨(some 5), .mv (.t 8), none⟩])
   (.seq (.reg [⟨(some 9), .ld (.t 3) (some 11), none⟩,
     ⟨(some 10), .call 22 [(.t 9)], none⟩,
     ⟨(some 6), .mv (.t 10), none⟩])
   (.seq (.reg [⟨(some 11), .mv (.t 5), none⟩,
     ⟨(some 12), .bin .gtr (.t 11) (.k (.s (.i .i64 0))), none⟩,
     ⟨(some 13), .mv (.t 12), none⟩,
     ⟨(some 14), .mv (.t 6), (some (13, true))⟩,
     ⟨(some 15), .bin .gtr (.t 14) (.k (.s (.i .i64 0))), (some (13, true))⟩,
     ⟨(some 16), .pick (.t 13) (.t 15) (.k (.s (.b false))), none⟩,
     ⟨(some 17), .mv (.t 16), none⟩,
     ⟨(some 18), .fa (.t 2) 1, (some (17, true))⟩,
     ⟨(some 19), .ld (.t 18) none, (some (17, true))⟩,
     ⟨(some 20), .fa (.t 3) 1, (some (17, true))⟩,
     ⟨(some 21), .ld (.t 20) none, (some (17, true))⟩,
     ⟨(some 22), .bin .geq (.t 19) (.t 21), (some (17, true))⟩,
     ⟨(some 23), .pick (.t 17) (.t 22) (.k (.s (.b false))), none⟩,
     ⟨(some 24), .mv (.t 23), none⟩,
     ⟨(some 25), .fa (.t 2) 1, (some (24, true))⟩,
     ⟨(some 26), .ld (.t 25) none, (some (24, true))⟩,
     ⟨(some 27), .mv (.t 5), (some (24, true))⟩,
     ⟨(some 28), .bin .add (.t 26) (.t 27), (some (24, true))⟩,
     ⟨(some 29), .fa (.t 3) 1, (some (24, true))⟩,
     ⟨(some 30), .ld (.t 29) none, (some (24, true))⟩,
     ⟨(some 31), .mv (.t 6), (some (24, true))⟩,
     ⟨(some 32), .bin .add (.t 30) (.t 31), (some (24, true))⟩,
     ⟨(some 33), .bin .leq (.t 28) (.t 32), (some (24, true))⟩,
     ⟨(some 34), .pick (.t 24) (.t 33) (.k (.s (.b false))), none⟩,
     ⟨(some 4), .mv (.t 34), none⟩])
   (.ret)))), [.t 4]⟩
theorem dc37 : compF Try.prog Try.f37 = some df37 := by kernel_rfl
theorem ok37 : FnOk Try.prog 37 := ⟨Try.f37, Try.func37, by kernel_rfl, by kernel_rfl⟩

/-- citadel/citadellaw07.awake -/
def df38 : DF :=
  ⟨91, .seq (.reg [⟨(some 0), .mv (.k (.s (.b false))), none⟩])
   (.seq (.reg [⟨(some 17), .call 39 [(.k (.s (.i .i64 11)))], none⟩,
     ⟨(some 16), .mv (.t 17), none⟩,
     ⟨(some 18), .ext (.t 16) 0, none⟩,
     ⟨(some 19), .ext (.t 16) 1, none⟩,
     ⟨(some 1), .mv (.t 18), none⟩,
     ⟨(some 2), .mv (.t 19), none⟩])
   (.seq (.seq (.reg [⟨(some 20), .mv (.t 1), none⟩,
      ⟨(some 21), .eqn false false (.t 20), none⟩,
      ⟨(some 22), .mv (.t 21), none⟩,
      ⟨(some 23), .mv (.t 2), (some (22, false))⟩,
      ⟨(some 24), .bin .neq (.t 23) (.k (.s (.i .i64 0))), (some (22, false))⟩,
      ⟨(some 25), .pick (.t 22) (.k (.s (.b true))) (.t 24), none⟩])
    (.cond (.t 25)
     (.seq (.reg [⟨(some 0), .mv (.k (.s (.b false))), none⟩])
      (.ret))
     (.skip)))
   (.seq (.reg [⟨(some 26), .build [.i .i64 0, .i .i64 0, .i .i64 0, .i .i64 0, .i .i64 0, .i .i64 0, .i .i64 0, .i .i64 0, .i .i64 0, .i .i64 0, .i .i64 0] [(0, 1, (.k (.s (.i .i64 5)))), (1, 1, (.k (.s (.i .i64 2048)))), (7, 1, (.k (.s (.i .i64 3))))], none⟩,
     ⟨(some 27), .build [.i .i64 0, .i .i64 0, .i .i64 0, .i .i64 0, .i .i64 0, .i .i64 0, .i .i64 0, .i .i64 0, .i .i64 0, .i .i64 0, .i .i64 0, .i .i64 0, .i .i64 0, .i .i64 0] [(0, 11, (.t 26)), (11, 1, (.k (.s (.i .i64 1024)))), (13, 1, (.k (.s (.i .i64 1))))], none⟩,
     ⟨(some 3), .new [.i .i64 0, .i .i64 0, .i .i64 0, .i .i64 0, .i .i64 0, .i .i64 0, .i .i64 0, .i .i64 0, .i .i64 0, .i .i64 0, .i .i64 0, .i .i64 0, .i .i64 0, .i .i64 0], none⟩,
     ⟨none, .st (.t 3) (.t 27) 14, none⟩])
   (.seq (.reg [⟨(some 28), .mv (.t 1), none⟩,
     ⟨(some 29), .ld (.t 3) (some 14), none⟩,
     ⟨(some 30), .call 41 [(.t 28), (.k (.s (.i .i64 1028))), (.t 29)], none⟩,
     ⟨(some 4), .mv (.t 30), none⟩])
   (.seq (.reg [⟨(some 32), .mv (.t 1), none⟩,
     ⟨(some 33), .call 42 [(.t 32), (.k (.s (.i .i64 1028))), (.k (.s (.i .i64 4)))], none⟩,
     ⟨(some 31), .mv (.t 33), none⟩,
     ⟨(some 34), .ext (.t 31) 0, none⟩,
     ⟨(some 35), .ext (.t 31) 1, none⟩,
     ⟨(some 5), .mv (.t 34), none⟩,
     ⟨(some 6), .mv (.t 35), none⟩])
   (.seq (.reg [⟨(some 37), .mv (.t 1), none⟩,
     ⟨(some 38), .call 43 [(.t 37), (.k (.s (.i .i64 1028)))], none⟩,
     ⟨(some 36), .mv (.t 38), none⟩,
     ⟨(some 39), .ext (.t 36) 0, none⟩,
     ⟨(some 40), .ext (.t 36) 1, none⟩,
     ⟨(some 7), .new [.i .i64 0, .i .i64 0, .i .i64 0, .i .i64 0, .i .i64 0, .i .i64 0, .i .i64 0, .i .i64 0, .i .i64 0, .i .i64 0, .i .i64 0, .i .i64 0, .i .i64 0, .i .i64 0], none⟩,
     ⟨none, .st (.t 7) (.t 39) 14, none⟩,
     ⟨(some 8), .mv (.t 40), none⟩])
   (.seq (.reg [⟨(some 42), .mv (.t 1), none⟩,
     ⟨(some 43), .call 43 [(.t 42), (.k (.s (.i .i64 1030)))], none⟩,
     ⟨(some 41), .mv (.t 43), none⟩,
     ⟨(some 44), .ext (.t 41) 0, none⟩,
     ⟨(some 45), .ext (.t 41) 1, none⟩,
     ⟨(some 9), .new [.i .i64 0, .i .i64 0, .i .i64 0, .i .i64 0, .i .i64 0, .i .i64 0, .i .i64 0, .i .i64 0, .i .i64 0, .i .i64 0, .i .i64 0, .i .i64 0, .i .i64 0, .i .i64 0], none⟩,
     ⟨none, .st (.t 9) (.t 44) 14, none⟩,
     ⟨(some 10), .mv (.t 45), none⟩])
   (.seq (.reg [⟨(some 46), .mv (.t 1), none⟩,
     ⟨(some 47), .build [.i .i64 0, .i .i64 0, .i .i64 0, .i .i64 0, .i .i64 0, .i .i64 0, .i .i64 0, .i .i64 0, .i .i64 0, .i .i64 0, .i .i64 0, .i .i64 0, .i .i64 0, .i .i64 0] [(13, 1, (.k (.s (.i .i64 1))))], none⟩,
     ⟨(some 48), .call 41 [(.t 46), (.k (.s (.i .i64 1028))), (.t 47)], none⟩,
     ⟨(some 11), .mv (.t 48), none⟩])
   (.seq (.reg [⟨(some 50), .mv (.t 1), none⟩,
     ⟨(some 51), .call 67 [(.t 50), (.k (.s (.i .i64 1032)))], none⟩,
     ⟨(some 49), .mv (.t 51), none⟩,
     ⟨(some 52), .ext (.t 49) 0, none⟩,
     ⟨(some 53), .ext (.t 49) 1, none⟩,
     ⟨(some 12), .mv (.t 52), none⟩,
     ⟨(some 13), .mv (.t 53), none⟩])
   (.seq (.reg [⟨(some 54), .ld (.t 3) (some 14), none⟩,
     ⟨(some 55), .call 68 [(.t 54)], none⟩,
     ⟨(some 14), .mv (.t 55), none⟩])
   (.seq (.reg [⟨(some 56), .mv (.t 5), none⟩,
     ⟨(some 57), .bsl 4 [.i .u64 0, .i .u64 0, .i .u64 0, .i .u64 0] [(0, 1, (.k (.s (.i .u64 100696069)))), (1, 1, (.k (.s (.i .u64 0)))), (2, 1, (.k (.s (.i .u64 4294968320)))), (3, 1, (.k (.s (.i .u64 0))))], none⟩,
     ⟨(some 58), .call 44 [(.t 56), (.t 57)], none⟩,
     ⟨(some 15), .mv (.t 58), none⟩])
   (.seq (.reg [⟨(some 59), .mv (.t 4), none⟩,
     ⟨(some 60), .bin .eql (.t 59) (.k (.s (.i .i64 0))), none⟩,
     ⟨(some 61), .mv (.t 60), none⟩,
     ⟨(some 62), .mv (.t 15), (some (61, true))⟩,
     ⟨(some 63), .pick (.t 61) (.t 62) (.k (.s (.b false))), none⟩,
     ⟨(some 64), .mv (.t 63), none⟩,
     ⟨(some 65), .ld (.t 7) (some 14), (some (64, true))⟩,
     ⟨(some 66), .ld (.t 3) (some 14), (some (64, true))⟩,
     ⟨(some 67), .eqa false [true, true, true, true, true, true, true, true, true, true, true, true, true, true] (.t 65) (.t 66), (some (64, true))⟩,
     ⟨(some 68), .pick (.t 64) (.t 67) (.k (.s (.b false))), none⟩,
     ⟨(some 69), .mv (.t 68), none⟩,
     ⟨(some 70), .mv (.t 8), (some (69, true))⟩,
     ⟨(some 71), .bin .eql (.t 70) (.k (.s (.i .i64 0))), (some (69, true))⟩,
     ⟨(some 72), .pick (.t 69) (.t 71) (.k (.s (.b false))), none⟩,
     ⟨(some 73), .mv (.t 72), none⟩,
     ⟨(some 74), .mv (.t 10), (some (73, true))⟩,
     ⟨(some 75), .bin .eql (.t 74) (.k (.s (.i .i64 20))), (some (73, true))⟩,
     ⟨(some 76), .pick (.t 73) (.t 75) (.k (.s (.b false))), none⟩,
     ⟨(some 77), .mv (.t 76), none⟩,
     ⟨(some 78), .mv (.t 11), (some (77, true))⟩,
     ⟨(some 79), .bin .eql (.t 78) (.k (.s (.i .i64 110))), (some (77, true))⟩,
     ⟨(some 80), .pick (.t 77) (.t 79) (.k (.s (.b false))), none⟩,
     ⟨(some 81), .mv (.t 80), none⟩,
     ⟨(some 82), .mv (.t 12), (some (81, true))⟩,
     ⟨(some 83), .pick (.t 81) (.t 82) (.k (.s (.b false))), none⟩,
     ⟨(some 84), .mv (.t 83), none⟩,
     ⟨(some 85), .mv (.t 13), (some (84, true))⟩,
     ⟨(some 86), .bin .eql (.t 85) (.k (.s (.i .i64 0))), (some (84, true))⟩,
     ⟨(some 87), .pick (.t 84) (.t 86) (.k (.s (.b false))), none⟩,
     ⟨(some 88), .mv (.t 87), none⟩,
     ⟨(some 89), .mv (.t 14), (some (88, true))⟩,
     ⟨(some 90), .pick (.t 88) (.t 89) (.k (.s (.b false))), none⟩,
     ⟨(some 0), .mv (.t 90), none⟩])
   (.ret))))))))))))), [.t 0]⟩
theorem dc38 : compF Try.prog Try.f38 = some df38 := by kernel_rfl
theorem ok38 : FnOk Try.prog 38 := ⟨Try.f38, Try.func38, by kernel_rfl, by kernel_rfl⟩

/-- citadel/mem.New -/
def df39 : DF :=
  ⟨15, .seq (.reg [⟨(some 2), .mv (.k (.s (.np))), none⟩,
     ⟨(some 3), .mv (.k (.s (.i .i64 0))), none⟩])
   (.seq (.seq (.reg [⟨(some 4), .mv (.t 0), none⟩,
      ⟨(some 5), .bin .lss (.t 4) (.k (.s (.i .i64 11))), none⟩,
      ⟨(some 6), .mv (.t 5), none⟩,
      ⟨(some 7), .mv (.t 0), (some (6, false))⟩,
      ⟨(some 8), .bin .gtr (.t 7) (.k (.s (.i .i64 16))), (some (6, false))⟩,
      ⟨(some 9), .pick (.t 6) (.k (.s (.b true))) (.t 8), none⟩])
    (.cond (.t 9)
     (.seq (.reg [⟨(some 2), .mv (.k (.s (.np))), none⟩,
        ⟨(some 3), .mv (.k (.s (.i .i64 1))), none⟩])
      (.ret))
     (.skip)))
   (.seq (.reg [⟨(some 10), .mv (.t 0), none⟩,
     ⟨(some 11), .bin .shl (.k (.s (.i .i64 1))) (.t 10), none⟩,
     ⟨(some 12), .mks 1 8 [.i .u64 0] (.t 11) (.t 11), none⟩,
     ⟨(some 13), .build [.ns, .i .i64 0] [(0, 1, (.t 12))], none⟩,
     ⟨(some 14), .box (.t 13), none⟩,
     ⟨(some 2), .mv (.t 14), none⟩,
     ⟨(some 3), .mv (.k (.s (.i .i64 0))), none⟩])
   (.ret))), [.t 2, .t 3]⟩
theorem dc39 : compF Try.prog Try.f39 = some df39 := by kernel_rfl
theorem ok39 : FnOk Try.prog 39 := ⟨Try.f39, Try.func39, by kernel_rfl, by kernel_rfl⟩

/-- (*citadel/mem.Memory).Fill -/
def df40 : DF :=
  ⟨39, .seq (.reg [⟨(some 8), .mv (.k (.s (.i .i64 0))), none⟩])
   (.seq (.reg [⟨(some 13), .mv (.t 0), none⟩,
     ⟨(some 14), .mv (.t 1), none⟩,
     ⟨(some 15), .mv (.t 2), none⟩,
     ⟨(some 16), .call 69 [(.t 13), (.t 14), (.t 15)], none⟩,
     ⟨(some 12), .mv (.t 16), none⟩,
     ⟨(some 17), .ext (.t 12) 0, none⟩,
     ⟨(some 18), .ext (.t 12) 1, none⟩,
     ⟨(some 9), .mv (.t 17), none⟩,
     ⟨(some 10), .mv (.t 18), none⟩])
   (.seq (.seq (.reg [⟨(some 19), .mv (.t 10), none⟩,
      ⟨(some 20), .un .not (.t 19), none⟩])
    (.cond (.t 20)
     (.seq (.reg [⟨(some 8), .mv (.k (.s (.i .i64 20))), none⟩])
      (.ret))
     (.skip)))
   (.seq (.seq (.reg [⟨(some 21), .mv (.t 9), none⟩,
      ⟨(some 22), .len (.t 21), none⟩,
      ⟨(some 23), .mv (.k (.s (.i .i64 0))), none⟩])
    (.block 0 (.loop (.seq (.reg [⟨(some 24), .bin .lss (.t 23) (.t 22), none⟩])
      (.seq (.cond (.t 24)
        (.skip)
        (.exit 0))
      (.seq (.block 1 (.seq (.reg [⟨(some 25), .mv (.t 23), none⟩,
          ⟨(some 11), .mv (.t 25), none⟩])
        (.reg [⟨(some 26), .mv (.t 9), none⟩,
         ⟨(some 27), .mv (.t 11), none⟩,
         ⟨(some 28), .mv (.t 3), none⟩,
         ⟨(some 29), .ia none 1 (.t 26) (.t 27), none⟩,
         ⟨none, .st (.t 29) (.t 28) 1, none⟩])))
      (.reg [⟨(some 30), .bin .add (.t 23) (.k (.s (.i .i64 1))), none⟩,
       ⟨(some 23), .mv (.t 30), none⟩])))))))
   (.seq (.reg [⟨(some 31), .mv (.t 0), none⟩,
     ⟨(some 32), .nil (.t 31), none⟩,
     ⟨(some 33), .fa (.t 32) 1, none⟩,
     ⟨(some 34), .ld (.t 33) none, none⟩,
     ⟨(some 35), .mv (.t 2), none⟩,
     ⟨(some 36), .bin .add (.t 34) (.t 35), none⟩,
     ⟨(some 37), .nil (.t 31), none⟩,
     ⟨(some 38), .fa (.t 37) 1, none⟩,
     ⟨none, .st (.t 38) (.t 36) 1, none⟩])
   (.seq (.reg [⟨(some 8), .mv (.k (.s (.i .i64 0))), none⟩])
   (.ret)))))), [.t 8]⟩
theorem dc40 : compF Try.prog Try.f40 = some df40 := by kernel_rfl
theorem ok40 : FnOk Try.prog 40 := ⟨Try.f40, Try.func40, by kernel_rfl, by kernel_rfl⟩

/-- citadel/slots.Put -/
def df41 : DF :=
  ⟨61, .seq (.reg [⟨(some 5), .box (.t 2), none⟩,
     ⟨(some 6), .mv (.k (.s (.i .i64 0))), none⟩])
   (.seq (.seq (.reg [⟨(some 15), .mv (.t 0), none⟩,
      ⟨(some 16), .mv (.t 1), none⟩,
      ⟨(some 17), .call 70 [(.t 15), (.t 16)], none⟩,
      ⟨(some 18), .un .not (.t 17), none⟩])
    (.cond (.t 18)
     (.seq (.reg [⟨(some 6), .mv (.k (.s (.i .i64 20))), none⟩])
      (.ret))
     (.skip)))
   (.seq (.seq (.reg [⟨(some 19), .ld (.t 5) (some 14), none⟩,
      ⟨(some 20), .call 68 [(.t 19)], none⟩,
      ⟨(some 21), .un .not (.t 20), none⟩])
    (.cond (.t 21)
     (.seq (.reg [⟨(some 6), .mv (.k (.s (.i .i64 110))), none⟩])
      (.ret))
     (.skip)))
   (.seq (.reg [⟨(some 23), .fa (.t 5) 0, none⟩,
     ⟨(some 24), .ld (.t 23) (some 11), none⟩,
     ⟨(some 25), .call 17 [(.t 24)], none⟩,
     ⟨(some 22), .mv (.t 25), none⟩,
     ⟨(some 26), .ext (.t 22) 0, none⟩,
     ⟨(some 27), .ext (.t 22) 1, none⟩,
     ⟨(some 28), .ext (.t 22) 2, none⟩,
     ⟨(some 7), .mv (.t 26), none⟩,
     ⟨(some 8), .mv (.t 27), none⟩,
     ⟨(some 9), .mv (.t 28), none⟩])
   (.seq (.reg [⟨(some 10), .mv (.k (.s (.fn 71 []))), none⟩])
   (.seq (.drm [(true, ⟨(some 30), .mv (.t 10), none⟩),
     (true, ⟨(some 31), .fa (.t 5) 11, none⟩),
     (true, ⟨(some 32), .ld (.t 31) none, none⟩),
     (true, ⟨(some 34), .mv (.t 10), none⟩),
     (true, ⟨(some 35), .fa (.t 5) 12, none⟩),
     (true, ⟨(some 36), .ld (.t 35) none, none⟩),
     (true, ⟨(some 38), .mv (.t 10), none⟩),
     (true, ⟨(some 39), .fa (.t 5) 13, none⟩),
     (true, ⟨(some 40), .ld (.t 39) none, none⟩),
     (true, ⟨(some 33), .callv (.t 30) [(.t 32)], none⟩),
     (true, ⟨(some 37), .callv (.t 34) [(.t 36)], none⟩),
     (false, ⟨(some 41), .callv (.t 38) [(.t 40)], none⟩),
     (false, ⟨(some 42), .bsl 3 [.i .i64 0, .i .u64 0, .i .i64 0, .i .u64 0, .i .i64 0, .i .u64 0] [(0, 2, (.t 33)), (2, 2, (.t 37)), (4, 2, (.t 41))], none⟩),
     (false, ⟨(some 43), .call 58 [(.t 42)], none⟩),
     (true, ⟨(some 29), .mv (.t 43), none⟩),
     (true, ⟨(some 44), .ext (.t 29) 0, none⟩),
     (true, ⟨(some 45), .ext (.t 29) 1, none⟩),
     (true, ⟨(some 11), .mv (.t 44), none⟩),
     (true, ⟨(some 12), .mv (.t 45), none⟩)])
   (.seq (.seq (.reg [⟨(some 46), .mv (.t 7), none⟩,
      ⟨(some 47), .mv (.t 8), none⟩,
      ⟨(some 48), .mv (.t 11), none⟩,
      ⟨(some 49), .build [.i .u64 0, .i .u64 0, .i .u64 0, .i .u64 0] [(0, 1, (.t 46)), (1, 1, (.t 47)), (2, 1, (.t 48)), (3, 1, (.k (.s (.i .u64 0))))], none⟩,
      ⟨(some 50), .mv (.k (.s (.i .i64 0))), none⟩])
    (.block 0 (.loop (.seq (.reg [⟨(some 51), .bin .lss (.t 50) (.k (.s (.i .i64 4))), none⟩])
      (.seq (.cond (.t 51)
        (.skip)
        (.exit 0))
      (.seq (.block 1 (.seq (.reg [⟨(some 52), .mv (.t 50), none⟩,
          ⟨(some 53), .ix 4 1 none (.t 49) (.t 50), none⟩,
          ⟨(some 13), .mv (.t 52), none⟩,
          ⟨(some 14), .mv (.t 53), none⟩])
        (.reg [⟨(some 54), .mv (.t 0), none⟩,
         ⟨(some 55), .mv (.t 1), none⟩,
         ⟨(some 56), .mv (.t 13), none⟩,
         ⟨(some 57), .bin .add (.t 55) (.t 56), none⟩,
         ⟨(some 58), .mv (.t 14), none⟩,
         ⟨(some 59), .call 72 [(.t 54), (.t 57), (.t 58)], none⟩])))
      (.reg [⟨(some 60), .bin .add (.t 50) (.k (.s (.i .i64 1))), none⟩,
       ⟨(some 50), .mv (.t 60), none⟩])))))))
   (.seq (.reg [⟨(some 6), .mv (.k (.s (.i .i64 0))), none⟩])
   (.ret)))))))), [.t 6]⟩
theorem dc41 : compF Try.prog Try.f41 = some df41 := by kernel_rfl
theorem ok41 : FnOk Try.prog 41 := ⟨Try.f41, Try.func41, by kernel_rfl, by kernel_rfl⟩

/-- (*citadel/mem.Memory).Dump -/
def df42 : DF :=
  ⟨21, .seq (.reg [⟨(some 6), .mv (.k (.s (.ns))), none⟩,
     ⟨(some 7), .mv (.k (.s (.i .i64 0))), none⟩])
   (.seq (.reg [⟨(some 11), .mv (.t 0), none⟩,
     ⟨(some 12), .mv (.t 1), none⟩,
     ⟨(some 13), .mv (.t 2), none⟩,
     ⟨(some 14), .call 69 [(.t 11), (.t 12), (.t 13)], none⟩,
     ⟨(some 10), .mv (.t 14), none⟩,
     ⟨(some 15), .ext (.t 10) 0, none⟩,
     ⟨(some 16), .ext (.t 10) 1, none⟩,
     ⟨(some 8), .mv (.t 15), none⟩,
     ⟨(some 9), .mv (.t 16), none⟩])
   (.seq (.seq (.reg [⟨(some 17), .mv (.t 9), none⟩,
      ⟨(some 18), .un .not (.t 17), none⟩])
    (.cond (.t 18)
     (.seq (.reg [⟨(some 6), .mv (.k (.s (.ns))), none⟩,
        ⟨(some 7), .mv (.k (.s (.i .i64 20))), none⟩])
      (.ret))
     (.skip)))
   (.seq (.reg [⟨(some 19), .mv (.t 8), none⟩,
     ⟨(some 20), .call 73 [(.t 19)], none⟩,
     ⟨(some 6), .mv (.t 20), none⟩,
     ⟨(some 7), .mv (.k (.s (.i .i64 0))), none⟩])
   (.ret)))), [.t 6, .t 7]⟩
theorem dc42 : compF Try.prog Try.f42 = some df42 := by kernel_rfl
theorem ok42 : FnOk Try.prog 42 := ⟨Try.f42, Try.func42, by kernel_rfl, by kernel_rfl⟩

/-- citadel/slots.Get -/
def df43 : DF :=
  ⟨78, .seq (.reg [⟨(some 4), .new [.i .i64 0, .i .i64 0, .i .i64 0, .i .i64 0, .i .i64 0, .i .i64 0, .i .i64 0, .i .i64 0, .i .i64 0, .i .i64 0, .i .i64 0, .i .i64 0, .i .i64 0, .i .i64 0], none⟩,
     ⟨(some 5), .mv (.k (.s (.i .i64 0))), none⟩])
   (.seq (.seq (.reg [⟨(some 13), .mv (.t 0), none⟩,
      ⟨(some 14), .mv (.t 1), none⟩,
      ⟨(some 15), .call 70 [(.t 13), (.t 14)], none⟩,
      ⟨(some 16), .un .not (.t 15), none⟩])
    (.cond (.t 16)
     (.seq (.reg [⟨(some 17), .build [.i .i64 0, .i .i64 0, .i .i64 0, .i .i64 0, .i .i64 0, .i .i64 0, .i .i64 0, .i .i64 0, .i .i64 0, .i .i64 0, .i .i64 0, .i .i64 0, .i .i64 0, .i .i64 0] [], none⟩,
        ⟨none, .st (.t 4) (.t 17) 14, none⟩,
        ⟨(some 5), .mv (.k (.s (.i .i64 20))), none⟩])
      (.ret))
     (.skip)))
   (.seq (.reg [⟨(some 6), .new [.i .u64 0, .i .u64 0, .i .u64 0, .i .u64 0], none⟩])
   (.seq (.seq (.reg [⟨(some 18), .mv (.k (.s (.i .i64 0))), none⟩])
    (.block 0 (.loop (.seq (.reg [⟨(some 19), .bin .lss (.t 18) (.k (.s (.i .i64 4))), none⟩])
      (.seq (.cond (.t 19)
        (.skip)
        (.exit 0))
      (.seq (.block 1 (.seq (.reg [⟨(some 20), .mv (.t 18), none⟩,
          ⟨(some 7), .mv (.t 20), none⟩])
        (.reg [⟨(some 22), .mv (.t 7), none⟩,
         ⟨(some 23), .mv (.t 0), none⟩,
         ⟨(some 24), .mv (.t 1), none⟩,
         ⟨(some 25), .mv (.t 7), none⟩,
         ⟨(some 26), .bin .add (.t 24) (.t 25), none⟩,
         ⟨(some 27), .call 74 [(.t 23), (.t 26)], none⟩,
         ⟨(some 21), .mv (.t 27), none⟩,
         ⟨(some 28), .ext (.t 21) 0, none⟩,
         ⟨(some 29), .ext (.t 21) 1, none⟩,
         ⟨(some 30), .ia (some 4) 1 (.t 6) (.t 22), none⟩,
         ⟨none, .st (.t 30) (.t 28) 1, none⟩])))
      (.reg [⟨(some 31), .bin .add (.t 18) (.k (.s (.i .i64 1))), none⟩,
       ⟨(some 18), .mv (.t 31), none⟩])))))))
   (.seq (.reg [⟨(some 33), .ia (some 4) 1 (.t 6) (.k (.s (.i .i64 0))), none⟩,
     ⟨(some 34), .ld (.t 33) none, none⟩,
     ⟨(some 35), .ia (some 4) 1 (.t 6) (.k (.s (.i .i64 1))), none⟩,
     ⟨(some 36), .ld (.t 35) none, none⟩,
     ⟨(some 37), .call 19 [(.t 34), (.t 36)], none⟩,
     ⟨(some 32), .mv (.t 37), none⟩,
     ⟨(some 38), .ext (.t 32) 0, none⟩,
     ⟨(some 39), .ext (.t 32) 1, none⟩,
     ⟨(some 8), .new [.i .i64 0, .i .i64 0, .i .i64 0, .i .i64 0, .i .i64 0, .i .i64 0, .i .i64 0, .i .i64 0, .i .i64 0, .i .i64 0, .i .i64 0], none⟩,
     ⟨none, .st (.t 8) (.t 38) 11, none⟩,
     ⟨(some 9), .mv (.t 39), none⟩])
   (.seq (.reg [⟨(some 41), .ia (some 4) 1 (.t 6) (.k (.s (.i .i64 2))), none⟩,
     ⟨(some 42), .ld (.t 41) none, none⟩,
     ⟨(some 43), .bsl 3 [.i .i64 0, .i .i64 0, .i .i64 0] [(0, 1, (.k (.s (.i .i64 16)))), (1, 1, (.k (.s (.i .i64 16)))), (2, 1, (.k (.s (.i .i64 16))))], none⟩,
     ⟨(some 44), .call 60 [(.t 42), (.t 43)], none⟩,
     ⟨(some 40), .mv (.t 44), none⟩,
     ⟨(some 45), .ext (.t 40) 0, none⟩,
     ⟨(some 46), .ext (.t 40) 1, none⟩,
     ⟨(some 10), .mv (.t 45), none⟩,
     ⟨(some 11), .mv (.t 46), none⟩])
   (.seq (.seq (.reg [⟨(some 47), .mv (.t 9), none⟩,
      ⟨(some 48), .bin .neq (.t 47) (.k (.s (.i .i64 0))), none⟩,
      ⟨(some 49), .mv (.t 48), none⟩,
      ⟨(some 50), .mv (.t 11), (some (49, false))⟩,
      ⟨(some 51), .bin .neq (.t 50) (.k (.s (.i .i64 0))), (some (49, false))⟩,
      ⟨(some 52), .pick (.t 49) (.k (.s (.b true))) (.t 51), none⟩,
      ⟨(some 53), .mv (.t 52), none⟩,
      ⟨(some 54), .ia (some 4) 1 (.t 6) (.k (.s (.i .i64 3))), (some (53, false))⟩,
      ⟨(some 55), .ld (.t 54) none, (some (53, false))⟩,
      ⟨(some 56), .bin .neq (.t 55) (.k (.s (.i .u64 0))), (some (53, false))⟩,
      ⟨(some 57), .pick (.t 53) (.k (.s (.b true))) (.t 56), none⟩])
    (.cond (.t 57)
     (.seq (.reg [⟨(some 58), .build [.i .i64 0, .i .i64 0, .i .i64 0, .i .i64 0, .i .i64 0, .i .i64 0, .i .i64 0, .i .i64 0, .i .i64 0, .i .i64 0, .i .i64 0, .i .i64 0, .i .i64 0, .i .i64 0] [], none⟩,
        ⟨none, .st (.t 4) (.t 58) 14, none⟩,
        ⟨(some 5), .mv (.k (.s (.i .i64 110))), none⟩])
      (.ret))
     (.skip)))
   (.seq (.drm [(true, ⟨(some 59), .ld (.t 8) (some 11), none⟩),
     (true, ⟨(some 60), .mv (.t 10), none⟩),
     (true, ⟨(some 61), .ia none 1 (.t 60) (.k (.s (.i .i64 0))), none⟩),
     (true, ⟨(some 62), .ld (.t 61) none, none⟩),
     (true, ⟨(some 63), .conv .i64 (.t 62), none⟩),
     (true, ⟨(some 64), .mv (.t 10), none⟩),
     (true, ⟨(some 65), .ia none 1 (.t 64) (.k (.s (.i .i64 1))), none⟩),
     (true, ⟨(some 66), .ld (.t 65) none, none⟩),
     (true, ⟨(some 67), .conv .i64 (.t 66), none⟩),
     (true, ⟨(some 68), .mv (.t 10), none⟩),
     (true, ⟨(some 69), .ia none 1 (.t 68) (.k (.s (.i .i64 2))), none⟩),
     (true, ⟨(some 70), .ld (.t 69) none, none⟩),
     (true, ⟨(some 71), .conv .i64 (.t 70), none⟩),
     (true, ⟨(some 72), .build [.i .i64 0, .i .i64 0, .i .i64 0, .i .i64 0, .i .i64 0, .i .i64 0, .i .i64 0, .i .i64 0, .i .i64 0, .i .i64 0, .i .i64 0, .i .i64 0, .i .i64 0, .i .i64 0] [(0, 11, (.t 59)), (11, 1, (.t 63)), (12, 1, (.t 67)), (13, 1, (.t 71))], none⟩),
     (false, ⟨(some 12), .new [.i .i64 0, .i .i64 0, .i .i64 0, .i .i64 0, .i .i64 0, .i .i64 0, .i .i64 0, .i .i64 0, .i .i64 0, .i .i64 0, .i .i64 0, .i .i64 0, .i .i64 0, .i .i64 0], none⟩),
     (false, ⟨none, .st (.t 12) (.t 72) 14, none⟩)])
   (.seq (.seq (.reg [⟨(some 73), .ld (.t 12) (some 14), none⟩,
      ⟨(some 74), .call 68 [(.t 73)], none⟩,
      ⟨(some 75), .un .not (.t 74), none⟩])
    (.cond (.t 75)
     (.seq (.reg [⟨(some 76), .build [.i .i64 0, .i .i64 0, .i .i64 0, .i .i64 0, .i .i64 0, .i .i64 0, .i .i64 0, .i .i64 0, .i .i64 0, .i .i64 0, .i .i64 0, .i .i64 0, .i .i64 0, .i .i64 0] [], none⟩,
        ⟨none, .st (.t 4) (.t 76) 14, none⟩,
        ⟨(some 5), .mv (.k (.s (.i .i64 110))), none⟩])
      (.ret))
     (.skip)))
   (.seq (.reg [⟨(some 77), .ld (.t 12) (some 14), none⟩,
     ⟨none, .st (.t 4) (.t 77) 14, none⟩,
     ⟨(some 5), .mv (.k (.s (.i .i64 0))), none⟩])
   (.ret)))))))))), [.c 4 (some 14), .t 5]⟩
theorem dc43 : compF Try.prog Try.f43 = some df43 := by kernel_rfl
theorem ok43 : FnOk Try.prog 43 := ⟨Try.f43, Try.func43, by kernel_rfl, by kernel_rfl⟩

/-- citadel/citadelref02.Same -/
def df44 : DF :=
  ⟨26, .seq (.reg [⟨(some 4), .mv (.k (.s (.b false))), none⟩])
   (.seq (.seq (.reg [⟨(some 6), .mv (.t 0), none⟩,
      ⟨(some 7), .len (.t 6), none⟩,
      ⟨(some 8), .mv (.t 1), none⟩,
      ⟨(some 9), .len (.t 8), none⟩,
      ⟨(some 10), .bin .neq (.t 7) (.t 9), none⟩])
    (.cond (.t 10)
     (.seq (.reg [⟨(some 4), .mv (.k (.s (.b false))), none⟩])
      (.ret))
     (.skip)))
   (.seq (.seq (.reg [⟨(some 5), .mv (.k (.s (.i .i64 0))), none⟩])
    (.block 0 (.loop (.seq (.seq (.reg [⟨(some 11), .mv (.t 5), none⟩,
         ⟨(some 12), .mv (.t 0), none⟩,
         ⟨(some 13), .len (.t 12), none⟩,
         ⟨(some 14), .bin .lss (.t 11) (.t 13), none⟩])
       (.cond (.t 14)
        (.skip)
        (.exit 0)))
      (.seq (.block 1 (.seq (.drq [⟨(some 17), .mv (.t 0), none⟩,
          ⟨(some 18), .mv (.t 5), none⟩,
          ⟨(some 19), .ia none 1 (.t 17) (.t 18), none⟩,
          ⟨(some 20), .ld (.t 19) none, none⟩,
          ⟨(some 21), .mv (.t 1), none⟩,
          ⟨(some 22), .mv (.t 5), none⟩,
          ⟨(some 23), .ia none 1 (.t 21) (.t 22), none⟩,
          ⟨(some 24), .ld (.t 23) none, none⟩,
          ⟨(some 25), .bin .neq (.t 20) (.t 24), none⟩])
        (.cond (.t 25)
         (.seq (.reg [⟨(some 4), .mv (.k (.s (.b false))), none⟩])
          (.ret))
         (.skip))))
      (.reg [⟨(some 15), .mv (.t 5), none⟩,
       ⟨(some 16), .bin .add (.t 15) (.k (.s (.i .i64 1))), none⟩,
       ⟨(some 5), .mv (.t 16), none⟩]))))))
   (.seq (.reg [⟨(some 4), .mv (.k (.s (.b true))), none⟩])
   (.ret)))), [.t 4]⟩
theorem dc44 : compF Try.prog Try.f44 = some df44 := by kernel_rfl
theorem ok44 : FnOk Try.prog 44 := ⟨Try.f44, Try.func44, by kernel_rfl, by kernel_rfl⟩

/-- citadel/citadellaw07.made -/
def df45 : DF :=
  ⟨35, .seq (.reg [⟨(some 2), .mv (.k (.s (.np))), none⟩])
   (.seq (.reg [⟨(some 8), .mv (.t 0), none⟩,
     ⟨(some 9), .call 39 [(.t 8)], none⟩,
     ⟨(some 7), .mv (.t 9), none⟩,
     ⟨(some 10), .ext (.t 7) 0, none⟩,
     ⟨(some 11), .ext (.t 7) 1, none⟩,
     ⟨(some 3), .mv (.t 10), none⟩,
     ⟨(some 4), .mv (.t 11), none⟩])
   (.seq (.reg [⟨(some 13), .mv (.t 0), none⟩,
     ⟨(some 14), .call 75 [(.t 13)], none⟩,
     ⟨(some 12), .mv (.t 14), none⟩,
     ⟨(some 15), .ext (.t 12) 0, none⟩,
     ⟨(some 16), .ext (.t 12) 1, none⟩,
     ⟨(some 5), .mv (.t 15), none⟩,
     ⟨(some 6), .mv (.t 16), none⟩])
   (.seq (.seq (.reg [⟨(some 17), .mv (.t 3), none⟩,
      ⟨(some 18), .eqn false false (.t 17), none⟩,
      ⟨(some 19), .mv (.t 18), none⟩,
      ⟨(some 20), .mv (.t 5), (some (19, false))⟩,
      ⟨(some 21), .eqn false false (.t 20), (some (19, false))⟩,
      ⟨(some 22), .pick (.t 19) (.k (.s (.b true))) (.t 21), none⟩,
      ⟨(some 23), .mv (.t 22), none⟩,
      ⟨(some 24), .mv (.t 4), (some (23, false))⟩,
      ⟨(some 25), .bin .neq (.t 24) (.k (.s (.i .i64 0))), (some (23, false))⟩,
      ⟨(some 26), .pick (.t 23) (.k (.s (.b true))) (.t 25), none⟩,
      ⟨(some 27), .mv (.t 26), none⟩,
      ⟨(some 28), .mv (.t 6), (some (27, false))⟩,
      ⟨(some 29), .bin .neq (.t 28) (.k (.s (.i .i64 0))), (some (27, false))⟩,
      ⟨(some 30), .pick (.t 27) (.k (.s (.b true))) (.t 29), none⟩])
    (.cond (.t 30)
     (.seq (.reg [⟨(some 2), .mv (.k (.s (.np))), none⟩])
      (.ret))
     (.skip)))
   (.seq (.reg [⟨(some 31), .mv (.t 3), none⟩,
     ⟨(some 32), .mv (.t 5), none⟩,
     ⟨(some 33), .build [.np, .np] [(0, 1, (.t 31)), (1, 1, (.t 32))], none⟩,
     ⟨(some 34), .box (.t 33), none⟩,
     ⟨(some 2), .mv (.t 34), none⟩])
   (.ret))))), [.t 2]⟩
theorem dc45 : compF Try.prog Try.f45 = some df45 := by kernel_rfl
theorem ok45 : FnOk Try.prog 45 := ⟨Try.f45, Try.func45, by kernel_rfl, by kernel_rfl⟩

/-- (*citadel/citadellaw07.both).plays -/
def df46 : DF :=
  ⟨106, .seq (.reg [⟨(some 3), .box (.t 1), none⟩,
     ⟨(some 4), .mv (.k (.s (.b false))), none⟩])
   (.seq (.seq (.reg [⟨(some 13), .fa (.t 3) 1, none⟩,
      ⟨(some 14), .ld (.t 13) none, none⟩])
    (.cond (.t 14)
     (.seq (.drm [(true, ⟨(some 15), .mv (.t 0), none⟩),
        (true, ⟨(some 16), .nil (.t 15), none⟩),
        (true, ⟨(some 17), .fa (.t 16) 0, none⟩),
        (true, ⟨(some 18), .ld (.t 17) none, none⟩),
        (true, ⟨(some 19), .fa (.t 3) 0, none⟩),
        (true, ⟨(some 20), .ld (.t 19) none, none⟩),
        (true, ⟨(some 21), .fa (.t 3) 2, none⟩),
        (true, ⟨(some 22), .ia (some 4) 1 (.t 21) (.k (.s (.i .i64 0))), none⟩),
        (true, ⟨(some 23), .ld (.t 22) none, none⟩),
        (true, ⟨(some 24), .fa (.t 3) 2, none⟩),
        (true, ⟨(some 25), .ia (some 4) 1 (.t 24) (.k (.s (.i .i64 1))), none⟩),
        (true, ⟨(some 26), .ld (.t 25) none, none⟩),
        (true, ⟨(some 27), .fa (.t 3) 2, none⟩),
        (true, ⟨(some 28), .ia (some 4) 1 (.t 27) (.k (.s (.i .i64 2))), none⟩),
        (true, ⟨(some 29), .ld (.t 28) none, none⟩),
        (true, ⟨(some 30), .fa (.t 3) 2, none⟩),
        (true, ⟨(some 31), .ia (some 4) 1 (.t 30) (.k (.s (.i .i64 3))), none⟩),
        (true, ⟨(some 32), .ld (.t 31) none, none⟩),
        (false, ⟨(some 33), .bsl 4 [.i .u64 0, .i .u64 0, .i .u64 0, .i .u64 0] [(0, 1, (.t 23)), (1, 1, (.t 26)), (2, 1, (.t 29)), (3, 1, (.t 32))], none⟩),
        (false, ⟨(some 34), .call 76 [(.t 18), (.t 20), (.t 33)], none⟩),
        (true, ⟨(some 5), .mv (.t 34), none⟩)])
      (.seq (.drm [(true, ⟨(some 35), .mv (.t 0), none⟩),
        (true, ⟨(some 36), .nil (.t 35), none⟩),
        (true, ⟨(some 37), .fa (.t 36) 1, none⟩),
        (true, ⟨(some 38), .ld (.t 37) none, none⟩),
        (true, ⟨(some 39), .fa (.t 3) 0, none⟩),
        (true, ⟨(some 40), .ld (.t 39) none, none⟩),
        (true, ⟨(some 41), .fa (.t 3) 2, none⟩),
        (true, ⟨(some 42), .ia (some 4) 1 (.t 41) (.k (.s (.i .i64 0))), none⟩),
        (true, ⟨(some 43), .ld (.t 42) none, none⟩),
        (true, ⟨(some 44), .fa (.t 3) 2, none⟩),
        (true, ⟨(some 45), .ia (some 4) 1 (.t 44) (.k (.s (.i .i64 1))), none⟩),
        (true, ⟨(some 46), .ld (.t 45) none, none⟩),
        (true, ⟨(some 47), .fa (.t 3) 2, none⟩),
        (true, ⟨(some 48), .ia (some 4) 1 (.t 47) (.k (.s (.i .i64 2))), none⟩),
        (true, ⟨(some 49), .ld (.t 48) none, none⟩),
        (true, ⟨(some 50), .fa (.t 3) 2, none⟩),
        (true, ⟨(some 51), .ia (some 4) 1 (.t 50) (.k (.s (.i .i64 3))), none⟩),
        (true, ⟨(some 52), .ld (.t 51) none, none⟩),
        (false, ⟨(some 53), .bsl 4 [.i .u64 0, .i .u64 0, .i .u64 0, .i .u64 0] [(0, 1, (.t 43)), (1, 1, (.t 46)), (2, 1, (.t 49)), (3, 1, (.t 52))], none⟩),
        (false, ⟨(some 54), .call 77 [(.t 38), (.t 40), (.t 53)], none⟩),
        (true, ⟨(some 6), .mv (.t 54), none⟩)])
      (.seq (.reg [⟨(some 55), .mv (.t 5), none⟩,
        ⟨(some 56), .mv (.t 6), none⟩,
        ⟨(some 57), .bin .eql (.t 55) (.t 56), none⟩,
        ⟨(some 4), .mv (.t 57), none⟩])
      (.ret))))
     (.skip)))
   (.seq (.reg [⟨(some 58), .mv (.t 0), none⟩,
     ⟨(some 59), .nil (.t 58), none⟩,
     ⟨(some 60), .fa (.t 59) 0, none⟩,
     ⟨(some 61), .ld (.t 60) none, none⟩,
     ⟨(some 62), .call 78 [(.t 61)], none⟩,
     ⟨(some 7), .mv (.t 62), none⟩])
   (.seq (.reg [⟨(some 63), .fa (.t 3) 6, none⟩,
     ⟨(some 64), .ld (.t 63) (some 14), none⟩,
     ⟨(some 65), .call 68 [(.t 64)], none⟩,
     ⟨(some 8), .mv (.t 65), none⟩])
   (.seq (.reg [⟨(some 66), .fa (.t 3) 6, none⟩,
     ⟨(some 67), .ld (.t 66) (some 14), none⟩,
     ⟨(some 68), .call 79 [(.t 67)], none⟩,
     ⟨(some 9), .mv (.t 68), none⟩])
   (.seq (.drt 8 [⟨(some 69), .mv (.t 0), none⟩,
     ⟨(some 70), .nil (.t 69), none⟩,
     ⟨(some 71), .fa (.t 70) 0, none⟩,
     ⟨(some 72), .ld (.t 71) none, none⟩,
     ⟨(some 73), .fa (.t 3) 0, none⟩,
     ⟨(some 74), .ld (.t 73) none, none⟩,
     ⟨(some 75), .fa (.t 3) 6, none⟩,
     ⟨(some 76), .ld (.t 75) (some 14), none⟩,
     ⟨(some 77), .call 41 [(.t 72), (.t 74), (.t 76)], none⟩,
     ⟨(some 10), .mv (.t 77), none⟩])
   (.seq (.drt 8 [⟨(some 78), .mv (.t 0), none⟩,
     ⟨(some 79), .nil (.t 78), none⟩,
     ⟨(some 80), .fa (.t 79) 1, none⟩,
     ⟨(some 81), .ld (.t 80) none, none⟩,
     ⟨(some 82), .fa (.t 3) 0, none⟩,
     ⟨(some 83), .ld (.t 82) none, none⟩,
     ⟨(some 84), .fa (.t 3) 6, none⟩,
     ⟨(some 85), .ld (.t 84) (some 14), none⟩,
     ⟨(some 86), .call 80 [(.t 81), (.t 83), (.t 85)], none⟩,
     ⟨(some 11), .mv (.t 86), none⟩])
   (.seq (.reg [⟨(some 87), .mv (.t 0), none⟩,
     ⟨(some 88), .nil (.t 87), none⟩,
     ⟨(some 89), .fa (.t 88) 0, none⟩,
     ⟨(some 90), .ld (.t 89) none, none⟩,
     ⟨(some 91), .call 78 [(.t 90)], none⟩,
     ⟨(some 12), .mv (.t 91), none⟩])
   (.seq (.reg [⟨(some 92), .mv (.t 8), none⟩,
     ⟨(some 93), .mv (.t 9), none⟩,
     ⟨(some 94), .eqb false (.t 92) (.t 93), none⟩,
     ⟨(some 95), .mv (.t 94), none⟩,
     ⟨(some 96), .mv (.t 10), (some (95, true))⟩,
     ⟨(some 97), .mv (.t 11), (some (95, true))⟩,
     ⟨(some 98), .bin .eql (.t 96) (.t 97), (some (95, true))⟩,
     ⟨(some 99), .pick (.t 95) (.t 98) (.k (.s (.b false))), none⟩,
     ⟨(some 100), .mv (.t 99), none⟩,
     ⟨(some 101), .mv (.t 12), (some (100, true))⟩,
     ⟨(some 102), .mv (.t 7), (some (100, true))⟩,
     ⟨(some 103), .bin .sub (.t 101) (.t 102), (some (100, true))⟩,
     ⟨(some 104), .bin .leq (.t 103) (.k (.s (.i .i64 4))), (some (100, true))⟩,
     ⟨(some 105), .pick (.t 100) (.t 104) (.k (.s (.b false))), none⟩,
     ⟨(some 4), .mv (.t 105), none⟩])
   (.ret))))))))), [.t 4]⟩
theorem dc46 : compF Try.prog Try.f46 = some df46 := by kernel_rfl
theorem ok46 : FnOk Try.prog 46 := ⟨Try.f46, Try.func46, by kernel_rfl, by kernel_rfl⟩

/-- (*citadel/citadellaw07.both).asks -/
def df47 : DF :=
  ⟨97, .seq (.reg [⟨(some 4), .mv (.k (.s (.b false))), none⟩])
   (.seq (.reg [⟨(some 16), .mv (.t 0), none⟩,
     ⟨(some 17), .nil (.t 16), none⟩,
     ⟨(some 18), .fa (.t 17) 0, none⟩,
     ⟨(some 19), .ld (.t 18) none, none⟩,
     ⟨(some 20), .call 78 [(.t 19)], none⟩,
     ⟨(some 5), .mv (.t 20), none⟩])
   (.seq (.reg [⟨(some 22), .mv (.t 0), none⟩,
     ⟨(some 23), .nil (.t 22), none⟩,
     ⟨(some 24), .fa (.t 23) 0, none⟩,
     ⟨(some 25), .ld (.t 24) none, none⟩,
     ⟨(some 26), .mv (.t 1), none⟩,
     ⟨(some 27), .call 43 [(.t 25), (.t 26)], none⟩,
     ⟨(some 21), .mv (.t 27), none⟩,
     ⟨(some 28), .ext (.t 21) 0, none⟩,
     ⟨(some 29), .ext (.t 21) 1, none⟩,
     ⟨(some 6), .new [.i .i64 0, .i .i64 0, .i .i64 0, .i .i64 0, .i .i64 0, .i .i64 0, .i .i64 0, .i .i64 0, .i .i64 0, .i .i64 0, .i .i64 0, .i .i64 0, .i .i64 0, .i .i64 0], none⟩,
     ⟨none, .st (.t 6) (.t 28) 14, none⟩,
     ⟨(some 7), .mv (.t 29), none⟩])
   (.seq (.reg [⟨(some 30), .mv (.t 0), none⟩,
     ⟨(some 31), .nil (.t 30), none⟩,
     ⟨(some 32), .fa (.t 31) 0, none⟩,
     ⟨(some 33), .ld (.t 32) none, none⟩,
     ⟨(some 34), .call 78 [(.t 33)], none⟩,
     ⟨(some 8), .mv (.t 34), none⟩])
   (.seq (.reg [⟨(some 36), .mv (.t 0), none⟩,
     ⟨(some 37), .nil (.t 36), none⟩,
     ⟨(some 38), .fa (.t 37) 0, none⟩,
     ⟨(some 39), .ld (.t 38) none, none⟩,
     ⟨(some 40), .mv (.t 1), none⟩,
     ⟨(some 41), .call 67 [(.t 39), (.t 40)], none⟩,
     ⟨(some 35), .mv (.t 41), none⟩,
     ⟨(some 42), .ext (.t 35) 0, none⟩,
     ⟨(some 43), .ext (.t 35) 1, none⟩,
     ⟨(some 9), .mv (.t 42), none⟩,
     ⟨(some 10), .mv (.t 43), none⟩])
   (.seq (.reg [⟨(some 44), .mv (.t 0), none⟩,
     ⟨(some 45), .nil (.t 44), none⟩,
     ⟨(some 46), .fa (.t 45) 0, none⟩,
     ⟨(some 47), .ld (.t 46) none, none⟩,
     ⟨(some 48), .call 78 [(.t 47)], none⟩,
     ⟨(some 11), .mv (.t 48), none⟩])
   (.seq (.reg [⟨(some 50), .mv (.t 0), none⟩,
     ⟨(some 51), .nil (.t 50), none⟩,
     ⟨(some 52), .fa (.t 51) 1, none⟩,
     ⟨(some 53), .ld (.t 52) none, none⟩,
     ⟨(some 54), .mv (.t 1), none⟩,
     ⟨(some 55), .call 81 [(.t 53), (.t 54)], none⟩,
     ⟨(some 49), .mv (.t 55), none⟩,
     ⟨(some 56), .ext (.t 49) 0, none⟩,
     ⟨(some 57), .ext (.t 49) 1, none⟩,
     ⟨(some 12), .new [.i .i64 0, .i .i64 0, .i .i64 0, .i .i64 0, .i .i64 0, .i .i64 0, .i .i64 0, .i .i64 0, .i .i64 0, .i .i64 0, .i .i64 0, .i .i64 0, .i .i64 0, .i .i64 0], none⟩,
     ⟨none, .st (.t 12) (.t 56) 14, none⟩,
     ⟨(some 13), .mv (.t 57), none⟩])
   (.seq (.reg [⟨(some 59), .mv (.t 0), none⟩,
     ⟨(some 60), .nil (.t 59), none⟩,
     ⟨(some 61), .fa (.t 60) 1, none⟩,
     ⟨(some 62), .ld (.t 61) none, none⟩,
     ⟨(some 63), .mv (.t 1), none⟩,
     ⟨(some 64), .call 82 [(.t 62), (.t 63)], none⟩,
     ⟨(some 58), .mv (.t 64), none⟩,
     ⟨(some 65), .ext (.t 58) 0, none⟩,
     ⟨(some 66), .ext (.t 58) 1, none⟩,
     ⟨(some 14), .mv (.t 65), none⟩,
     ⟨(some 15), .mv (.t 66), none⟩])
   (.seq (.reg [⟨(some 67), .ld (.t 6) (some 14), none⟩,
     ⟨(some 68), .ld (.t 12) (some 14), none⟩,
     ⟨(some 69), .eqa false [true, true, true, true, true, true, true, true, true, true, true, true, true, true] (.t 67) (.t 68), none⟩,
     ⟨(some 70), .mv (.t 69), none⟩,
     ⟨(some 71), .mv (.t 7), (some (70, true))⟩,
     ⟨(some 72), .mv (.t 13), (some (70, true))⟩,
     ⟨(some 73), .bin .eql (.t 71) (.t 72), (some (70, true))⟩,
     ⟨(some 74), .pick (.t 70) (.t 73) (.k (.s (.b false))), none⟩,
     ⟨(some 75), .mv (.t 74), none⟩,
     ⟨(some 76), .mv (.t 9), (some (75, true))⟩,
     ⟨(some 77), .mv (.t 14), (some (75, true))⟩,
     ⟨(some 78), .eqb false (.t 76) (.t 77), (some (75, true))⟩,
     ⟨(some 79), .pick (.t 75) (.t 78) (.k (.s (.b false))), none⟩,
     ⟨(some 80), .mv (.t 79), none⟩,
     ⟨(some 81), .mv (.t 10), (some (80, true))⟩,
     ⟨(some 82), .mv (.t 15), (some (80, true))⟩,
     ⟨(some 83), .bin .eql (.t 81) (.t 82), (some (80, true))⟩,
     ⟨(some 84), .pick (.t 80) (.t 83) (.k (.s (.b false))), none⟩,
     ⟨(some 85), .mv (.t 84), none⟩,
     ⟨(some 86), .mv (.t 8), (some (85, true))⟩,
     ⟨(some 87), .mv (.t 5), (some (85, true))⟩,
     ⟨(some 88), .bin .sub (.t 86) (.t 87), (some (85, true))⟩,
     ⟨(some 89), .bin .leq (.t 88) (.k (.s (.i .i64 4))), (some (85, true))⟩,
     ⟨(some 90), .pick (.t 85) (.t 89) (.k (.s (.b false))), none⟩,
     ⟨(some 91), .mv (.t 90), none⟩,
     ⟨(some 92), .mv (.t 11), (some (91, true))⟩,
     ⟨(some 93), .mv (.t 8), (some (91, true))⟩,
     ⟨(some 94), .bin .sub (.t 92) (.t 93), (some (91, true))⟩,
     ⟨(some 95), .bin .leq (.t 94) (.k (.s (.i .i64 4))), (some (91, true))⟩,
     ⟨(some 96), .pick (.t 91) (.t 95) (.k (.s (.b false))), none⟩,
     ⟨(some 4), .mv (.t 96), none⟩])
   (.ret))))))))), [.t 4]⟩
theorem dc47 : compF Try.prog Try.f47 = some df47 := by kernel_rfl
theorem ok47 : FnOk Try.prog 47 := ⟨Try.f47, Try.func47, by kernel_rfl, by kernel_rfl⟩

/-- (*citadel/citadellaw07.both).alike -/
def df48 : DF :=
  ⟨36, .seq (.reg [⟨(some 2), .mv (.k (.s (.b false))), none⟩])
   (.seq (.drm [(true, ⟨(some 7), .mv (.t 0), none⟩),
     (true, ⟨(some 8), .nil (.t 7), none⟩),
     (true, ⟨(some 9), .fa (.t 8) 0, none⟩),
     (true, ⟨(some 10), .ld (.t 9) none, none⟩),
     (true, ⟨(some 11), .mv (.t 0), none⟩),
     (true, ⟨(some 12), .nil (.t 11), none⟩),
     (true, ⟨(some 13), .fa (.t 12) 1, none⟩),
     (true, ⟨(some 14), .ld (.t 13) none, none⟩),
     (true, ⟨(some 15), .nil (.t 14), none⟩),
     (true, ⟨(some 16), .fa (.t 15) 0, none⟩),
     (true, ⟨(some 17), .ld (.t 16) none, none⟩),
     (true, ⟨(some 18), .len (.t 17), none⟩),
     (false, ⟨(some 19), .call 42 [(.t 10), (.k (.s (.i .i64 0))), (.t 18)], none⟩),
     (true, ⟨(some 6), .mv (.t 19), none⟩),
     (true, ⟨(some 20), .ext (.t 6) 0, none⟩),
     (true, ⟨(some 21), .ext (.t 6) 1, none⟩),
     (true, ⟨(some 3), .mv (.t 20), none⟩),
     (true, ⟨(some 4), .mv (.t 21), none⟩)])
   (.seq (.reg [⟨(some 22), .mv (.t 3), none⟩,
     ⟨(some 23), .mv (.t 0), none⟩,
     ⟨(some 24), .nil (.t 23), none⟩,
     ⟨(some 25), .fa (.t 24) 1, none⟩,
     ⟨(some 26), .ld (.t 25) none, none⟩,
     ⟨(some 27), .nil (.t 26), none⟩,
     ⟨(some 28), .fa (.t 27) 0, none⟩,
     ⟨(some 29), .ld (.t 28) none, none⟩,
     ⟨(some 30), .call 44 [(.t 22), (.t 29)], none⟩,
     ⟨(some 5), .mv (.t 30), none⟩])
   (.seq (.reg [⟨(some 31), .mv (.t 4), none⟩,
     ⟨(some 32), .bin .eql (.t 31) (.k (.s (.i .i64 0))), none⟩,
     ⟨(some 33), .mv (.t 32), none⟩,
     ⟨(some 34), .mv (.t 5), (some (33, true))⟩,
     ⟨(some 35), .pick (.t 33) (.t 34) (.k (.s (.b false))), none⟩,
     ⟨(some 2), .mv (.t 35), none⟩])
   (.ret)))), [.t 2]⟩
theorem dc48 : compF Try.prog Try.f48 = some df48 := by kernel_rfl
theorem ok48 : FnOk Try.prog 48 := ⟨Try.f48, Try.func48, by kernel_rfl, by kernel_rfl⟩

/-- citadel/caps.sizes -/
def df49 : DF :=
  ⟨54, .seq (.reg [⟨(some 1), .box (.t 0), none⟩,
     ⟨(some 2), .mv (.k (.s (.i .i64 0))), none⟩,
     ⟨(some 3), .mv (.k (.s (.b false))), none⟩])
   (.seq (.reg [⟨(some 4), .mv (.k (.s (.fn 83 []))), none⟩])
   (.seq (.seq (.reg [⟨(some 5), .fa (.t 1) 0, none⟩,
      ⟨(some 6), .ld (.t 5) none, none⟩])
    (.block 0 (.seq (.reg [⟨(some 8), .bin .eql (.t 6) (.k (.s (.i .i64 1))), none⟩,
       ⟨(some 7), .mv (.t 8), none⟩])
     (.cond (.t 7)
      (.seq (.drq [⟨(some 9), .fa (.t 1) 2, none⟩,
         ⟨(some 10), .ld (.t 9) none, none⟩,
         ⟨(some 11), .bin .and (.t 10) (.k (.s (.i .i64 31))), none⟩,
         ⟨(some 12), .mx true (.t 11) (.k (.s (.i .i64 0))), none⟩,
         ⟨(some 13), .bin .shl (.k (.s (.i .i64 1))) (.t 12), none⟩,
         ⟨(some 14), .fa (.t 1) 2, none⟩,
         ⟨(some 15), .ld (.t 14) none, none⟩,
         ⟨(some 16), .bin .geq (.t 15) (.k (.s (.i .i64 4))), none⟩,
         ⟨(some 17), .mv (.t 16), none⟩,
         ⟨(some 18), .fa (.t 1) 2, (some (17, true))⟩,
         ⟨(some 19), .ld (.t 18) none, (some (17, true))⟩,
         ⟨(some 20), .bin .leq (.t 19) (.k (.s (.i .i64 15))), (some (17, true))⟩,
         ⟨(some 21), .pick (.t 17) (.t 20) (.k (.s (.b false))), none⟩,
         ⟨(some 2), .mv (.t 13), none⟩,
         ⟨(some 3), .mv (.t 21), none⟩])
       (.ret))
      (.seq (.reg [⟨(some 23), .bin .eql (.t 6) (.k (.s (.i .i64 2))), none⟩,
         ⟨(some 22), .mv (.t 23), none⟩])
       (.cond (.t 22)
        (.seq (.reg [⟨(some 24), .mv (.t 4), none⟩,
           ⟨(some 25), .fa (.t 1) 2, none⟩,
           ⟨(some 26), .ld (.t 25) none, none⟩,
           ⟨(some 27), .mx false (.t 26) (.k (.s (.i .i64 9))), none⟩,
           ⟨(some 28), .callv (.t 24) [(.t 27)], none⟩,
           ⟨(some 29), .ext (.t 28) 0, none⟩,
           ⟨(some 30), .ext (.t 28) 1, none⟩,
           ⟨(some 2), .mv (.t 29), none⟩,
           ⟨(some 3), .mv (.t 30), none⟩])
         (.ret))
        (.seq (.reg [⟨(some 32), .bin .eql (.t 6) (.k (.s (.i .i64 10))), none⟩,
           ⟨(some 31), .mv (.t 32), none⟩])
         (.cond (.t 31)
          (.seq (.seq (.reg [⟨(some 33), .fa (.t 1) 2, none⟩,
              ⟨(some 34), .ld (.t 33) none, none⟩,
              ⟨(some 35), .bin .eql (.t 34) (.k (.s (.i .i64 31))), none⟩])
            (.cond (.t 35)
             (.seq (.reg [⟨(some 2), .mv (.k (.s (.i .i64 64))), none⟩,
                ⟨(some 3), .mv (.k (.s (.b true))), none⟩])
              (.ret))
             (.skip)))
           (.seq (.reg [⟨(some 36), .mv (.t 4), none⟩,
             ⟨(some 37), .fa (.t 1) 2, none⟩,
             ⟨(some 38), .ld (.t 37) none, none⟩,
             ⟨(some 39), .mx false (.t 38) (.k (.s (.i .i64 9))), none⟩,
             ⟨(some 40), .callv (.t 36) [(.t 39)], none⟩,
             ⟨(some 41), .ext (.t 40) 0, none⟩,
             ⟨(some 42), .ext (.t 40) 1, none⟩,
             ⟨(some 2), .mv (.t 41), none⟩,
             ⟨(some 3), .mv (.t 42), none⟩])
           (.ret)))
          (.seq (.seq (.reg [⟨(some 44), .bin .eql (.t 6) (.k (.s (.i .i64 3))), none⟩,
              ⟨(some 43), .mv (.t 44), none⟩])
            (.cond (.t 43)
             (.skip)
             (.reg [⟨(some 45), .bin .eql (.t 6) (.k (.s (.i .i64 9))), none⟩,
               ⟨(some 43), .mv (.t 45), none⟩])))
           (.cond (.t 43)
            (.seq (.reg [⟨(some 2), .mv (.k (.s (.i .i64 64))), none⟩,
               ⟨(some 3), .mv (.k (.s (.b true))), none⟩])
             (.ret))
            (.seq (.reg [⟨(some 47), .bin .eql (.t 6) (.k (.s (.i .i64 4))), none⟩,
               ⟨(some 46), .mv (.t 47), none⟩])
             (.cond (.t 46)
              (.seq (.reg [⟨(some 2), .mv (.k (.s (.i .i64 4))), none⟩,
                 ⟨(some 3), .mv (.k (.s (.b true))), none⟩])
               (.ret))
              (.seq (.seq (.reg [⟨(some 49), .bin .eql (.t 6) (.k (.s (.i .i64 5))), none⟩,
                  ⟨(some 48), .mv (.t 49), none⟩])
                (.cond (.t 48)
                 (.skip)
                 (.seq (.reg [⟨(some 50), .bin .eql (.t 6) (.k (.s (.i .i64 6))), none⟩,
                    ⟨(some 48), .mv (.t 50), none⟩])
                  (.cond (.t 48)
                   (.skip)
                   (.reg [⟨(some 51), .bin .eql (.t 6) (.k (.s (.i .i64 7))), none⟩,
                     ⟨(some 48), .mv (.t 51), none⟩])))))
               (.cond (.t 48)
                (.seq (.reg [⟨(some 2), .mv (.k (.s (.i .i64 8))), none⟩,
                   ⟨(some 3), .mv (.k (.s (.b true))), none⟩])
                 (.ret))
                (.seq (.reg [⟨(some 53), .bin .eql (.t 6) (.k (.s (.i .i64 8))), none⟩,
                   ⟨(some 52), .mv (.t 53), none⟩])
                 (.cond (.t 52)
                  (.seq (.reg [⟨(some 2), .mv (.k (.s (.i .i64 16))), none⟩,
                     ⟨(some 3), .mv (.k (.s (.b true))), none⟩])
                   (.ret))
                  (.skip)))))))))))))))))
   (.seq (.reg [⟨(some 2), .mv (.k (.s (.i .i64 0))), none⟩,
     ⟨(some 3), .mv (.k (.s (.b true))), none⟩])
   (.ret)))), [.t 2, .t 3]⟩
theorem dc49 : compF Try.prog Try.f49 = some df49 := by kernel_rfl
theorem ok49 : FnOk Try.prog 49 := ⟨Try.f49, Try.func49, by kernel_rfl, by kernel_rfl⟩

/-- citadel/caps.bare -/
def df50 : DF :=
  ⟨46, .seq (.reg [⟨(some 1), .box (.t 0), none⟩,
     ⟨(some 2), .new [.i .i64 0, .i .i64 0, .i .i64 0, .i .i64 0, .i .i64 0, .i .i64 0, .i .i64 0, .i .i64 0, .i .i64 0, .i .i64 0, .i .i64 0], none⟩])
   (.seq (.seq (.reg [⟨(some 3), .fa (.t 1) 0, none⟩,
      ⟨(some 4), .ld (.t 3) none, none⟩])
    (.block 0 (.seq (.seq (.reg [⟨(some 6), .bin .eql (.t 4) (.k (.s (.i .i64 1))), none⟩,
        ⟨(some 5), .mv (.t 6), none⟩])
      (.cond (.t 5)
       (.skip)
       (.reg [⟨(some 7), .bin .eql (.t 4) (.k (.s (.i .i64 10))), none⟩,
         ⟨(some 5), .mv (.t 7), none⟩])))
     (.cond (.t 5)
      (.reg [⟨(some 8), .fa (.t 1) 1, none⟩,
        ⟨none, .st (.t 8) (.k (.s (.i .i64 0))) 1, none⟩,
        ⟨(some 9), .fa (.t 1) 2, none⟩,
        ⟨none, .st (.t 9) (.k (.s (.i .i64 0))) 1, none⟩,
        ⟨(some 10), .fa (.t 1) 3, none⟩,
        ⟨none, .st (.t 10) (.k (.s (.i .i64 0))) 1, none⟩])
      (.seq (.reg [⟨(some 12), .bin .eql (.t 4) (.k (.s (.i .i64 2))), none⟩,
         ⟨(some 11), .mv (.t 12), none⟩])
       (.cond (.t 11)
        (.reg [⟨(some 13), .fa (.t 1) 1, none⟩,
          ⟨none, .st (.t 13) (.k (.s (.i .i64 0))) 1, none⟩,
          ⟨(some 14), .fa (.t 1) 2, none⟩,
          ⟨none, .st (.t 14) (.k (.s (.i .i64 0))) 1, none⟩,
          ⟨(some 15), .fa (.t 1) 4, none⟩,
          ⟨none, .st (.t 15) (.k (.s (.i .i64 0))) 1, none⟩,
          ⟨(some 16), .fa (.t 1) 5, none⟩,
          ⟨none, .st (.t 16) (.k (.s (.i .i64 0))) 1, none⟩])
        (.seq (.seq (.reg [⟨(some 18), .bin .eql (.t 4) (.k (.s (.i .i64 3))), none⟩,
            ⟨(some 17), .mv (.t 18), none⟩])
          (.cond (.t 17)
           (.skip)
           (.reg [⟨(some 19), .bin .eql (.t 4) (.k (.s (.i .i64 9))), none⟩,
             ⟨(some 17), .mv (.t 19), none⟩])))
         (.cond (.t 17)
          (.reg [⟨(some 20), .fa (.t 1) 1, none⟩,
            ⟨none, .st (.t 20) (.k (.s (.i .i64 0))) 1, none⟩])
          (.seq (.seq (.reg [⟨(some 22), .bin .eql (.t 4) (.k (.s (.i .i64 4))), none⟩,
              ⟨(some 21), .mv (.t 22), none⟩])
            (.cond (.t 21)
             (.skip)
             (.reg [⟨(some 23), .bin .eql (.t 4) (.k (.s (.i .i64 5))), none⟩,
               ⟨(some 21), .mv (.t 23), none⟩])))
           (.cond (.t 21)
            (.reg [⟨(some 24), .fa (.t 1) 1, none⟩,
              ⟨none, .st (.t 24) (.k (.s (.i .i64 0))) 1, none⟩,
              ⟨(some 25), .fa (.t 1) 7, none⟩,
              ⟨none, .st (.t 25) (.k (.s (.i .i64 0))) 1, none⟩,
              ⟨(some 26), .fa (.t 1) 6, none⟩,
              ⟨none, .st (.t 26) (.k (.s (.i .i64 0))) 1, none⟩])
            (.seq (.reg [⟨(some 28), .bin .eql (.t 4) (.k (.s (.i .i64 6))), none⟩,
               ⟨(some 27), .mv (.t 28), none⟩])
             (.cond (.t 27)
              (.reg [⟨(some 29), .fa (.t 1) 1, none⟩,
                ⟨none, .st (.t 29) (.k (.s (.i .i64 0))) 1, none⟩,
                ⟨(some 30), .fa (.t 1) 8, none⟩,
                ⟨none, .st (.t 30) (.k (.s (.i .i64 0))) 1, none⟩,
                ⟨(some 31), .fa (.t 1) 9, none⟩,
                ⟨none, .st (.t 31) (.k (.s (.i .i64 0))) 1, none⟩])
              (.seq (.reg [⟨(some 33), .bin .eql (.t 4) (.k (.s (.i .i64 7))), none⟩,
                 ⟨(some 32), .mv (.t 33), none⟩])
               (.cond (.t 32)
                (.reg [⟨(some 34), .fa (.t 1) 1, none⟩,
                  ⟨none, .st (.t 34) (.k (.s (.i .i64 0))) 1, none⟩,
                  ⟨(some 35), .fa (.t 1) 8, none⟩,
                  ⟨none, .st (.t 35) (.k (.s (.i .i64 0))) 1, none⟩])
                (.seq (.reg [⟨(some 37), .bin .eql (.t 4) (.k (.s (.i .i64 8))), none⟩,
                   ⟨(some 36), .mv (.t 37), none⟩])
                 (.cond (.t 36)
                  (.reg [⟨(some 38), .fa (.t 1) 1, none⟩,
                    ⟨none, .st (.t 38) (.k (.s (.i .i64 0))) 1, none⟩,
                    ⟨(some 39), .fa (.t 1) 7, none⟩,
                    ⟨none, .st (.t 39) (.k (.s (.i .i64 0))) 1, none⟩,
                    ⟨(some 40), .fa (.t 1) 8, none⟩,
                    ⟨none, .st (.t 40) (.k (.s (.i .i64 0))) 1, none⟩,
                    ⟨(some 41), .fa (.t 1) 9, none⟩,
                    ⟨none, .st (.t 41) (.k (.s (.i .i64 0))) 1, none⟩])
                  (.seq (.reg [⟨(some 43), .bin .eql (.t 4) (.k (.s (.i .i64 12))), none⟩,
                     ⟨(some 42), .mv (.t 43), none⟩])
                   (.cond (.t 42)
                    (.reg [⟨(some 44), .fa (.t 1) 10, none⟩,
                      ⟨none, .st (.t 44) (.k (.s (.i .i64 0))) 1, none⟩])
                    (.skip)))))))))))))))))))
   (.seq (.reg [⟨(some 45), .ld (.t 1) (some 11), none⟩,
     ⟨none, .st (.t 2) (.t 45) 11, none⟩])
   (.ret))), [.c 2 (some 11)]⟩
theorem dc50 : compF Try.prog Try.f50 = some df50 := by kernel_rfl
theorem ok50 : FnOk Try.prog 50 := ⟨Try.f50, Try.func50, by kernel_rfl, by kernel_rfl⟩

/-- citadel/caps.in -/
def df51 : DF :=
  ⟨12, .seq (.reg [⟨(some 4), .mv (.k (.s (.b false))), none⟩])
   (.seq (.reg [⟨(some 5), .mv (.t 0), none⟩,
     ⟨(some 6), .bin .geq (.t 5) (.k (.s (.i .i64 0))), none⟩,
     ⟨(some 7), .mv (.t 6), none⟩,
     ⟨(some 8), .mv (.t 0), (some (7, true))⟩,
     ⟨(some 9), .mv (.t 1), (some (7, true))⟩,
     ⟨(some 10), .bin .leq (.t 8) (.t 9), (some (7, true))⟩,
     ⟨(some 11), .pick (.t 7) (.t 10) (.k (.s (.b false))), none⟩,
     ⟨(some 4), .mv (.t 11), none⟩])
   (.ret)), [.t 4]⟩
theorem dc51 : compF Try.prog Try.f51 = some df51 := by kernel_rfl
theorem ok51 : FnOk Try.prog 51 := ⟨Try.f51, Try.func51, by kernel_rfl, by kernel_rfl⟩

/-- citadel/caps.mapped -/
def df52 : DF :=
  ⟨27, .seq (.reg [⟨(some 6), .mv (.k (.s (.b false))), none⟩])
   (.seq (.reg [⟨(some 7), .mv (.t 0), none⟩,
     ⟨(some 8), .call 51 [(.t 7), (.k (.s (.i .i64 63)))], none⟩,
     ⟨(some 9), .mv (.t 8), none⟩,
     ⟨(some 10), .mv (.t 1), (some (9, true))⟩,
     ⟨(some 11), .call 51 [(.t 10), (.k (.s (.i .i64 65535)))], (some (9, true))⟩,
     ⟨(some 12), .pick (.t 9) (.t 11) (.k (.s (.b false))), none⟩,
     ⟨(some 13), .mv (.t 12), none⟩,
     ⟨(some 14), .mv (.t 1), (some (13, true))⟩,
     ⟨(some 15), .mv (.t 2), (some (13, true))⟩,
     ⟨(some 16), .bin .rem (.t 14) (.t 15), (some (13, true))⟩,
     ⟨(some 17), .bin .eql (.t 16) (.k (.s (.i .i64 0))), (some (13, true))⟩,
     ⟨(some 18), .pick (.t 13) (.t 17) (.k (.s (.b false))), none⟩,
     ⟨(some 19), .mv (.t 18), none⟩,
     ⟨(some 20), .mv (.t 0), (some (19, true))⟩,
     ⟨(some 21), .bin .gtr (.t 20) (.k (.s (.i .i64 0))), (some (19, true))⟩,
     ⟨(some 22), .mv (.t 21), (some (19, true))⟩,
     ⟨(some 23), .mv (.t 1), (some (22, false))⟩,
     ⟨(some 24), .bin .eql (.t 23) (.k (.s (.i .i64 0))), (some (22, false))⟩,
     ⟨(some 25), .pick (.t 22) (.k (.s (.b true))) (.t 24), (some (19, true))⟩,
     ⟨(some 26), .pick (.t 19) (.t 25) (.k (.s (.b false))), none⟩,
     ⟨(some 6), .mv (.t 26), none⟩])
   (.ret)), [.t 6]⟩
theorem dc52 : compF Try.prog Try.f52 = some df52 := by kernel_rfl
theorem ok52 : FnOk Try.prog 52 := ⟨Try.f52, Try.func52, by kernel_rfl, by kernel_rfl⟩

/-- citadel/citadelref06.Only -/
def df53 : DF :=
  ⟨102, .seq (.reg [⟨(some 1), .box (.t 0), none⟩,
     ⟨(some 2), .new [.i .i64 0, .i .i64 0, .i .i64 0, .i .i64 0, .i .i64 0, .i .i64 0, .i .i64 0, .i .i64 0, .i .i64 0, .i .i64 0, .i .i64 0], none⟩])
   (.seq (.reg [⟨(some 4), .fa (.t 1) 0, none⟩,
     ⟨(some 5), .ld (.t 4) none, none⟩,
     ⟨(some 6), .build [.i .i64 0, .i .i64 0, .i .i64 0, .i .i64 0, .i .i64 0, .i .i64 0, .i .i64 0, .i .i64 0, .i .i64 0, .i .i64 0, .i .i64 0] [(0, 1, (.t 5))], none⟩,
     ⟨(some 3), .new [.i .i64 0, .i .i64 0, .i .i64 0, .i .i64 0, .i .i64 0, .i .i64 0, .i .i64 0, .i .i64 0, .i .i64 0, .i .i64 0, .i .i64 0], none⟩,
     ⟨none, .st (.t 3) (.t 6) 11, none⟩])
   (.seq (.seq (.reg [⟨(some 7), .fa (.t 1) 0, none⟩,
      ⟨(some 8), .ld (.t 7) none, none⟩])
    (.block 0 (.seq (.reg [⟨(some 10), .bin .eql (.t 8) (.k (.s (.i .i64 1))), none⟩,
       ⟨(some 9), .mv (.t 10), none⟩])
     (.cond (.t 9)
      (.seq (.reg [⟨(some 11), .fa (.t 1) 1, none⟩,
         ⟨(some 12), .ld (.t 11) none, none⟩,
         ⟨(some 13), .fa (.t 3) 1, none⟩,
         ⟨none, .st (.t 13) (.t 12) 1, none⟩])
       (.seq (.reg [⟨(some 14), .fa (.t 1) 2, none⟩,
         ⟨(some 15), .ld (.t 14) none, none⟩,
         ⟨(some 16), .fa (.t 3) 2, none⟩,
         ⟨none, .st (.t 16) (.t 15) 1, none⟩])
       (.reg [⟨(some 17), .fa (.t 1) 3, none⟩,
        ⟨(some 18), .ld (.t 17) none, none⟩,
        ⟨(some 19), .fa (.t 3) 3, none⟩,
        ⟨none, .st (.t 19) (.t 18) 1, none⟩])))
      (.seq (.reg [⟨(some 21), .bin .eql (.t 8) (.k (.s (.i .i64 2))), none⟩,
         ⟨(some 20), .mv (.t 21), none⟩])
       (.cond (.t 20)
        (.seq (.reg [⟨(some 22), .fa (.t 1) 1, none⟩,
           ⟨(some 23), .ld (.t 22) none, none⟩,
           ⟨(some 24), .fa (.t 3) 1, none⟩,
           ⟨none, .st (.t 24) (.t 23) 1, none⟩])
         (.seq (.reg [⟨(some 25), .fa (.t 1) 2, none⟩,
           ⟨(some 26), .ld (.t 25) none, none⟩,
           ⟨(some 27), .fa (.t 3) 2, none⟩,
           ⟨none, .st (.t 27) (.t 26) 1, none⟩])
         (.seq (.reg [⟨(some 28), .fa (.t 1) 4, none⟩,
           ⟨(some 29), .ld (.t 28) none, none⟩,
           ⟨(some 30), .fa (.t 3) 4, none⟩,
           ⟨none, .st (.t 30) (.t 29) 1, none⟩])
         (.reg [⟨(some 31), .fa (.t 1) 5, none⟩,
          ⟨(some 32), .ld (.t 31) none, none⟩,
          ⟨(some 33), .fa (.t 3) 5, none⟩,
          ⟨none, .st (.t 33) (.t 32) 1, none⟩]))))
        (.seq (.seq (.reg [⟨(some 35), .bin .eql (.t 8) (.k (.s (.i .i64 4))), none⟩,
            ⟨(some 34), .mv (.t 35), none⟩])
          (.cond (.t 34)
           (.skip)
           (.reg [⟨(some 36), .bin .eql (.t 8) (.k (.s (.i .i64 5))), none⟩,
             ⟨(some 34), .mv (.t 36), none⟩])))
         (.cond (.t 34)
          (.seq (.reg [⟨(some 37), .fa (.t 1) 1, none⟩,
             ⟨(some 38), .ld (.t 37) none, none⟩,
             ⟨(some 39), .fa (.t 3) 1, none⟩,
             ⟨none, .st (.t 39) (.t 38) 1, none⟩])
           (.seq (.reg [⟨(some 40), .fa (.t 1) 7, none⟩,
             ⟨(some 41), .ld (.t 40) none, none⟩,
             ⟨(some 42), .fa (.t 3) 7, none⟩,
             ⟨none, .st (.t 42) (.t 41) 1, none⟩])
           (.reg [⟨(some 43), .fa (.t 1) 6, none⟩,
            ⟨(some 44), .ld (.t 43) none, none⟩,
            ⟨(some 45), .fa (.t 3) 6, none⟩,
            ⟨none, .st (.t 45) (.t 44) 1, none⟩])))
          (.seq (.seq (.reg [⟨(some 47), .bin .eql (.t 8) (.k (.s (.i .i64 3))), none⟩,
              ⟨(some 46), .mv (.t 47), none⟩])
            (.cond (.t 46)
             (.skip)
             (.reg [⟨(some 48), .bin .eql (.t 8) (.k (.s (.i .i64 9))), none⟩,
               ⟨(some 46), .mv (.t 48), none⟩])))
           (.cond (.t 46)
            (.reg [⟨(some 49), .fa (.t 1) 1, none⟩,
              ⟨(some 50), .ld (.t 49) none, none⟩,
              ⟨(some 51), .fa (.t 3) 1, none⟩,
              ⟨none, .st (.t 51) (.t 50) 1, none⟩])
            (.seq (.reg [⟨(some 53), .bin .eql (.t 8) (.k (.s (.i .i64 6))), none⟩,
               ⟨(some 52), .mv (.t 53), none⟩])
             (.cond (.t 52)
              (.seq (.reg [⟨(some 54), .fa (.t 1) 1, none⟩,
                 ⟨(some 55), .ld (.t 54) none, none⟩,
                 ⟨(some 56), .fa (.t 3) 1, none⟩,
                 ⟨none, .st (.t 56) (.t 55) 1, none⟩])
               (.seq (.reg [⟨(some 57), .fa (.t 1) 8, none⟩,
                 ⟨(some 58), .ld (.t 57) none, none⟩,
                 ⟨(some 59), .fa (.t 3) 8, none⟩,
                 ⟨none, .st (.t 59) (.t 58) 1, none⟩])
               (.reg [⟨(some 60), .fa (.t 1) 9, none⟩,
                ⟨(some 61), .ld (.t 60) none, none⟩,
                ⟨(some 62), .fa (.t 3) 9, none⟩,
                ⟨none, .st (.t 62) (.t 61) 1, none⟩])))
              (.seq (.reg [⟨(some 64), .bin .eql (.t 8) (.k (.s (.i .i64 7))), none⟩,
                 ⟨(some 63), .mv (.t 64), none⟩])
               (.cond (.t 63)
                (.seq (.reg [⟨(some 65), .fa (.t 1) 1, none⟩,
                   ⟨(some 66), .ld (.t 65) none, none⟩,
                   ⟨(some 67), .fa (.t 3) 1, none⟩,
                   ⟨none, .st (.t 67) (.t 66) 1, none⟩])
                 (.reg [⟨(some 68), .fa (.t 1) 8, none⟩,
                  ⟨(some 69), .ld (.t 68) none, none⟩,
                  ⟨(some 70), .fa (.t 3) 8, none⟩,
                  ⟨none, .st (.t 70) (.t 69) 1, none⟩]))
                (.seq (.reg [⟨(some 72), .bin .eql (.t 8) (.k (.s (.i .i64 8))), none⟩,
                   ⟨(some 71), .mv (.t 72), none⟩])
                 (.cond (.t 71)
                  (.seq (.reg [⟨(some 73), .fa (.t 1) 1, none⟩,
                     ⟨(some 74), .ld (.t 73) none, none⟩,
                     ⟨(some 75), .fa (.t 3) 1, none⟩,
                     ⟨none, .st (.t 75) (.t 74) 1, none⟩])
                   (.seq (.reg [⟨(some 76), .fa (.t 1) 7, none⟩,
                     ⟨(some 77), .ld (.t 76) none, none⟩,
                     ⟨(some 78), .fa (.t 3) 7, none⟩,
                     ⟨none, .st (.t 78) (.t 77) 1, none⟩])
                   (.seq (.reg [⟨(some 79), .fa (.t 1) 8, none⟩,
                     ⟨(some 80), .ld (.t 79) none, none⟩,
                     ⟨(some 81), .fa (.t 3) 8, none⟩,
                     ⟨none, .st (.t 81) (.t 80) 1, none⟩])
                   (.reg [⟨(some 82), .fa (.t 1) 9, none⟩,
                    ⟨(some 83), .ld (.t 82) none, none⟩,
                    ⟨(some 84), .fa (.t 3) 9, none⟩,
                    ⟨none, .st (.t 84) (.t 83) 1, none⟩]))))
                  (.seq (.reg [⟨(some 86), .bin .eql (.t 8) (.k (.s (.i .i64 10))), none⟩,
                     ⟨(some 85), .mv (.t 86), none⟩])
                   (.cond (.t 85)
                    (.seq (.reg [⟨(some 87), .fa (.t 1) 1, none⟩,
                       ⟨(some 88), .ld (.t 87) none, none⟩,
                       ⟨(some 89), .fa (.t 3) 1, none⟩,
                       ⟨none, .st (.t 89) (.t 88) 1, none⟩])
                     (.seq (.reg [⟨(some 90), .fa (.t 1) 2, none⟩,
                       ⟨(some 91), .ld (.t 90) none, none⟩,
                       ⟨(some 92), .fa (.t 3) 2, none⟩,
                       ⟨none, .st (.t 92) (.t 91) 1, none⟩])
                     (.reg [⟨(some 93), .fa (.t 1) 3, none⟩,
                      ⟨(some 94), .ld (.t 93) none, none⟩,
                      ⟨(some 95), .fa (.t 3) 3, none⟩,
                      ⟨none, .st (.t 95) (.t 94) 1, none⟩])))
                    (.seq (.reg [⟨(some 97), .bin .eql (.t 8) (.k (.s (.i .i64 12))), none⟩,
                       ⟨(some 96), .mv (.t 97), none⟩])
                     (.cond (.t 96)
                      (.reg [⟨(some 98), .fa (.t 1) 10, none⟩,
                        ⟨(some 99), .ld (.t 98) none, none⟩,
                        ⟨(some 100), .fa (.t 3) 10, none⟩,
                        ⟨none, .st (.t 100) (.t 99) 1, none⟩])
                      (.skip)))))))))))))))))))))
   (.seq (.reg [⟨(some 101), .ld (.t 3) (some 11), none⟩,
     ⟨none, .st (.t 2) (.t 101) 11, none⟩])
   (.ret)))), [.c 2 (some 11)]⟩
theorem dc53 : compF Try.prog Try.f53 = some df53 := by kernel_rfl
theorem ok53 : FnOk Try.prog 53 := ⟨Try.f53, Try.func53, by kernel_rfl, by kernel_rfl⟩

/-- citadel/citadelref06.size -/
def df54 : DF :=
  ⟨58, .seq (.reg [⟨(some 1), .box (.t 0), none⟩,
     ⟨(some 2), .mv (.k (.s (.i .i64 0))), none⟩])
   (.seq (.seq (.reg [⟨(some 3), .fa (.t 1) 0, none⟩,
      ⟨(some 4), .ld (.t 3) none, none⟩])
    (.block 0 (.seq (.reg [⟨(some 6), .bin .eql (.t 4) (.k (.s (.i .i64 1))), none⟩,
       ⟨(some 5), .mv (.t 6), none⟩])
     (.cond (.t 5)
      (.seq (.reg [⟨(some 7), .fa (.t 1) 2, none⟩,
         ⟨(some 8), .ld (.t 7) none, none⟩,
         ⟨(some 9), .bin .geq (.t 8) (.k (.s (.i .i64 4))), none⟩,
         ⟨(some 10), .mv (.t 9), none⟩,
         ⟨(some 11), .fa (.t 1) 2, (some (10, true))⟩,
         ⟨(some 12), .ld (.t 11) none, (some (10, true))⟩,
         ⟨(some 13), .bin .leq (.t 12) (.k (.s (.i .i64 15))), (some (10, true))⟩,
         ⟨(some 14), .pick (.t 10) (.t 13) (.k (.s (.b false))), none⟩])
       (.cond (.t 14)
        (.seq (.reg [⟨(some 15), .fa (.t 1) 2, none⟩,
           ⟨(some 16), .ld (.t 15) none, none⟩,
           ⟨(some 17), .bin .shl (.k (.s (.i .i64 1))) (.t 16), none⟩,
           ⟨(some 2), .mv (.t 17), none⟩])
         (.ret))
        (.skip)))
      (.seq (.reg [⟨(some 19), .bin .eql (.t 4) (.k (.s (.i .i64 2))), none⟩,
         ⟨(some 18), .mv (.t 19), none⟩])
       (.cond (.t 18)
        (.seq (.reg [⟨(some 20), .fa (.t 1) 2, none⟩,
           ⟨(some 21), .ld (.t 20) none, none⟩,
           ⟨(some 22), .bin .geq (.t 21) (.k (.s (.i .i64 1))), none⟩,
           ⟨(some 23), .mv (.t 22), none⟩,
           ⟨(some 24), .fa (.t 1) 2, (some (23, true))⟩,
           ⟨(some 25), .ld (.t 24) none, (some (23, true))⟩,
           ⟨(some 26), .bin .leq (.t 25) (.k (.s (.i .i64 8))), (some (23, true))⟩,
           ⟨(some 27), .pick (.t 23) (.t 26) (.k (.s (.b false))), none⟩])
         (.cond (.t 27)
          (.seq (.reg [⟨(some 28), .fa (.t 1) 2, none⟩,
             ⟨(some 29), .ld (.t 28) none, none⟩,
             ⟨(some 30), .bin .shl (.k (.s (.i .i64 4))) (.t 29), none⟩,
             ⟨(some 2), .mv (.t 30), none⟩])
           (.ret))
          (.skip)))
        (.seq (.reg [⟨(some 32), .bin .eql (.t 4) (.k (.s (.i .i64 10))), none⟩,
           ⟨(some 31), .mv (.t 32), none⟩])
         (.cond (.t 31)
          (.seq (.seq (.reg [⟨(some 33), .fa (.t 1) 2, none⟩,
              ⟨(some 34), .ld (.t 33) none, none⟩,
              ⟨(some 35), .bin .geq (.t 34) (.k (.s (.i .i64 1))), none⟩,
              ⟨(some 36), .mv (.t 35), none⟩,
              ⟨(some 37), .fa (.t 1) 2, (some (36, true))⟩,
              ⟨(some 38), .ld (.t 37) none, (some (36, true))⟩,
              ⟨(some 39), .bin .leq (.t 38) (.k (.s (.i .i64 8))), (some (36, true))⟩,
              ⟨(some 40), .pick (.t 36) (.t 39) (.k (.s (.b false))), none⟩])
            (.cond (.t 40)
             (.seq (.reg [⟨(some 41), .fa (.t 1) 2, none⟩,
                ⟨(some 42), .ld (.t 41) none, none⟩,
                ⟨(some 43), .bin .shl (.k (.s (.i .i64 4))) (.t 42), none⟩,
                ⟨(some 2), .mv (.t 43), none⟩])
              (.ret))
             (.skip)))
           (.seq (.reg [⟨(some 44), .fa (.t 1) 2, none⟩,
             ⟨(some 45), .ld (.t 44) none, none⟩,
             ⟨(some 46), .bin .eql (.t 45) (.k (.s (.i .i64 31))), none⟩])
           (.cond (.t 46)
            (.seq (.reg [⟨(some 2), .mv (.k (.s (.i .i64 64))), none⟩])
             (.ret))
            (.skip))))
          (.seq (.seq (.reg [⟨(some 48), .bin .eql (.t 4) (.k (.s (.i .i64 3))), none⟩,
              ⟨(some 47), .mv (.t 48), none⟩])
            (.cond (.t 47)
             (.skip)
             (.reg [⟨(some 49), .bin .eql (.t 4) (.k (.s (.i .i64 9))), none⟩,
               ⟨(some 47), .mv (.t 49), none⟩])))
           (.cond (.t 47)
            (.seq (.reg [⟨(some 2), .mv (.k (.s (.i .i64 64))), none⟩])
             (.ret))
            (.seq (.reg [⟨(some 51), .bin .eql (.t 4) (.k (.s (.i .i64 4))), none⟩,
               ⟨(some 50), .mv (.t 51), none⟩])
             (.cond (.t 50)
              (.seq (.reg [⟨(some 2), .mv (.k (.s (.i .i64 4))), none⟩])
               (.ret))
              (.seq (.seq (.reg [⟨(some 53), .bin .eql (.t 4) (.k (.s (.i .i64 5))), none⟩,
                  ⟨(some 52), .mv (.t 53), none⟩])
                (.cond (.t 52)
                 (.skip)
                 (.seq (.reg [⟨(some 54), .bin .eql (.t 4) (.k (.s (.i .i64 6))), none⟩,
                    ⟨(some 52), .mv (.t 54), none⟩])
                  (.cond (.t 52)
                   (.skip)
                   (.reg [⟨(some 55), .bin .eql (.t 4) (.k (.s (.i .i64 7))), none⟩,
                     ⟨(some 52), .mv (.t 55), none⟩])))))
               (.cond (.t 52)
                (.seq (.reg [⟨(some 2), .mv (.k (.s (.i .i64 8))), none⟩])
                 (.ret))
                (.seq (.reg [⟨(some 57), .bin .eql (.t 4) (.k (.s (.i .i64 8))), none⟩,
                   ⟨(some 56), .mv (.t 57), none⟩])
                 (.cond (.t 56)
                  (.seq (.reg [⟨(some 2), .mv (.k (.s (.i .i64 16))), none⟩])
                   (.ret))
                  (.skip)))))))))))))))))
   (.seq (.reg [⟨(some 2), .mv (.k (.s (.i .i64 0))), none⟩])
   (.ret))), [.t 2]⟩
theorem dc54 : compF Try.prog Try.f54 = some df54 := by kernel_rfl
theorem ok54 : FnOk Try.prog 54 := ⟨Try.f54, Try.func54, by kernel_rfl, by kernel_rfl⟩

/-- citadel/citadelref06.address -/
def df55 : DF :=
  ⟨17, .seq (.reg [⟨(some 4), .mv (.k (.s (.b false))), none⟩])
   (.seq (.reg [⟨(some 5), .mv (.t 0), none⟩,
     ⟨(some 6), .bin .geq (.t 5) (.k (.s (.i .i64 1024))), none⟩,
     ⟨(some 7), .mv (.t 6), none⟩,
     ⟨(some 8), .mv (.t 0), (some (7, true))⟩,
     ⟨(some 9), .bin .leq (.t 8) (.k (.s (.i .i64 65535))), (some (7, true))⟩,
     ⟨(some 10), .pick (.t 7) (.t 9) (.k (.s (.b false))), none⟩,
     ⟨(some 11), .mv (.t 10), none⟩,
     ⟨(some 12), .mv (.t 0), (some (11, true))⟩,
     ⟨(some 13), .mv (.t 1), (some (11, true))⟩,
     ⟨(some 14), .bin .rem (.t 12) (.t 13), (some (11, true))⟩,
     ⟨(some 15), .bin .eql (.t 14) (.k (.s (.i .i64 0))), (some (11, true))⟩,
     ⟨(some 16), .pick (.t 11) (.t 15) (.k (.s (.b false))), none⟩,
     ⟨(some 4), .mv (.t 16), none⟩])
   (.ret)), [.t 4]⟩
theorem dc55 : compF Try.prog Try.f55 = some df55 := by kernel_rfl
theorem ok55 : FnOk Try.prog 55 := ⟨Try.f55, Try.func55, by kernel_rfl, by kernel_rfl⟩

/-- citadel/citadelref06.in -/
def df56 : DF :=
  ⟨15, .seq (.reg [⟨(some 6), .mv (.k (.s (.b false))), none⟩])
   (.seq (.reg [⟨(some 7), .mv (.t 0), none⟩,
     ⟨(some 8), .mv (.t 1), none⟩,
     ⟨(some 9), .bin .geq (.t 7) (.t 8), none⟩,
     ⟨(some 10), .mv (.t 9), none⟩,
     ⟨(some 11), .mv (.t 0), (some (10, true))⟩,
     ⟨(some 12), .mv (.t 2), (some (10, true))⟩,
     ⟨(some 13), .bin .leq (.t 11) (.t 12), (some (10, true))⟩,
     ⟨(some 14), .pick (.t 10) (.t 13) (.k (.s (.b false))), none⟩,
     ⟨(some 6), .mv (.t 14), none⟩])
   (.ret)), [.t 6]⟩
theorem dc56 : compF Try.prog Try.f56 = some df56 := by kernel_rfl
theorem ok56 : FnOk Try.prog 56 := ⟨Try.f56, Try.func56, by kernel_rfl, by kernel_rfl⟩

/-- citadel/caps.Encode$1 -/
def df57 : DF :=
  ⟨9, .seq (.reg [⟨(some 4), .new [.i .i64 0, .i .u64 0], none⟩])
   (.seq (.reg [⟨(some 5), .mv (.t 0), none⟩,
     ⟨(some 6), .mv (.t 1), none⟩,
     ⟨(some 7), .conv .u64 (.t 6), none⟩,
     ⟨(some 8), .build [.i .i64 0, .i .u64 0] [(0, 1, (.t 5)), (1, 1, (.t 7))], none⟩,
     ⟨none, .st (.t 4) (.t 8) 2, none⟩])
   (.ret)), [.c 4 (some 2)]⟩
theorem dc57 : compF Try.prog Try.f57 = some df57 := by kernel_rfl
theorem ok57 : FnOk Try.prog 57 := ⟨Try.f57, Try.func57, by kernel_rfl, by kernel_rfl⟩

/-- citadel/word.Pack -/
def df58 : DF :=
  ⟨34, .seq (.reg [⟨(some 2), .mv (.k (.s (.i .u64 0))), none⟩,
     ⟨(some 3), .mv (.k (.s (.i .i64 0))), none⟩])
   (.seq (.reg [⟨(some 4), .mv (.k (.s (.i .u64 0))), none⟩,
     ⟨(some 5), .mv (.k (.s (.i .i64 0))), none⟩])
   (.seq (.seq (.reg [⟨(some 9), .mv (.t 0), none⟩,
      ⟨(some 10), .len (.t 9), none⟩,
      ⟨(some 11), .mv (.k (.s (.i .i64 0))), none⟩])
    (.block 0 (.loop (.seq (.reg [⟨(some 12), .bin .lss (.t 11) (.t 10), none⟩])
      (.seq (.cond (.t 12)
        (.skip)
        (.exit 0))
      (.seq (.block 1 (.seq (.reg [⟨(some 13), .ia none 2 (.t 9) (.t 11), none⟩,
          ⟨(some 14), .ld (.t 13) (some 2), none⟩,
          ⟨(some 7), .new [.i .i64 0, .i .u64 0], none⟩,
          ⟨none, .st (.t 7) (.t 14) 2, none⟩])
        (.seq (.reg [⟨(some 8), .mv (.k (.s (.i .i64 0))), none⟩])
        (.seq (.seq (.reg [⟨(some 16), .mv (.t 4), none⟩,
           ⟨(some 17), .mv (.t 5), none⟩,
           ⟨(some 18), .fa (.t 7) 0, none⟩,
           ⟨(some 19), .ld (.t 18) none, none⟩,
           ⟨(some 20), .fa (.t 7) 1, none⟩,
           ⟨(some 21), .ld (.t 20) none, none⟩,
           ⟨(some 22), .call 84 [(.t 16), (.t 17), (.t 19), (.t 21)], none⟩,
           ⟨(some 15), .mv (.t 22), none⟩,
           ⟨(some 23), .ext (.t 15) 0, none⟩,
           ⟨(some 24), .ext (.t 15) 1, none⟩,
           ⟨(some 4), .mv (.t 23), none⟩,
           ⟨(some 8), .mv (.t 24), none⟩])
         (.seq (.reg [⟨(some 25), .mv (.t 8), none⟩,
           ⟨(some 26), .bin .neq (.t 25) (.k (.s (.i .i64 0))), none⟩])
         (.cond (.t 26)
          (.seq (.reg [⟨(some 27), .mv (.t 8), none⟩,
             ⟨(some 2), .mv (.k (.s (.i .u64 0))), none⟩,
             ⟨(some 3), .mv (.t 27), none⟩])
           (.ret))
          (.skip))))
        (.reg [⟨(some 28), .mv (.t 5), none⟩,
         ⟨(some 29), .fa (.t 7) 0, none⟩,
         ⟨(some 30), .ld (.t 29) none, none⟩,
         ⟨(some 31), .bin .add (.t 28) (.t 30), none⟩,
         ⟨(some 5), .mv (.t 31), none⟩])))))
      (.reg [⟨(some 32), .bin .add (.t 11) (.k (.s (.i .i64 1))), none⟩,
       ⟨(some 11), .mv (.t 32), none⟩])))))))
   (.seq (.reg [⟨(some 33), .mv (.t 4), none⟩,
     ⟨(some 2), .mv (.t 33), none⟩,
     ⟨(some 3), .mv (.k (.s (.i .i64 0))), none⟩])
   (.ret)))), [.t 2, .t 3]⟩
theorem dc58 : compF Try.prog Try.f58 = some df58 := by kernel_rfl
theorem ok58 : FnOk Try.prog 58 := ⟨Try.f58, Try.func58, by kernel_rfl, by kernel_rfl⟩

/-- citadel/caps.number -/
def df59 : DF :=
  ⟨14, .seq (.reg [⟨(some 1), .box (.t 0), none⟩,
     ⟨(some 2), .mv (.k (.s (.i .i64 0))), none⟩])
   (.seq (.reg [⟨(some 3), .fa (.t 1) 3, none⟩,
     ⟨(some 4), .ld (.t 3) none, none⟩,
     ⟨(some 5), .fa (.t 1) 4, none⟩,
     ⟨(some 6), .ld (.t 5) none, none⟩,
     ⟨(some 7), .bin .add (.t 4) (.t 6), none⟩,
     ⟨(some 8), .fa (.t 1) 6, none⟩,
     ⟨(some 9), .ld (.t 8) none, none⟩,
     ⟨(some 10), .bin .add (.t 7) (.t 9), none⟩,
     ⟨(some 11), .fa (.t 1) 9, none⟩,
     ⟨(some 12), .ld (.t 11) none, none⟩,
     ⟨(some 13), .bin .add (.t 10) (.t 12), none⟩,
     ⟨(some 2), .mv (.t 13), none⟩])
   (.ret)), [.t 2]⟩
theorem dc59 : compF Try.prog Try.f59 = some df59 := by kernel_rfl
theorem ok59 : FnOk Try.prog 59 := ⟨Try.f59, Try.func59, by kernel_rfl, by kernel_rfl⟩

/-- citadel/word.Unpack -/
def df60 : DF :=
  ⟨41, .seq (.reg [⟨(some 4), .mv (.k (.s (.ns))), none⟩,
     ⟨(some 5), .mv (.k (.s (.i .i64 0))), none⟩])
   (.seq (.reg [⟨(some 6), .mv (.k (.s (.ns))), none⟩])
   (.seq (.reg [⟨(some 7), .mv (.k (.s (.i .i64 0))), none⟩])
   (.seq (.seq (.reg [⟨(some 12), .mv (.t 1), none⟩,
      ⟨(some 13), .len (.t 12), none⟩,
      ⟨(some 14), .mv (.k (.s (.i .i64 0))), none⟩])
    (.block 0 (.loop (.seq (.reg [⟨(some 15), .bin .lss (.t 14) (.t 13), none⟩])
      (.seq (.cond (.t 15)
        (.skip)
        (.exit 0))
      (.seq (.block 1 (.seq (.reg [⟨(some 16), .ia none 1 (.t 12) (.t 14), none⟩,
          ⟨(some 17), .ld (.t 16) none, none⟩,
          ⟨(some 9), .mv (.t 17), none⟩])
        (.seq (.reg [⟨(some 19), .mv (.t 0), none⟩,
          ⟨(some 20), .mv (.t 7), none⟩,
          ⟨(some 21), .mv (.t 9), none⟩,
          ⟨(some 22), .call 85 [(.t 19), (.t 20), (.t 21)], none⟩,
          ⟨(some 18), .mv (.t 22), none⟩,
          ⟨(some 23), .ext (.t 18) 0, none⟩,
          ⟨(some 24), .ext (.t 18) 1, none⟩,
          ⟨(some 10), .mv (.t 23), none⟩,
          ⟨(some 11), .mv (.t 24), none⟩])
        (.seq (.seq (.reg [⟨(some 25), .mv (.t 11), none⟩,
           ⟨(some 26), .bin .neq (.t 25) (.k (.s (.i .i64 0))), none⟩])
         (.cond (.t 26)
          (.seq (.reg [⟨(some 27), .mv (.t 11), none⟩,
             ⟨(some 4), .mv (.k (.s (.ns))), none⟩,
             ⟨(some 5), .mv (.t 27), none⟩])
           (.ret))
          (.skip)))
        (.seq (.reg [⟨(some 28), .mv (.t 6), none⟩,
          ⟨(some 29), .mv (.t 10), none⟩,
          ⟨(some 30), .bsl 1 [.i .u64 0] [(0, 1, (.t 29))], none⟩,
          ⟨(some 31), .app 1 8 (.t 28) (.t 30), none⟩,
          ⟨(some 6), .mv (.t 31), none⟩])
        (.reg [⟨(some 32), .mv (.t 7), none⟩,
         ⟨(some 33), .mv (.t 9), none⟩,
         ⟨(some 34), .bin .add (.t 32) (.t 33), none⟩,
         ⟨(some 7), .mv (.t 34), none⟩]))))))
      (.reg [⟨(some 35), .bin .add (.t 14) (.k (.s (.i .i64 1))), none⟩,
       ⟨(some 14), .mv (.t 35), none⟩])))))))
   (.seq (.seq (.reg [⟨(some 36), .mv (.t 0), none⟩,
      ⟨(some 37), .mv (.t 7), none⟩,
      ⟨(some 38), .bin .shr (.t 36) (.t 37), none⟩,
      ⟨(some 39), .bin .neq (.t 38) (.k (.s (.i .u64 0))), none⟩])
    (.cond (.t 39)
     (.seq (.reg [⟨(some 4), .mv (.k (.s (.ns))), none⟩,
        ⟨(some 5), .mv (.k (.s (.i .i64 10))), none⟩])
      (.ret))
     (.skip)))
   (.seq (.reg [⟨(some 40), .mv (.t 6), none⟩,
     ⟨(some 4), .mv (.t 40), none⟩,
     ⟨(some 5), .mv (.k (.s (.i .i64 0))), none⟩])
   (.ret)))))), [.t 4, .t 5]⟩
theorem dc60 : compF Try.prog Try.f60 = some df60 := by kernel_rfl
theorem ok60 : FnOk Try.prog 60 := ⟨Try.f60, Try.func60, by kernel_rfl, by kernel_rfl⟩

/-- citadel/caps.Same$1 -/
def df61 : DF :=
  ⟨18, .seq (.reg [⟨(some 1), .box (.t 0), none⟩,
     ⟨(some 2), .new [.i .i64 0, .i .i64 0, .i .i64 0, .i .i64 0, .i .i64 0, .i .i64 0, .i .i64 0, .i .i64 0, .i .i64 0, .i .i64 0, .i .i64 0], none⟩])
   (.seq (.seq (.reg [⟨(some 3), .fa (.t 1) 0, none⟩,
      ⟨(some 4), .ld (.t 3) none, none⟩,
      ⟨(some 5), .bin .eql (.t 4) (.k (.s (.i .i64 12))), none⟩])
    (.cond (.t 5)
     (.seq (.reg [⟨(some 6), .fa (.t 1) 0, none⟩,
        ⟨(some 7), .ld (.t 6) none, none⟩,
        ⟨(some 8), .fa (.t 1) 1, none⟩,
        ⟨(some 9), .ld (.t 8) none, none⟩,
        ⟨(some 10), .fa (.t 1) 10, none⟩,
        ⟨(some 11), .ld (.t 10) none, none⟩,
        ⟨(some 12), .build [.i .i64 0, .i .i64 0, .i .i64 0, .i .i64 0, .i .i64 0, .i .i64 0, .i .i64 0, .i .i64 0, .i .i64 0, .i .i64 0, .i .i64 0] [(0, 1, (.t 7)), (1, 1, (.t 9)), (10, 1, (.t 11))], none⟩,
        ⟨none, .st (.t 2) (.t 12) 11, none⟩])
      (.ret))
     (.skip)))
   (.seq (.reg [⟨(some 13), .fa (.t 1) 0, none⟩,
     ⟨(some 14), .ld (.t 13) none, none⟩,
     ⟨(some 15), .fa (.t 1) 1, none⟩,
     ⟨(some 16), .ld (.t 15) none, none⟩,
     ⟨(some 17), .build [.i .i64 0, .i .i64 0, .i .i64 0, .i .i64 0, .i .i64 0, .i .i64 0, .i .i64 0, .i .i64 0, .i .i64 0, .i .i64 0, .i .i64 0] [(0, 1, (.t 14)), (1, 1, (.t 16))], none⟩,
     ⟨none, .st (.t 2) (.t 17) 11, none⟩])
   (.ret))), [.c 2 (some 11)]⟩
theorem dc61 : compF Try.prog Try.f61 = some df61 := by kernel_rfl
theorem ok61 : FnOk Try.prog 61 := ⟨Try.f61, Try.func61, by kernel_rfl, by kernel_rfl⟩

/-- citadel/heap.SetCurrent -/
def df62 : DF :=
  ⟨9, .seq (.reg [⟨(some 4), .mv (.k (.s (.i .i64 0))), none⟩])
   (.seq (.reg [⟨(some 5), .call 86 [], none⟩,
     ⟨(some 6), .mv (.t 0), none⟩,
     ⟨(some 7), .mv (.t 1), none⟩,
     ⟨(some 8), .call 87 [(.t 5), (.t 6), (.t 7)], none⟩,
     ⟨(some 4), .mv (.t 8), none⟩])
   (.ret)), [.t 4]⟩
theorem dc62 : compF Try.prog Try.f62 = some df62 := by kernel_rfl
theorem ok62 : FnOk Try.prog 62 := ⟨Try.f62, Try.func62, by kernel_rfl, by kernel_rfl⟩

/-- citadel/heap.Current -/
def df63 : DF :=
  ⟨6, .seq (.reg [⟨(some 2), .mv (.k (.s (.i .i64 0))), none⟩])
   (.seq (.reg [⟨(some 3), .call 86 [], none⟩,
     ⟨(some 4), .mv (.t 0), none⟩,
     ⟨(some 5), .call 88 [(.t 3), (.t 4)], none⟩,
     ⟨(some 2), .mv (.t 5), none⟩])
   (.ret)), [.t 2]⟩
theorem dc63 : compF Try.prog Try.f63 = some df63 := by kernel_rfl
theorem ok63 : FnOk Try.prog 63 := ⟨Try.f63, Try.func63, by kernel_rfl, by kernel_rfl⟩

/-- citadel/heap.sizes -/
def df64 : DF :=
  ⟨2, .seq (.reg [⟨(some 0), .new [.i .i64 0, .i .i64 0, .i .i64 0, .i .i64 0, .i .i64 0, .i .i64 0, .i .i64 0, .i .i64 0, .i .i64 0], none⟩])
   (.seq (.reg [⟨(some 1), .build [.i .i64 0, .i .i64 0, .i .i64 0, .i .i64 0, .i .i64 0, .i .i64 0, .i .i64 0, .i .i64 0, .i .i64 0] [(3, 1, (.k (.s (.i .i64 64)))), (4, 1, (.k (.s (.i .i64 4)))), (5, 1, (.k (.s (.i .i64 8)))), (6, 1, (.k (.s (.i .i64 8)))), (7, 1, (.k (.s (.i .i64 8)))), (8, 1, (.k (.s (.i .i64 16))))], none⟩,
     ⟨none, .st (.t 0) (.t 1) 9, none⟩])
   (.ret)), [.c 0 (some 9)]⟩
theorem dc64 : compF Try.prog Try.f64 = some df64 := by kernel_rfl
theorem ok64 : FnOk Try.prog 64 := ⟨Try.f64, Try.func64, by kernel_rfl, by kernel_rfl⟩

/-- citadel/heap.place -/
def df65 : DF :=
  ⟨12, .seq (.reg [⟨(some 4), .mv (.k (.s (.b false))), none⟩])
   (.seq (.reg [⟨(some 5), .mv (.t 0), none⟩,
     ⟨(some 6), .bin .geq (.t 5) (.k (.s (.i .i64 0))), none⟩,
     ⟨(some 7), .mv (.t 6), none⟩,
     ⟨(some 8), .mv (.t 0), (some (7, true))⟩,
     ⟨(some 9), .mv (.t 1), (some (7, true))⟩,
     ⟨(some 10), .bin .lss (.t 8) (.t 9), (some (7, true))⟩,
     ⟨(some 11), .pick (.t 7) (.t 10) (.k (.s (.b false))), none⟩,
     ⟨(some 4), .mv (.t 11), none⟩])
   (.ret)), [.t 4]⟩
theorem dc65 : compF Try.prog Try.f65 = some df65 := by kernel_rfl
theorem ok65 : FnOk Try.prog 65 := ⟨Try.f65, Try.func65, by kernel_rfl, by kernel_rfl⟩

/-- citadel/citadelref09.Slots -/
def df66 : DF :=
  ⟨25, .seq (.reg [⟨(some 1), .box (.t 0), none⟩,
     ⟨(some 2), .mv (.k (.s (.i .i64 0))), none⟩])
   (.seq (.reg [⟨(some 4), .ld (.t 1) (some 11), none⟩,
     ⟨(some 5), .call 16 [(.t 4)], none⟩,
     ⟨(some 3), .mv (.t 5), none⟩])
   (.seq (.seq (.reg [⟨(some 6), .mv (.t 3), none⟩,
      ⟨(some 7), .un .not (.t 6), none⟩])
    (.cond (.t 7)
     (.seq (.reg [⟨(some 2), .mv (.k (.s (.i .i64 0))), none⟩])
      (.ret))
     (.skip)))
   (.seq (.seq (.reg [⟨(some 8), .fa (.t 1) 0, none⟩,
      ⟨(some 9), .ld (.t 8) none, none⟩])
    (.block 0 (.seq (.reg [⟨(some 11), .bin .eql (.t 9) (.k (.s (.i .i64 2))), none⟩,
       ⟨(some 10), .mv (.t 11), none⟩])
     (.cond (.t 10)
      (.seq (.reg [⟨(some 12), .fa (.t 1) 2, none⟩,
         ⟨(some 13), .ld (.t 12) none, none⟩,
         ⟨(some 14), .bin .shl (.k (.s (.i .i64 1))) (.t 13), none⟩,
         ⟨(some 2), .mv (.t 14), none⟩])
       (.ret))
      (.seq (.reg [⟨(some 16), .bin .eql (.t 9) (.k (.s (.i .i64 3))), none⟩,
         ⟨(some 15), .mv (.t 16), none⟩])
       (.cond (.t 15)
        (.seq (.reg [⟨(some 2), .mv (.k (.s (.i .i64 3))), none⟩])
         (.ret))
        (.seq (.reg [⟨(some 18), .bin .eql (.t 9) (.k (.s (.i .i64 10))), none⟩,
           ⟨(some 17), .mv (.t 18), none⟩])
         (.cond (.t 17)
          (.seq (.seq (.reg [⟨(some 19), .fa (.t 1) 2, none⟩,
              ⟨(some 20), .ld (.t 19) none, none⟩,
              ⟨(some 21), .bin .eql (.t 20) (.k (.s (.i .i64 31))), none⟩])
            (.cond (.t 21)
             (.seq (.reg [⟨(some 2), .mv (.k (.s (.i .i64 3))), none⟩])
              (.ret))
             (.skip)))
           (.seq (.reg [⟨(some 22), .fa (.t 1) 2, none⟩,
             ⟨(some 23), .ld (.t 22) none, none⟩,
             ⟨(some 24), .bin .shl (.k (.s (.i .i64 1))) (.t 23), none⟩,
             ⟨(some 2), .mv (.t 24), none⟩])
           (.ret)))
          (.skip)))))))))
   (.seq (.reg [⟨(some 2), .mv (.k (.s (.i .i64 0))), none⟩])
   (.ret))))), [.t 2]⟩
theorem dc66 : compF Try.prog Try.f66 = some df66 := by kernel_rfl
theorem ok66 : FnOk Try.prog 66 := ⟨Try.f66, Try.func66, by kernel_rfl, by kernel_rfl⟩

/-- citadel/slots.Empty -/
def df67 : DF :=
  ⟨22, .seq (.reg [⟨(some 4), .mv (.k (.s (.b false))), none⟩,
     ⟨(some 5), .mv (.k (.s (.i .i64 0))), none⟩])
   (.seq (.reg [⟨(some 9), .mv (.t 0), none⟩,
     ⟨(some 10), .mv (.t 1), none⟩,
     ⟨(some 11), .call 43 [(.t 9), (.t 10)], none⟩,
     ⟨(some 8), .mv (.t 11), none⟩,
     ⟨(some 12), .ext (.t 8) 0, none⟩,
     ⟨(some 13), .ext (.t 8) 1, none⟩,
     ⟨(some 6), .new [.i .i64 0, .i .i64 0, .i .i64 0, .i .i64 0, .i .i64 0, .i .i64 0, .i .i64 0, .i .i64 0, .i .i64 0, .i .i64 0, .i .i64 0, .i .i64 0, .i .i64 0, .i .i64 0], none⟩,
     ⟨none, .st (.t 6) (.t 12) 14, none⟩,
     ⟨(some 7), .mv (.t 13), none⟩])
   (.seq (.reg [⟨(some 14), .mv (.t 7), none⟩,
     ⟨(some 15), .bin .eql (.t 14) (.k (.s (.i .i64 0))), none⟩,
     ⟨(some 16), .mv (.t 15), none⟩,
     ⟨(some 17), .ld (.t 6) (some 14), (some (16, true))⟩,
     ⟨(some 18), .build [.i .i64 0, .i .i64 0, .i .i64 0, .i .i64 0, .i .i64 0, .i .i64 0, .i .i64 0, .i .i64 0, .i .i64 0, .i .i64 0, .i .i64 0, .i .i64 0, .i .i64 0, .i .i64 0] [], (some (16, true))⟩,
     ⟨(some 19), .eqa false [true, true, true, true, true, true, true, true, true, true, true, true, true, true] (.t 17) (.t 18), (some (16, true))⟩,
     ⟨(some 20), .pick (.t 16) (.t 19) (.k (.s (.b false))), none⟩,
     ⟨(some 21), .mv (.t 7), none⟩,
     ⟨(some 4), .mv (.t 20), none⟩,
     ⟨(some 5), .mv (.t 21), none⟩])
   (.ret))), [.t 4, .t 5]⟩
theorem dc67 : compF Try.prog Try.f67 = some df67 := by kernel_rfl
theorem ok67 : FnOk Try.prog 67 := ⟨Try.f67, Try.func67, by kernel_rfl, by kernel_rfl⟩

/-- citadel/slots.Right -/
def df68 : DF :=
  ⟨35, .seq (.reg [⟨(some 1), .box (.t 0), none⟩,
     ⟨(some 2), .mv (.k (.s (.b false))), none⟩])
   (.seq (.seq (.reg [⟨(some 3), .fa (.t 1) 0, none⟩,
      ⟨(some 4), .fa (.t 3) 0, none⟩,
      ⟨(some 5), .ld (.t 4) none, none⟩,
      ⟨(some 6), .bin .eql (.t 5) (.k (.s (.i .i64 0))), none⟩,
      ⟨(some 7), .mv (.t 6), none⟩,
      ⟨(some 8), .ld (.t 1) (some 14), (some (7, true))⟩,
      ⟨(some 9), .build [.i .i64 0, .i .i64 0, .i .i64 0, .i .i64 0, .i .i64 0, .i .i64 0, .i .i64 0, .i .i64 0, .i .i64 0, .i .i64 0, .i .i64 0, .i .i64 0, .i .i64 0, .i .i64 0] [], (some (7, true))⟩,
      ⟨(some 10), .eqa true [true, true, true, true, true, true, true, true, true, true, true, true, true, true] (.t 8) (.t 9), (some (7, true))⟩,
      ⟨(some 11), .pick (.t 7) (.t 10) (.k (.s (.b false))), none⟩])
    (.cond (.t 11)
     (.seq (.reg [⟨(some 2), .mv (.k (.s (.b false))), none⟩])
      (.ret))
     (.skip)))
   (.seq (.reg [⟨(some 12), .fa (.t 1) 0, none⟩,
     ⟨(some 13), .ld (.t 12) (some 11), none⟩,
     ⟨(some 14), .call 15 [(.t 13)], none⟩,
     ⟨(some 15), .mv (.t 14), none⟩,
     ⟨(some 16), .fa (.t 1) 11, (some (15, true))⟩,
     ⟨(some 17), .ld (.t 16) none, (some (15, true))⟩,
     ⟨(some 18), .call 89 [(.t 17)], (some (15, true))⟩,
     ⟨(some 19), .pick (.t 15) (.t 18) (.k (.s (.b false))), none⟩,
     ⟨(some 20), .mv (.t 19), none⟩,
     ⟨(some 21), .fa (.t 1) 12, (some (20, true))⟩,
     ⟨(some 22), .ld (.t 21) none, (some (20, true))⟩,
     ⟨(some 23), .call 89 [(.t 22)], (some (20, true))⟩,
     ⟨(some 24), .pick (.t 20) (.t 23) (.k (.s (.b false))), none⟩,
     ⟨(some 25), .mv (.t 24), none⟩,
     ⟨(some 26), .fa (.t 1) 13, (some (25, true))⟩,
     ⟨(some 27), .ld (.t 26) none, (some (25, true))⟩,
     ⟨(some 28), .bin .geq (.t 27) (.k (.s (.i .i64 0))), (some (25, true))⟩,
     ⟨(some 29), .pick (.t 25) (.t 28) (.k (.s (.b false))), none⟩,
     ⟨(some 30), .mv (.t 29), none⟩,
     ⟨(some 31), .fa (.t 1) 13, (some (30, true))⟩,
     ⟨(some 32), .ld (.t 31) none, (some (30, true))⟩,
     ⟨(some 33), .bin .lss (.t 32) (.k (.s (.i .i64 65536))), (some (30, true))⟩,
     ⟨(some 34), .pick (.t 30) (.t 33) (.k (.s (.b false))), none⟩,
     ⟨(some 2), .mv (.t 34), none⟩])
   (.ret))), [.t 2]⟩
theorem dc68 : compF Try.prog Try.f68 = some df68 := by kernel_rfl
theorem ok68 : FnOk Try.prog 68 := ⟨Try.f68, Try.func68, by kernel_rfl, by kernel_rfl⟩

/-- (*citadel/mem.Memory).span -/
def df69 : DF :=
  ⟨43, .seq (.reg [⟨(some 6), .mv (.k (.s (.ns))), none⟩,
     ⟨(some 7), .mv (.k (.s (.b false))), none⟩])
   (.seq (.seq (.reg [⟨(some 8), .mv (.t 1), none⟩,
      ⟨(some 9), .bin .lss (.t 8) (.k (.s (.i .i64 0))), none⟩,
      ⟨(some 10), .mv (.t 9), none⟩,
      ⟨(some 11), .mv (.t 2), (some (10, false))⟩,
      ⟨(some 12), .bin .lss (.t 11) (.k (.s (.i .i64 0))), (some (10, false))⟩,
      ⟨(some 13), .pick (.t 10) (.k (.s (.b true))) (.t 12), none⟩,
      ⟨(some 14), .mv (.t 13), none⟩,
      ⟨(some 15), .mv (.t 1), (some (14, false))⟩,
      ⟨(some 16), .mv (.t 0), (some (14, false))⟩,
      ⟨(some 17), .nil (.t 16), (some (14, false))⟩,
      ⟨(some 18), .fa (.t 17) 0, (some (14, false))⟩,
      ⟨(some 19), .ld (.t 18) none, (some (14, false))⟩,
      ⟨(some 20), .len (.t 19), (some (14, false))⟩,
      ⟨(some 21), .bin .gtr (.t 15) (.t 20), (some (14, false))⟩,
      ⟨(some 22), .pick (.t 14) (.k (.s (.b true))) (.t 21), none⟩,
      ⟨(some 23), .mv (.t 22), none⟩,
      ⟨(some 24), .mv (.t 2), (some (23, false))⟩,
      ⟨(some 25), .mv (.t 0), (some (23, false))⟩,
      ⟨(some 26), .nil (.t 25), (some (23, false))⟩,
      ⟨(some 27), .fa (.t 26) 0, (some (23, false))⟩,
      ⟨(some 28), .ld (.t 27) none, (some (23, false))⟩,
      ⟨(some 29), .len (.t 28), (some (23, false))⟩,
      ⟨(some 30), .mv (.t 1), (some (23, false))⟩,
      ⟨(some 31), .bin .sub (.t 29) (.t 30), (some (23, false))⟩,
      ⟨(some 32), .bin .gtr (.t 24) (.t 31), (some (23, false))⟩,
      ⟨(some 33), .pick (.t 23) (.k (.s (.b true))) (.t 32), none⟩])
    (.cond (.t 33)
     (.seq (.reg [⟨(some 6), .mv (.k (.s (.ns))), none⟩,
        ⟨(some 7), .mv (.k (.s (.b false))), none⟩])
      (.ret))
     (.skip)))
   (.seq (.reg [⟨(some 34), .mv (.t 0), none⟩,
     ⟨(some 35), .nil (.t 34), none⟩,
     ⟨(some 36), .fa (.t 35) 0, none⟩,
     ⟨(some 37), .ld (.t 36) none, none⟩,
     ⟨(some 38), .mv (.t 1), none⟩,
     ⟨(some 39), .mv (.t 1), none⟩,
     ⟨(some 40), .mv (.t 2), none⟩,
     ⟨(some 41), .bin .add (.t 39) (.t 40), none⟩,
     ⟨(some 42), .slc none 1 (.t 37) (some (.t 38)) (some (.t 41)), none⟩,
     ⟨(some 6), .mv (.t 42), none⟩,
     ⟨(some 7), .mv (.k (.s (.b true))), none⟩])
   (.ret))), [.t 6, .t 7]⟩
theorem dc69 : compF Try.prog Try.f69 = some df69 := by kernel_rfl
theorem ok69 : FnOk Try.prog 69 := ⟨Try.f69, Try.func69, by kernel_rfl, by kernel_rfl⟩

/-- citadel/slots.there -/
def df70 : DF :=
  ⟨19, .seq (.reg [⟨(some 4), .mv (.k (.s (.b false))), none⟩])
   (.seq (.reg [⟨(some 5), .mv (.t 1), none⟩,
     ⟨(some 6), .bin .geq (.t 5) (.k (.s (.i .i64 4))), none⟩,
     ⟨(some 7), .mv (.t 6), none⟩,
     ⟨(some 8), .mv (.t 1), (some (7, true))⟩,
     ⟨(some 9), .bin .rem (.t 8) (.k (.s (.i .i64 4))), (some (7, true))⟩,
     ⟨(some 10), .bin .eql (.t 9) (.k (.s (.i .i64 0))), (some (7, true))⟩,
     ⟨(some 11), .pick (.t 7) (.t 10) (.k (.s (.b false))), none⟩,
     ⟨(some 12), .mv (.t 11), none⟩,
     ⟨(some 13), .mv (.t 1), (some (12, true))⟩,
     ⟨(some 14), .mv (.t 0), (some (12, true))⟩,
     ⟨(some 15), .call 90 [(.t 14)], (some (12, true))⟩,
     ⟨(some 16), .bin .sub (.t 15) (.k (.s (.i .i64 4))), (some (12, true))⟩,
     ⟨(some 17), .bin .leq (.t 13) (.t 16), (some (12, true))⟩,
     ⟨(some 18), .pick (.t 12) (.t 17) (.k (.s (.b false))), none⟩,
     ⟨(some 4), .mv (.t 18), none⟩])
   (.ret)), [.t 4]⟩
theorem dc70 : compF Try.prog Try.f70 = some df70 := by kernel_rfl
theorem ok70 : FnOk Try.prog 70 := ⟨Try.f70, Try.func70, by kernel_rfl, by kernel_rfl⟩

/-- citadel/slots.Put$1 -/
def df71 : DF :=
  ⟨6, .seq (.reg [⟨(some 2), .new [.i .i64 0, .i .u64 0], none⟩])
   (.seq (.reg [⟨(some 3), .mv (.t 0), none⟩,
     ⟨(some 4), .conv .u64 (.t 3), none⟩,
     ⟨(some 5), .build [.i .i64 0, .i .u64 0] [(0, 1, (.k (.s (.i .i64 16)))), (1, 1, (.t 4))], none⟩,
     ⟨none, .st (.t 2) (.t 5) 2, none⟩])
   (.ret)), [.c 2 (some 2)]⟩
theorem dc71 : compF Try.prog Try.f71 = some df71 := by kernel_rfl
theorem ok71 : FnOk Try.prog 71 := ⟨Try.f71, Try.func71, by kernel_rfl, by kernel_rfl⟩

/-- (*citadel/mem.Memory).Write -/
def df72 : DF :=
  ⟨11, .seq (.reg [⟨(some 6), .mv (.k (.s (.i .i64 0))), none⟩])
   (.seq (.reg [⟨(some 7), .mv (.t 0), none⟩,
     ⟨(some 8), .mv (.t 1), none⟩,
     ⟨(some 9), .mv (.t 2), none⟩,
     ⟨(some 10), .call 40 [(.t 7), (.t 8), (.k (.s (.i .i64 1))), (.t 9)], none⟩,
     ⟨(some 6), .mv (.t 10), none⟩])
   (.ret)), [.t 6]⟩
theorem dc72 : compF Try.prog Try.f72 = some df72 := by kernel_rfl
theorem ok72 : FnOk Try.prog 72 := ⟨Try.f72, Try.func72, by kernel_rfl, by kernel_rfl⟩

/-- slices.Clone[[]uint64,uint64] -/
def df73 : DF :=
  ⟨8, .seq (.reg [⟨(some 2), .mv (.k (.s (.ns))), none⟩])
   (.seq (.seq (.reg [⟨(some 3), .mv (.t 0), none⟩,
      ⟨(some 4), .eqn true false (.t 3), none⟩])
    (.cond (.t 4)
     (.seq (.reg [⟨(some 2), .mv (.k (.s (.ns))), none⟩])
      (.ret))
     (.skip)))
   (.seq (.reg [⟨(some 5), .bsl 0 [] [], none⟩,
     ⟨(some 6), .mv (.t 0), none⟩,
     ⟨(some 7), .app 1 8 (.t 5) (.t 6), none⟩,
     ⟨(some 2), .mv (.t 7), none⟩])
   (.ret))), [.t 2]⟩
theorem dc73 : compF Try.prog Try.f73 = some df73 := by kernel_rfl
theorem ok73 : FnOk Try.prog 73 := ⟨Try.f73, Try.func73, by kernel_rfl, by kernel_rfl⟩

/-- (*citadel/mem.Memory).Read -/
def df74 : DF :=
  ⟨26, .seq (.reg [⟨(some 4), .mv (.k (.s (.i .u64 0))), none⟩,
     ⟨(some 5), .mv (.k (.s (.i .i64 0))), none⟩])
   (.seq (.reg [⟨(some 9), .mv (.t 0), none⟩,
     ⟨(some 10), .mv (.t 1), none⟩,
     ⟨(some 11), .call 69 [(.t 9), (.t 10), (.k (.s (.i .i64 1)))], none⟩,
     ⟨(some 8), .mv (.t 11), none⟩,
     ⟨(some 12), .ext (.t 8) 0, none⟩,
     ⟨(some 13), .ext (.t 8) 1, none⟩,
     ⟨(some 6), .mv (.t 12), none⟩,
     ⟨(some 7), .mv (.t 13), none⟩])
   (.seq (.seq (.reg [⟨(some 14), .mv (.t 7), none⟩,
      ⟨(some 15), .un .not (.t 14), none⟩])
    (.cond (.t 15)
     (.seq (.reg [⟨(some 4), .mv (.k (.s (.i .u64 0))), none⟩,
        ⟨(some 5), .mv (.k (.s (.i .i64 20))), none⟩])
      (.ret))
     (.skip)))
   (.seq (.reg [⟨(some 16), .mv (.t 0), none⟩,
     ⟨(some 17), .nil (.t 16), none⟩,
     ⟨(some 18), .fa (.t 17) 1, none⟩,
     ⟨(some 19), .ld (.t 18) none, none⟩,
     ⟨(some 20), .bin .add (.t 19) (.k (.s (.i .i64 1))), none⟩,
     ⟨(some 21), .nil (.t 16), none⟩,
     ⟨(some 22), .fa (.t 21) 1, none⟩,
     ⟨none, .st (.t 22) (.t 20) 1, none⟩])
   (.seq (.reg [⟨(some 23), .mv (.t 6), none⟩,
     ⟨(some 24), .ia none 1 (.t 23) (.k (.s (.i .i64 0))), none⟩,
     ⟨(some 25), .ld (.t 24) none, none⟩,
     ⟨(some 4), .mv (.t 25), none⟩,
     ⟨(some 5), .mv (.k (.s (.i .i64 0))), none⟩])
   (.ret))))), [.t 4, .t 5]⟩
theorem dc74 : compF Try.prog Try.f74 = some df74 := by kernel_rfl
theorem ok74 : FnOk Try.prog 74 := ⟨Try.f74, Try.func74, by kernel_rfl, by kernel_rfl⟩

/-- citadel/citadelref02.New -/
def df75 : DF :=
  ⟨15, .seq (.reg [⟨(some 2), .mv (.k (.s (.np))), none⟩,
     ⟨(some 3), .mv (.k (.s (.i .i64 0))), none⟩])
   (.seq (.seq (.reg [⟨(some 4), .mv (.t 0), none⟩,
      ⟨(some 5), .bin .lss (.t 4) (.k (.s (.i .i64 11))), none⟩,
      ⟨(some 6), .mv (.t 5), none⟩,
      ⟨(some 7), .mv (.t 0), (some (6, false))⟩,
      ⟨(some 8), .bin .gtr (.t 7) (.k (.s (.i .i64 16))), (some (6, false))⟩,
      ⟨(some 9), .pick (.t 6) (.k (.s (.b true))) (.t 8), none⟩])
    (.cond (.t 9)
     (.seq (.reg [⟨(some 2), .mv (.k (.s (.np))), none⟩,
        ⟨(some 3), .mv (.k (.s (.i .i64 1))), none⟩])
      (.ret))
     (.skip)))
   (.seq (.reg [⟨(some 10), .mv (.t 0), none⟩,
     ⟨(some 11), .bin .shl (.k (.s (.i .i64 1))) (.t 10), none⟩,
     ⟨(some 12), .mks 1 8 [.i .u64 0] (.t 11) (.t 11), none⟩,
     ⟨(some 13), .build [.ns, .i .i64 0] [(0, 1, (.t 12))], none⟩,
     ⟨(some 14), .box (.t 13), none⟩,
     ⟨(some 2), .mv (.t 14), none⟩,
     ⟨(some 3), .mv (.k (.s (.i .i64 0))), none⟩])
   (.ret))), [.t 2, .t 3]⟩
theorem dc75 : compF Try.prog Try.f75 = some df75 := by kernel_rfl
theorem ok75 : FnOk Try.prog 75 := ⟨Try.f75, Try.func75, by kernel_rfl, by kernel_rfl⟩

/-- (*citadel/mem.Memory).Load -/
def df76 : DF :=
  ⟨22, .seq (.reg [⟨(some 6), .mv (.k (.s (.i .i64 0))), none⟩])
   (.seq (.reg [⟨(some 10), .mv (.t 0), none⟩,
     ⟨(some 11), .mv (.t 1), none⟩,
     ⟨(some 12), .mv (.t 2), none⟩,
     ⟨(some 13), .len (.t 12), none⟩,
     ⟨(some 14), .call 69 [(.t 10), (.t 11), (.t 13)], none⟩,
     ⟨(some 9), .mv (.t 14), none⟩,
     ⟨(some 15), .ext (.t 9) 0, none⟩,
     ⟨(some 16), .ext (.t 9) 1, none⟩,
     ⟨(some 7), .mv (.t 15), none⟩,
     ⟨(some 8), .mv (.t 16), none⟩])
   (.seq (.seq (.reg [⟨(some 17), .mv (.t 8), none⟩,
      ⟨(some 18), .un .not (.t 17), none⟩])
    (.cond (.t 18)
     (.seq (.reg [⟨(some 6), .mv (.k (.s (.i .i64 20))), none⟩])
      (.ret))
     (.skip)))
   (.seq (.reg [⟨(some 19), .mv (.t 7), none⟩,
     ⟨(some 20), .mv (.t 2), none⟩,
     ⟨(some 21), .cpy 1 (.t 19) (.t 20), none⟩])
   (.seq (.reg [⟨(some 6), .mv (.k (.s (.i .i64 0))), none⟩])
   (.ret))))), [.t 6]⟩
theorem dc76 : compF Try.prog Try.f76 = some df76 := by kernel_rfl
theorem ok76 : FnOk Try.prog 76 := ⟨Try.f76, Try.func76, by kernel_rfl, by kernel_rfl⟩

/-- (*citadel/citadelref02.Memory).Load -/
def df77 : DF :=
  ⟨34, .seq (.reg [⟨(some 6), .mv (.k (.s (.i .i64 0))), none⟩])
   (.seq (.reg [⟨(some 9), .mv (.t 0), none⟩,
     ⟨(some 10), .mv (.t 1), none⟩,
     ⟨(some 11), .mv (.t 2), none⟩,
     ⟨(some 12), .len (.t 11), none⟩,
     ⟨(some 13), .call 91 [(.t 9), (.t 10), (.t 12)], none⟩,
     ⟨(some 7), .mv (.t 13), none⟩])
   (.seq (.seq (.reg [⟨(some 14), .mv (.t 7), none⟩,
      ⟨(some 15), .un .not (.t 14), none⟩])
    (.cond (.t 15)
     (.seq (.reg [⟨(some 6), .mv (.k (.s (.i .i64 20))), none⟩])
      (.ret))
     (.skip)))
   (.seq (.seq (.reg [⟨(some 8), .mv (.k (.s (.i .i64 0))), none⟩])
    (.block 0 (.loop (.seq (.seq (.reg [⟨(some 16), .mv (.t 8), none⟩,
         ⟨(some 17), .mv (.t 2), none⟩,
         ⟨(some 18), .len (.t 17), none⟩,
         ⟨(some 19), .bin .lss (.t 16) (.t 18), none⟩])
       (.cond (.t 19)
        (.skip)
        (.exit 0)))
      (.seq (.block 1 (.drt 12 [⟨(some 22), .mv (.t 0), none⟩,
         ⟨(some 23), .nil (.t 22), none⟩,
         ⟨(some 24), .fa (.t 23) 0, none⟩,
         ⟨(some 25), .ld (.t 24) none, none⟩,
         ⟨(some 26), .mv (.t 1), none⟩,
         ⟨(some 27), .mv (.t 8), none⟩,
         ⟨(some 28), .bin .add (.t 26) (.t 27), none⟩,
         ⟨(some 29), .mv (.t 2), none⟩,
         ⟨(some 30), .mv (.t 8), none⟩,
         ⟨(some 31), .ia none 1 (.t 29) (.t 30), none⟩,
         ⟨(some 32), .ld (.t 31) none, none⟩,
         ⟨(some 33), .ia none 1 (.t 25) (.t 28), none⟩,
         ⟨none, .st (.t 33) (.t 32) 1, none⟩]))
      (.reg [⟨(some 20), .mv (.t 8), none⟩,
       ⟨(some 21), .bin .add (.t 20) (.k (.s (.i .i64 1))), none⟩,
       ⟨(some 8), .mv (.t 21), none⟩]))))))
   (.seq (.reg [⟨(some 6), .mv (.k (.s (.i .i64 0))), none⟩])
   (.ret))))), [.t 6]⟩
theorem dc77 : compF Try.prog Try.f77 = some df77 := by kernel_rfl
theorem ok77 : FnOk Try.prog 77 := ⟨Try.f77, Try.func77, by kernel_rfl, by kernel_rfl⟩

/-- (*citadel/mem.Memory).Steps -/
def df78 : DF :=
  ⟨7, .seq (.reg [⟨(some 2), .mv (.k (.s (.i .i64 0))), none⟩])
   (.seq (.reg [⟨(some 3), .mv (.t 0), none⟩,
     ⟨(some 4), .nil (.t 3), none⟩,
     ⟨(some 5), .fa (.t 4) 1, none⟩,
     ⟨(some 6), .ld (.t 5) none, none⟩,
     ⟨(some 2), .mv (.t 6), none⟩])
   (.ret)), [.t 2]⟩
theorem dc78 : compF Try.prog Try.f78 = some df78 := by kernel_rfl
theorem ok78 : FnOk Try.prog 78 := ⟨Try.f78, Try.func78, by kernel_rfl, by kernel_rfl⟩

/-- citadel/citadelref07.Right -/
def df79 : DF :=
  ⟨44, .seq (.reg [⟨(some 1), .box (.t 0), none⟩,
     ⟨(some 2), .mv (.k (.s (.b false))), none⟩])
   (.seq (.reg [⟨(some 6), .fa (.t 1) 0, none⟩,
     ⟨(some 7), .ld (.t 6) (some 11), none⟩,
     ⟨(some 8), .call 16 [(.t 7)], none⟩,
     ⟨(some 3), .mv (.t 8), none⟩])
   (.seq (.reg [⟨(some 9), .fa (.t 1) 11, none⟩,
     ⟨(some 10), .ld (.t 9) none, none⟩,
     ⟨(some 11), .call 92 [(.t 10)], none⟩,
     ⟨(some 4), .mv (.t 11), none⟩])
   (.seq (.reg [⟨(some 12), .fa (.t 1) 12, none⟩,
     ⟨(some 13), .ld (.t 12) none, none⟩,
     ⟨(some 14), .call 92 [(.t 13)], none⟩,
     ⟨(some 5), .mv (.t 14), none⟩])
   (.seq (.seq (.reg [⟨(some 15), .mv (.t 3), none⟩,
      ⟨(some 16), .un .not (.t 15), none⟩,
      ⟨(some 17), .mv (.t 16), none⟩,
      ⟨(some 18), .mv (.t 4), (some (17, false))⟩,
      ⟨(some 19), .un .not (.t 18), (some (17, false))⟩,
      ⟨(some 20), .pick (.t 17) (.k (.s (.b true))) (.t 19), none⟩,
      ⟨(some 21), .mv (.t 20), none⟩,
      ⟨(some 22), .mv (.t 5), (some (21, false))⟩,
      ⟨(some 23), .un .not (.t 22), (some (21, false))⟩,
      ⟨(some 24), .pick (.t 21) (.k (.s (.b true))) (.t 23), none⟩,
      ⟨(some 25), .mv (.t 24), none⟩,
      ⟨(some 26), .fa (.t 1) 13, (some (25, false))⟩,
      ⟨(some 27), .ld (.t 26) none, (some (25, false))⟩,
      ⟨(some 28), .bin .lss (.t 27) (.k (.s (.i .i64 0))), (some (25, false))⟩,
      ⟨(some 29), .pick (.t 25) (.k (.s (.b true))) (.t 28), none⟩,
      ⟨(some 30), .mv (.t 29), none⟩,
      ⟨(some 31), .fa (.t 1) 13, (some (30, false))⟩,
      ⟨(some 32), .ld (.t 31) none, (some (30, false))⟩,
      ⟨(some 33), .bin .gtr (.t 32) (.k (.s (.i .i64 65535))), (some (30, false))⟩,
      ⟨(some 34), .pick (.t 30) (.k (.s (.b true))) (.t 33), none⟩])
    (.cond (.t 34)
     (.seq (.reg [⟨(some 2), .mv (.k (.s (.b false))), none⟩])
      (.ret))
     (.skip)))
   (.seq (.reg [⟨(some 35), .fa (.t 1) 0, none⟩,
     ⟨(some 36), .fa (.t 35) 0, none⟩,
     ⟨(some 37), .ld (.t 36) none, none⟩,
     ⟨(some 38), .bin .neq (.t 37) (.k (.s (.i .i64 0))), none⟩,
     ⟨(some 39), .mv (.t 38), none⟩,
     ⟨(some 40), .ld (.t 1) (some 14), (some (39, false))⟩,
     ⟨(some 41), .build [.i .i64 0, .i .i64 0, .i .i64 0, .i .i64 0, .i .i64 0, .i .i64 0, .i .i64 0, .i .i64 0, .i .i64 0, .i .i64 0, .i .i64 0, .i .i64 0, .i .i64 0, .i .i64 0] [], (some (39, false))⟩,
     ⟨(some 42), .eqa false [true, true, true, true, true, true, true, true, true, true, true, true, true, true] (.t 40) (.t 41), (some (39, false))⟩,
     ⟨(some 43), .pick (.t 39) (.k (.s (.b true))) (.t 42), none⟩,
     ⟨(some 2), .mv (.t 43), none⟩])
   (.ret)))))), [.t 2]⟩
theorem dc79 : compF Try.prog Try.f79 = some df79 := by kernel_rfl
theorem ok79 : FnOk Try.prog 79 := ⟨Try.f79, Try.func79, by kernel_rfl, by kernel_rfl⟩

/-- citadel/citadelref07.Put -/
def df80 : DF :=
  ⟨58, .seq (.reg [⟨(some 5), .box (.t 2), none⟩,
     ⟨(some 6), .mv (.k (.s (.i .i64 0))), none⟩])
   (.seq (.reg [⟨(some 12), .mv (.t 0), none⟩,
     ⟨(some 13), .mv (.t 1), none⟩,
     ⟨(some 14), .call 93 [(.t 12), (.t 13)], none⟩,
     ⟨(some 7), .mv (.t 14), none⟩])
   (.seq (.seq (.reg [⟨(some 15), .mv (.t 7), none⟩,
      ⟨(some 16), .un .not (.t 15), none⟩])
    (.cond (.t 16)
     (.seq (.reg [⟨(some 6), .mv (.k (.s (.i .i64 20))), none⟩])
      (.ret))
     (.skip)))
   (.seq (.reg [⟨(some 17), .ld (.t 5) (some 14), none⟩,
     ⟨(some 18), .call 79 [(.t 17)], none⟩,
     ⟨(some 8), .mv (.t 18), none⟩])
   (.seq (.seq (.reg [⟨(some 19), .mv (.t 8), none⟩,
      ⟨(some 20), .un .not (.t 19), none⟩])
    (.cond (.t 20)
     (.seq (.reg [⟨(some 6), .mv (.k (.s (.i .i64 110))), none⟩])
      (.ret))
     (.skip)))
   (.seq (.reg [⟨(some 22), .fa (.t 5) 0, none⟩,
     ⟨(some 23), .ld (.t 22) (some 11), none⟩,
     ⟨(some 24), .call 18 [(.t 23)], none⟩,
     ⟨(some 21), .mv (.t 24), none⟩,
     ⟨(some 25), .ext (.t 21) 0, none⟩,
     ⟨(some 26), .ext (.t 21) 1, none⟩,
     ⟨(some 27), .ext (.t 21) 2, none⟩,
     ⟨(some 9), .mv (.t 25), none⟩,
     ⟨(some 10), .mv (.t 26), none⟩,
     ⟨(some 11), .mv (.t 27), none⟩])
   (.seq (.reg [⟨(some 28), .mv (.t 0), none⟩,
     ⟨(some 29), .mv (.t 1), none⟩,
     ⟨(some 30), .mv (.t 9), none⟩,
     ⟨(some 31), .call 94 [(.t 28), (.t 29), (.t 30)], none⟩])
   (.seq (.reg [⟨(some 32), .mv (.t 0), none⟩,
     ⟨(some 33), .mv (.t 1), none⟩,
     ⟨(some 34), .bin .add (.t 33) (.k (.s (.i .i64 1))), none⟩,
     ⟨(some 35), .mv (.t 10), none⟩,
     ⟨(some 36), .call 94 [(.t 32), (.t 34), (.t 35)], none⟩])
   (.seq (.reg [⟨(some 37), .mv (.t 0), none⟩,
     ⟨(some 38), .mv (.t 1), none⟩,
     ⟨(some 39), .bin .add (.t 38) (.k (.s (.i .i64 2))), none⟩,
     ⟨(some 40), .fa (.t 5) 11, none⟩,
     ⟨(some 41), .ld (.t 40) none, none⟩,
     ⟨(some 42), .conv .u64 (.t 41), none⟩,
     ⟨(some 43), .fa (.t 5) 12, none⟩,
     ⟨(some 44), .ld (.t 43) none, none⟩,
     ⟨(some 45), .conv .u64 (.t 44), none⟩,
     ⟨(some 46), .bin .shl (.t 45) (.k (.s (.i .u64 16))), none⟩,
     ⟨(some 47), .bin .add (.t 42) (.t 46), none⟩,
     ⟨(some 48), .fa (.t 5) 13, none⟩,
     ⟨(some 49), .ld (.t 48) none, none⟩,
     ⟨(some 50), .conv .u64 (.t 49), none⟩,
     ⟨(some 51), .bin .shl (.t 50) (.k (.s (.i .u64 32))), none⟩,
     ⟨(some 52), .bin .add (.t 47) (.t 51), none⟩,
     ⟨(some 53), .call 94 [(.t 37), (.t 39), (.t 52)], none⟩])
   (.seq (.reg [⟨(some 54), .mv (.t 0), none⟩,
     ⟨(some 55), .mv (.t 1), none⟩,
     ⟨(some 56), .bin .add (.t 55) (.k (.s (.i .i64 3))), none⟩,
     ⟨(some 57), .call 94 [(.t 54), (.t 56), (.k (.s (.i .u64 0)))], none⟩])
   (.seq (.reg [⟨(some 6), .mv (.k (.s (.i .i64 0))), none⟩])
   (.ret))))))))))), [.t 6]⟩
theorem dc80 : compF Try.prog Try.f80 = some df80 := by kernel_rfl
theorem ok80 : FnOk Try.prog 80 := ⟨Try.f80, Try.func80, by kernel_rfl, by kernel_rfl⟩

/-- citadel/citadelref07.Get -/
def df81 : DF :=
  ⟨89, .seq (.reg [⟨(some 4), .new [.i .i64 0, .i .i64 0, .i .i64 0, .i .i64 0, .i .i64 0, .i .i64 0, .i .i64 0, .i .i64 0, .i .i64 0, .i .i64 0, .i .i64 0, .i .i64 0, .i .i64 0, .i .i64 0], none⟩,
     ⟨(some 5), .mv (.k (.s (.i .i64 0))), none⟩])
   (.seq (.reg [⟨(some 19), .mv (.t 0), none⟩,
     ⟨(some 20), .mv (.t 1), none⟩,
     ⟨(some 21), .call 93 [(.t 19), (.t 20)], none⟩,
     ⟨(some 6), .mv (.t 21), none⟩])
   (.seq (.seq (.reg [⟨(some 22), .mv (.t 6), none⟩,
      ⟨(some 23), .un .not (.t 22), none⟩])
    (.cond (.t 23)
     (.seq (.reg [⟨(some 24), .build [.i .i64 0, .i .i64 0, .i .i64 0, .i .i64 0, .i .i64 0, .i .i64 0, .i .i64 0, .i .i64 0, .i .i64 0, .i .i64 0, .i .i64 0, .i .i64 0, .i .i64 0, .i .i64 0] [], none⟩,
        ⟨none, .st (.t 4) (.t 24) 14, none⟩,
        ⟨(some 5), .mv (.k (.s (.i .i64 20))), none⟩])
      (.ret))
     (.skip)))
   (.seq (.reg [⟨(some 26), .mv (.t 0), none⟩,
     ⟨(some 27), .mv (.t 1), none⟩,
     ⟨(some 28), .call 95 [(.t 26), (.t 27)], none⟩,
     ⟨(some 25), .mv (.t 28), none⟩,
     ⟨(some 29), .ext (.t 25) 0, none⟩,
     ⟨(some 30), .ext (.t 25) 1, none⟩,
     ⟨(some 7), .mv (.t 29), none⟩,
     ⟨(some 8), .mv (.t 30), none⟩])
   (.seq (.reg [⟨(some 32), .mv (.t 0), none⟩,
     ⟨(some 33), .mv (.t 1), none⟩,
     ⟨(some 34), .bin .add (.t 33) (.k (.s (.i .i64 1))), none⟩,
     ⟨(some 35), .call 95 [(.t 32), (.t 34)], none⟩,
     ⟨(some 31), .mv (.t 35), none⟩,
     ⟨(some 36), .ext (.t 31) 0, none⟩,
     ⟨(some 37), .ext (.t 31) 1, none⟩,
     ⟨(some 9), .mv (.t 36), none⟩,
     ⟨(some 10), .mv (.t 37), none⟩])
   (.seq (.reg [⟨(some 39), .mv (.t 0), none⟩,
     ⟨(some 40), .mv (.t 1), none⟩,
     ⟨(some 41), .bin .add (.t 40) (.k (.s (.i .i64 2))), none⟩,
     ⟨(some 42), .call 95 [(.t 39), (.t 41)], none⟩,
     ⟨(some 38), .mv (.t 42), none⟩,
     ⟨(some 43), .ext (.t 38) 0, none⟩,
     ⟨(some 44), .ext (.t 38) 1, none⟩,
     ⟨(some 11), .mv (.t 43), none⟩,
     ⟨(some 12), .mv (.t 44), none⟩])
   (.seq (.reg [⟨(some 46), .mv (.t 0), none⟩,
     ⟨(some 47), .mv (.t 1), none⟩,
     ⟨(some 48), .bin .add (.t 47) (.k (.s (.i .i64 3))), none⟩,
     ⟨(some 49), .call 95 [(.t 46), (.t 48)], none⟩,
     ⟨(some 45), .mv (.t 49), none⟩,
     ⟨(some 50), .ext (.t 45) 0, none⟩,
     ⟨(some 51), .ext (.t 45) 1, none⟩,
     ⟨(some 13), .mv (.t 50), none⟩,
     ⟨(some 14), .mv (.t 51), none⟩])
   (.seq (.reg [⟨(some 53), .mv (.t 7), none⟩,
     ⟨(some 54), .mv (.t 9), none⟩,
     ⟨(some 55), .call 20 [(.t 53), (.t 54)], none⟩,
     ⟨(some 52), .mv (.t 55), none⟩,
     ⟨(some 56), .ext (.t 52) 0, none⟩,
     ⟨(some 57), .ext (.t 52) 1, none⟩,
     ⟨(some 15), .new [.i .i64 0, .i .i64 0, .i .i64 0, .i .i64 0, .i .i64 0, .i .i64 0, .i .i64 0, .i .i64 0, .i .i64 0, .i .i64 0, .i .i64 0], none⟩,
     ⟨none, .st (.t 15) (.t 56) 11, none⟩,
     ⟨(some 16), .mv (.t 57), none⟩])
   (.seq (.reg [⟨(some 58), .ld (.t 15) (some 11), none⟩,
     ⟨(some 59), .mv (.t 11), none⟩,
     ⟨(some 60), .bin .rem (.t 59) (.k (.s (.i .u64 65536))), none⟩,
     ⟨(some 61), .conv .i64 (.t 60), none⟩,
     ⟨(some 62), .mv (.t 11), none⟩,
     ⟨(some 63), .bin .shr (.t 62) (.k (.s (.i .u64 16))), none⟩,
     ⟨(some 64), .bin .rem (.t 63) (.k (.s (.i .u64 65536))), none⟩,
     ⟨(some 65), .conv .i64 (.t 64), none⟩,
     ⟨(some 66), .mv (.t 11), none⟩,
     ⟨(some 67), .bin .shr (.t 66) (.k (.s (.i .u64 32))), none⟩,
     ⟨(some 68), .bin .rem (.t 67) (.k (.s (.i .u64 65536))), none⟩,
     ⟨(some 69), .conv .i64 (.t 68), none⟩,
     ⟨(some 70), .build [.i .i64 0, .i .i64 0, .i .i64 0, .i .i64 0, .i .i64 0, .i .i64 0, .i .i64 0, .i .i64 0, .i .i64 0, .i .i64 0, .i .i64 0, .i .i64 0, .i .i64 0, .i .i64 0] [(0, 11, (.t 58)), (11, 1, (.t 61)), (12, 1, (.t 65)), (13, 1, (.t 69))], none⟩,
     ⟨(some 17), .new [.i .i64 0, .i .i64 0, .i .i64 0, .i .i64 0, .i .i64 0, .i .i64 0, .i .i64 0, .i .i64 0, .i .i64 0, .i .i64 0, .i .i64 0, .i .i64 0, .i .i64 0, .i .i64 0], none⟩,
     ⟨none, .st (.t 17) (.t 70) 14, none⟩])
   (.seq (.reg [⟨(some 71), .ld (.t 17) (some 14), none⟩,
     ⟨(some 72), .call 79 [(.t 71)], none⟩,
     ⟨(some 18), .mv (.t 72), none⟩])
   (.seq (.seq (.reg [⟨(some 73), .mv (.t 16), none⟩,
      ⟨(some 74), .bin .neq (.t 73) (.k (.s (.i .i64 0))), none⟩,
      ⟨(some 75), .mv (.t 74), none⟩,
      ⟨(some 76), .mv (.t 18), (some (75, false))⟩,
      ⟨(some 77), .un .not (.t 76), (some (75, false))⟩,
      ⟨(some 78), .pick (.t 75) (.k (.s (.b true))) (.t 77), none⟩,
      ⟨(some 79), .mv (.t 78), none⟩,
      ⟨(some 80), .mv (.t 11), (some (79, false))⟩,
      ⟨(some 81), .bin .geq (.t 80) (.k (.s (.i .u64 281474976710656))), (some (79, false))⟩,
      ⟨(some 82), .pick (.t 79) (.k (.s (.b true))) (.t 81), none⟩,
      ⟨(some 83), .mv (.t 82), none⟩,
      ⟨(some 84), .mv (.t 13), (some (83, false))⟩,
      ⟨(some 85), .bin .neq (.t 84) (.k (.s (.i .u64 0))), (some (83, false))⟩,
      ⟨(some 86), .pick (.t 83) (.k (.s (.b true))) (.t 85), none⟩])
    (.cond (.t 86)
     (.seq (.reg [⟨(some 87), .build [.i .i64 0, .i .i64 0, .i .i64 0, .i .i64 0, .i .i64 0, .i .i64 0, .i .i64 0, .i .i64 0, .i .i64 0, .i .i64 0, .i .i64 0, .i .i64 0, .i .i64 0, .i .i64 0] [], none⟩,
        ⟨none, .st (.t 4) (.t 87) 14, none⟩,
        ⟨(some 5), .mv (.k (.s (.i .i64 110))), none⟩])
      (.ret))
     (.skip)))
   (.seq (.reg [⟨(some 88), .ld (.t 17) (some 14), none⟩,
     ⟨none, .st (.t 4) (.t 88) 14, none⟩,
     ⟨(some 5), .mv (.k (.s (.i .i64 0))), none⟩])
   (.ret)))))))))))), [.c 4 (some 14), .t 5]⟩
theorem dc81 : compF Try.prog Try.f81 = some df81 := by kernel_rfl
theorem ok81 : FnOk Try.prog 81 := ⟨Try.f81, Try.func81, by kernel_rfl, by kernel_rfl⟩

/-- citadel/citadelref07.Empty -/
def df82 : DF :=
  ⟨23, .seq (.reg [⟨(some 4), .mv (.k (.s (.b false))), none⟩,
     ⟨(some 5), .mv (.k (.s (.i .i64 0))), none⟩])
   (.seq (.reg [⟨(some 9), .mv (.t 0), none⟩,
     ⟨(some 10), .mv (.t 1), none⟩,
     ⟨(some 11), .call 81 [(.t 9), (.t 10)], none⟩,
     ⟨(some 8), .mv (.t 11), none⟩,
     ⟨(some 12), .ext (.t 8) 0, none⟩,
     ⟨(some 13), .ext (.t 8) 1, none⟩,
     ⟨(some 6), .new [.i .i64 0, .i .i64 0, .i .i64 0, .i .i64 0, .i .i64 0, .i .i64 0, .i .i64 0, .i .i64 0, .i .i64 0, .i .i64 0, .i .i64 0, .i .i64 0, .i .i64 0, .i .i64 0], none⟩,
     ⟨none, .st (.t 6) (.t 12) 14, none⟩,
     ⟨(some 7), .mv (.t 13), none⟩])
   (.seq (.reg [⟨(some 14), .mv (.t 7), none⟩,
     ⟨(some 15), .bin .eql (.t 14) (.k (.s (.i .i64 0))), none⟩,
     ⟨(some 16), .mv (.t 15), none⟩,
     ⟨(some 17), .fa (.t 6) 0, (some (16, true))⟩,
     ⟨(some 18), .fa (.t 17) 0, (some (16, true))⟩,
     ⟨(some 19), .ld (.t 18) none, (some (16, true))⟩,
     ⟨(some 20), .bin .eql (.t 19) (.k (.s (.i .i64 0))), (some (16, true))⟩,
     ⟨(some 21), .pick (.t 16) (.t 20) (.k (.s (.b false))), none⟩,
     ⟨(some 22), .mv (.t 7), none⟩,
     ⟨(some 4), .mv (.t 21), none⟩,
     ⟨(some 5), .mv (.t 22), none⟩])
   (.ret))), [.t 4, .t 5]⟩
theorem dc82 : compF Try.prog Try.f82 = some df82 := by kernel_rfl
theorem ok82 : FnOk Try.prog 82 := ⟨Try.f82, Try.func82, by kernel_rfl, by kernel_rfl⟩

/-- citadel/caps.sizes$1 -/
def df83 : DF :=
  ⟨13, .seq (.reg [⟨(some 2), .mv (.k (.s (.i .i64 0))), none⟩,
     ⟨(some 3), .mv (.k (.s (.b false))), none⟩])
   (.seq (.reg [⟨(some 4), .mv (.t 0), none⟩,
     ⟨(some 5), .mx true (.t 4) (.k (.s (.i .i64 0))), none⟩,
     ⟨(some 6), .bin .shl (.k (.s (.i .i64 4))) (.t 5), none⟩,
     ⟨(some 7), .mv (.t 0), none⟩,
     ⟨(some 8), .bin .geq (.t 7) (.k (.s (.i .i64 1))), none⟩,
     ⟨(some 9), .mv (.t 8), none⟩,
     ⟨(some 10), .mv (.t 0), (some (9, true))⟩,
     ⟨(some 11), .bin .leq (.t 10) (.k (.s (.i .i64 8))), (some (9, true))⟩,
     ⟨(some 12), .pick (.t 9) (.t 11) (.k (.s (.b false))), none⟩,
     ⟨(some 2), .mv (.t 6), none⟩,
     ⟨(some 3), .mv (.t 12), none⟩])
   (.ret)), [.t 2, .t 3]⟩
theorem dc83 : compF Try.prog Try.f83 = some df83 := by kernel_rfl
theorem ok83 : FnOk Try.prog 83 := ⟨Try.f83, Try.func83, by kernel_rfl, by kernel_rfl⟩

/-- citadel/word.Set -/
def df84 : DF :=
  ⟨44, .seq (.reg [⟨(some 8), .mv (.k (.s (.i .u64 0))), none⟩,
     ⟨(some 9), .mv (.k (.s (.i .i64 0))), none⟩])
   (.seq (.reg [⟨(some 13), .mv (.t 1), none⟩,
     ⟨(some 14), .mv (.t 2), none⟩,
     ⟨(some 15), .call 96 [(.t 13), (.t 14)], none⟩,
     ⟨(some 12), .mv (.t 15), none⟩,
     ⟨(some 16), .ext (.t 12) 0, none⟩,
     ⟨(some 17), .ext (.t 12) 1, none⟩,
     ⟨(some 10), .mv (.t 16), none⟩,
     ⟨(some 11), .mv (.t 17), none⟩])
   (.seq (.seq (.reg [⟨(some 18), .mv (.t 11), none⟩,
      ⟨(some 19), .un .not (.t 18), none⟩,
      ⟨(some 20), .mv (.t 19), none⟩,
      ⟨(some 21), .mv (.t 3), (some (20, false))⟩,
      ⟨(some 22), .mv (.t 1), (some (20, false))⟩,
      ⟨(some 23), .bin .shl (.t 21) (.t 22), (some (20, false))⟩,
      ⟨(some 24), .mv (.t 1), (some (20, false))⟩,
      ⟨(some 25), .bin .shr (.t 23) (.t 24), (some (20, false))⟩,
      ⟨(some 26), .mv (.t 3), (some (20, false))⟩,
      ⟨(some 27), .bin .neq (.t 25) (.t 26), (some (20, false))⟩,
      ⟨(some 28), .pick (.t 20) (.k (.s (.b true))) (.t 27), none⟩,
      ⟨(some 29), .mv (.t 28), none⟩,
      ⟨(some 30), .mv (.t 3), (some (29, false))⟩,
      ⟨(some 31), .mv (.t 1), (some (29, false))⟩,
      ⟨(some 32), .bin .shl (.t 30) (.t 31), (some (29, false))⟩,
      ⟨(some 33), .mv (.t 10), (some (29, false))⟩,
      ⟨(some 34), .bin .andNot (.t 32) (.t 33), (some (29, false))⟩,
      ⟨(some 35), .bin .neq (.t 34) (.k (.s (.i .u64 0))), (some (29, false))⟩,
      ⟨(some 36), .pick (.t 29) (.k (.s (.b true))) (.t 35), none⟩])
    (.cond (.t 36)
     (.seq (.reg [⟨(some 8), .mv (.k (.s (.i .u64 0))), none⟩,
        ⟨(some 9), .mv (.k (.s (.i .i64 10))), none⟩])
      (.ret))
     (.skip)))
   (.seq (.reg [⟨(some 37), .mv (.t 0), none⟩,
     ⟨(some 38), .mv (.t 10), none⟩,
     ⟨(some 39), .bin .andNot (.t 37) (.t 38), none⟩,
     ⟨(some 40), .mv (.t 3), none⟩,
     ⟨(some 41), .mv (.t 1), none⟩,
     ⟨(some 42), .bin .shl (.t 40) (.t 41), none⟩,
     ⟨(some 43), .bin .or (.t 39) (.t 42), none⟩,
     ⟨(some 8), .mv (.t 43), none⟩,
     ⟨(some 9), .mv (.k (.s (.i .i64 0))), none⟩])
   (.ret)))), [.t 8, .t 9]⟩
theorem dc84 : compF Try.prog Try.f84 = some df84 := by kernel_rfl
theorem ok84 : FnOk Try.prog 84 := ⟨Try.f84, Try.func84, by kernel_rfl, by kernel_rfl⟩

/-- citadel/word.Get -/
def df85 : DF :=
  ⟨23, .seq (.reg [⟨(some 6), .mv (.k (.s (.i .u64 0))), none⟩,
     ⟨(some 7), .mv (.k (.s (.i .i64 0))), none⟩])
   (.seq (.reg [⟨(some 11), .mv (.t 1), none⟩,
     ⟨(some 12), .mv (.t 2), none⟩,
     ⟨(some 13), .call 96 [(.t 11), (.t 12)], none⟩,
     ⟨(some 10), .mv (.t 13), none⟩,
     ⟨(some 14), .ext (.t 10) 0, none⟩,
     ⟨(some 15), .ext (.t 10) 1, none⟩,
     ⟨(some 8), .mv (.t 14), none⟩,
     ⟨(some 9), .mv (.t 15), none⟩])
   (.seq (.seq (.reg [⟨(some 16), .mv (.t 9), none⟩,
      ⟨(some 17), .un .not (.t 16), none⟩])
    (.cond (.t 17)
     (.seq (.reg [⟨(some 6), .mv (.k (.s (.i .u64 0))), none⟩,
        ⟨(some 7), .mv (.k (.s (.i .i64 10))), none⟩])
      (.ret))
     (.skip)))
   (.seq (.reg [⟨(some 18), .mv (.t 0), none⟩,
     ⟨(some 19), .mv (.t 8), none⟩,
     ⟨(some 20), .bin .and (.t 18) (.t 19), none⟩,
     ⟨(some 21), .mv (.t 1), none⟩,
     ⟨(some 22), .bin .shr (.t 20) (.t 21), none⟩,
     ⟨(some 6), .mv (.t 22), none⟩,
     ⟨(some 7), .mv (.k (.s (.i .i64 0))), none⟩])
   (.ret)))), [.t 6, .t 7]⟩
theorem dc85 : compF Try.prog Try.f85 = some df85 := by kernel_rfl
theorem ok85 : FnOk Try.prog 85 := ⟨Try.f85, Try.func85, by kernel_rfl, by kernel_rfl⟩

/-- citadel/heap.current -/
def df86 : DF :=
  ⟨2, .seq (.reg [⟨(some 0), .new [.i .i64 0, .i .i64 0, .i .i64 0], none⟩])
   (.seq (.reg [⟨(some 1), .build [.i .i64 0, .i .i64 0, .i .i64 0] [(0, 1, (.k (.s (.i .i64 1)))), (1, 1, (.k (.s (.i .i64 64)))), (2, 1, (.k (.s (.i .i64 1024))))], none⟩,
     ⟨none, .st (.t 0) (.t 1) 3, none⟩])
   (.ret)), [.c 0 (some 3)]⟩
theorem dc86 : compF Try.prog Try.f86 = some df86 := by kernel_rfl
theorem ok86 : FnOk Try.prog 86 := ⟨Try.f86, Try.func86, by kernel_rfl, by kernel_rfl⟩

/-- (citadel/heap.kept).set -/
def df87 : DF :=
  ⟨22, .seq (.reg [⟨(some 3), .box (.t 0), none⟩,
     ⟨(some 6), .mv (.k (.s (.i .i64 0))), none⟩])
   (.seq (.seq (.reg [⟨(some 7), .mv (.t 2), none⟩,
      ⟨(some 8), .bin .neq (.t 7) (.k (.s (.i .i64 0))), none⟩,
      ⟨(some 9), .mv (.t 8), none⟩,
      ⟨(some 10), .ld (.t 3) (some 3), (some (9, true))⟩,
      ⟨(some 11), .mv (.t 1), (some (9, true))⟩,
      ⟨(some 12), .mv (.t 2), (some (9, true))⟩,
      ⟨(some 13), .call 97 [(.t 10), (.t 11), (.t 12)], (some (9, true))⟩,
      ⟨(some 14), .un .not (.t 13), (some (9, true))⟩,
      ⟨(some 15), .pick (.t 9) (.t 14) (.k (.s (.b false))), none⟩])
    (.cond (.t 15)
     (.seq (.reg [⟨(some 6), .mv (.k (.s (.i .i64 20))), none⟩])
      (.ret))
     (.skip)))
   (.seq (.reg [⟨(some 16), .mv (.t 1), none⟩,
     ⟨(some 17), .fa (.t 3) 0, none⟩,
     ⟨(some 18), .ld (.t 17) none, none⟩,
     ⟨(some 19), .mv (.t 2), none⟩,
     ⟨(some 20), .conv .u64 (.t 19), none⟩,
     ⟨(some 21), .call 72 [(.t 16), (.t 18), (.t 20)], none⟩,
     ⟨(some 6), .mv (.t 21), none⟩])
   (.ret))), [.t 6]⟩
theorem dc87 : compF Try.prog Try.f87 = some df87 := by kernel_rfl
theorem ok87 : FnOk Try.prog 87 := ⟨Try.f87, Try.func87, by kernel_rfl, by kernel_rfl⟩

/-- (citadel/heap.kept).get -/
def df88 : DF :=
  ⟨26, .seq (.reg [⟨(some 2), .box (.t 0), none⟩,
     ⟨(some 4), .mv (.k (.s (.i .i64 0))), none⟩])
   (.seq (.reg [⟨(some 8), .mv (.t 1), none⟩,
     ⟨(some 9), .fa (.t 2) 0, none⟩,
     ⟨(some 10), .ld (.t 9) none, none⟩,
     ⟨(some 11), .call 74 [(.t 8), (.t 10)], none⟩,
     ⟨(some 7), .mv (.t 11), none⟩,
     ⟨(some 12), .ext (.t 7) 0, none⟩,
     ⟨(some 13), .ext (.t 7) 1, none⟩,
     ⟨(some 5), .mv (.t 12), none⟩,
     ⟨(some 6), .mv (.t 13), none⟩])
   (.seq (.seq (.reg [⟨(some 14), .mv (.t 5), none⟩,
      ⟨(some 15), .bin .gtr (.t 14) (.k (.s (.i .u64 65535))), none⟩,
      ⟨(some 16), .mv (.t 15), none⟩,
      ⟨(some 17), .ld (.t 2) (some 3), (some (16, false))⟩,
      ⟨(some 18), .mv (.t 1), (some (16, false))⟩,
      ⟨(some 19), .mv (.t 5), (some (16, false))⟩,
      ⟨(some 20), .conv .i64 (.t 19), (some (16, false))⟩,
      ⟨(some 21), .call 97 [(.t 17), (.t 18), (.t 20)], (some (16, false))⟩,
      ⟨(some 22), .un .not (.t 21), (some (16, false))⟩,
      ⟨(some 23), .pick (.t 16) (.k (.s (.b true))) (.t 22), none⟩])
    (.cond (.t 23)
     (.seq (.reg [⟨(some 4), .mv (.k (.s (.i .i64 0))), none⟩])
      (.ret))
     (.skip)))
   (.seq (.reg [⟨(some 24), .mv (.t 5), none⟩,
     ⟨(some 25), .conv .i64 (.t 24), none⟩,
     ⟨(some 4), .mv (.t 25), none⟩])
   (.ret)))), [.t 4]⟩
theorem dc88 : compF Try.prog Try.f88 = some df88 := by kernel_rfl
theorem ok88 : FnOk Try.prog 88 := ⟨Try.f88, Try.func88, by kernel_rfl, by kernel_rfl⟩

/-- citadel/slots.link -/
def df89 : DF :=
  ⟨14, .seq (.reg [⟨(some 2), .mv (.k (.s (.b false))), none⟩])
   (.seq (.reg [⟨(some 3), .mv (.t 0), none⟩,
     ⟨(some 4), .bin .geq (.t 3) (.k (.s (.i .i64 0))), none⟩,
     ⟨(some 5), .mv (.t 4), none⟩,
     ⟨(some 6), .mv (.t 0), (some (5, true))⟩,
     ⟨(some 7), .bin .lss (.t 6) (.k (.s (.i .i64 65536))), (some (5, true))⟩,
     ⟨(some 8), .pick (.t 5) (.t 7) (.k (.s (.b false))), none⟩,
     ⟨(some 9), .mv (.t 8), none⟩,
     ⟨(some 10), .mv (.t 0), (some (9, true))⟩,
     ⟨(some 11), .bin .rem (.t 10) (.k (.s (.i .i64 4))), (some (9, true))⟩,
     ⟨(some 12), .bin .eql (.t 11) (.k (.s (.i .i64 0))), (some (9, true))⟩,
     ⟨(some 13), .pick (.t 9) (.t 12) (.k (.s (.b false))), none⟩,
     ⟨(some 2), .mv (.t 13), none⟩])
   (.ret)), [.t 2]⟩
theorem dc89 : compF Try.prog Try.f89 = some df89 := by kernel_rfl
theorem ok89 : FnOk Try.prog 89 := ⟨Try.f89, Try.func89, by kernel_rfl, by kernel_rfl⟩

/-- (*citadel/mem.Memory).Words -/
def df90 : DF :=
  ⟨8, .seq (.reg [⟨(some 2), .mv (.k (.s (.i .i64 0))), none⟩])
   (.seq (.reg [⟨(some 3), .mv (.t 0), none⟩,
     ⟨(some 4), .nil (.t 3), none⟩,
     ⟨(some 5), .fa (.t 4) 0, none⟩,
     ⟨(some 6), .ld (.t 5) none, none⟩,
     ⟨(some 7), .len (.t 6), none⟩,
     ⟨(some 2), .mv (.t 7), none⟩])
   (.ret)), [.t 2]⟩
theorem dc90 : compF Try.prog Try.f90 = some df90 := by kernel_rfl
theorem ok90 : FnOk Try.prog 90 := ⟨Try.f90, Try.func90, by kernel_rfl, by kernel_rfl⟩

/-- (*citadel/citadelref02.Memory).There -/
def df91 : DF :=
  ⟨33, .seq (.reg [⟨(some 6), .mv (.k (.s (.b false))), none⟩])
   (.seq (.reg [⟨(some 7), .mv (.t 1), none⟩,
     ⟨(some 8), .bin .geq (.t 7) (.k (.s (.i .i64 0))), none⟩,
     ⟨(some 9), .mv (.t 8), none⟩,
     ⟨(some 10), .mv (.t 2), (some (9, true))⟩,
     ⟨(some 11), .bin .geq (.t 10) (.k (.s (.i .i64 0))), (some (9, true))⟩,
     ⟨(some 12), .pick (.t 9) (.t 11) (.k (.s (.b false))), none⟩,
     ⟨(some 13), .mv (.t 12), none⟩,
     ⟨(some 14), .mv (.t 1), (some (13, true))⟩,
     ⟨(some 15), .mv (.t 0), (some (13, true))⟩,
     ⟨(some 16), .nil (.t 15), (some (13, true))⟩,
     ⟨(some 17), .fa (.t 16) 0, (some (13, true))⟩,
     ⟨(some 18), .ld (.t 17) none, (some (13, true))⟩,
     ⟨(some 19), .len (.t 18), (some (13, true))⟩,
     ⟨(some 20), .bin .leq (.t 14) (.t 19), (some (13, true))⟩,
     ⟨(some 21), .pick (.t 13) (.t 20) (.k (.s (.b false))), none⟩,
     ⟨(some 22), .mv (.t 21), none⟩,
     ⟨(some 23), .mv (.t 2), (some (22, true))⟩,
     ⟨(some 24), .mv (.t 0), (some (22, true))⟩,
     ⟨(some 25), .nil (.t 24), (some (22, true))⟩,
     ⟨(some 26), .fa (.t 25) 0, (some (22, true))⟩,
     ⟨(some 27), .ld (.t 26) none, (some (22, true))⟩,
     ⟨(some 28), .len (.t 27), (some (22, true))⟩,
     ⟨(some 29), .mv (.t 1), (some (22, true))⟩,
     ⟨(some 30), .bin .sub (.t 28) (.t 29), (some (22, true))⟩,
     ⟨(some 31), .bin .leq (.t 23) (.t 30), (some (22, true))⟩,
     ⟨(some 32), .pick (.t 22) (.t 31) (.k (.s (.b false))), none⟩,
     ⟨(some 6), .mv (.t 32), none⟩])
   (.ret)), [.t 6]⟩
theorem dc91 : compF Try.prog Try.f91 = some df91 := by kernel_rfl
theorem ok91 : FnOk Try.prog 91 := ⟨Try.f91, Try.func91, by kernel_rfl, by kernel_rfl⟩

/-- citadel/citadelref07.Link -/
def df92 : DF :=
  ⟨14, .seq (.reg [⟨(some 2), .mv (.k (.s (.b false))), none⟩])
   (.seq (.reg [⟨(some 3), .mv (.t 0), none⟩,
     ⟨(some 4), .bin .geq (.t 3) (.k (.s (.i .i64 0))), none⟩,
     ⟨(some 5), .mv (.t 4), none⟩,
     ⟨(some 6), .mv (.t 0), (some (5, true))⟩,
     ⟨(some 7), .bin .leq (.t 6) (.k (.s (.i .i64 65532))), (some (5, true))⟩,
     ⟨(some 8), .pick (.t 5) (.t 7) (.k (.s (.b false))), none⟩,
     ⟨(some 9), .mv (.t 8), none⟩,
     ⟨(some 10), .mv (.t 0), (some (9, true))⟩,
     ⟨(some 11), .bin .rem (.t 10) (.k (.s (.i .i64 4))), (some (9, true))⟩,
     ⟨(some 12), .bin .eql (.t 11) (.k (.s (.i .i64 0))), (some (9, true))⟩,
     ⟨(some 13), .pick (.t 9) (.t 12) (.k (.s (.b false))), none⟩,
     ⟨(some 2), .mv (.t 13), none⟩])
   (.ret)), [.t 2]⟩
theorem dc92 : compF Try.prog Try.f92 = some df92 := by kernel_rfl
theorem ok92 : FnOk Try.prog 92 := ⟨Try.f92, Try.func92, by kernel_rfl, by kernel_rfl⟩

/-- citadel/citadelref07.at -/
def df93 : DF :=
  ⟨19, .seq (.reg [⟨(some 4), .mv (.k (.s (.b false))), none⟩])
   (.seq (.reg [⟨(some 6), .mv (.t 0), none⟩,
     ⟨(some 7), .mv (.t 1), none⟩,
     ⟨(some 8), .call 91 [(.t 6), (.t 7), (.k (.s (.i .i64 4)))], none⟩,
     ⟨(some 5), .mv (.t 8), none⟩])
   (.seq (.reg [⟨(some 9), .mv (.t 5), none⟩,
     ⟨(some 10), .mv (.t 9), none⟩,
     ⟨(some 11), .mv (.t 1), (some (10, true))⟩,
     ⟨(some 12), .bin .geq (.t 11) (.k (.s (.i .i64 4))), (some (10, true))⟩,
     ⟨(some 13), .pick (.t 10) (.t 12) (.k (.s (.b false))), none⟩,
     ⟨(some 14), .mv (.t 13), none⟩,
     ⟨(some 15), .mv (.t 1), (some (14, true))⟩,
     ⟨(some 16), .bin .rem (.t 15) (.k (.s (.i .i64 4))), (some (14, true))⟩,
     ⟨(some 17), .bin .eql (.t 16) (.k (.s (.i .i64 0))), (some (14, true))⟩,
     ⟨(some 18), .pick (.t 14) (.t 17) (.k (.s (.b false))), none⟩,
     ⟨(some 4), .mv (.t 18), none⟩])
   (.ret))), [.t 4]⟩
theorem dc93 : compF Try.prog Try.f93 = some df93 := by kernel_rfl
theorem ok93 : FnOk Try.prog 93 := ⟨Try.f93, Try.func93, by kernel_rfl, by kernel_rfl⟩

/-- (*citadel/citadelref02.Memory).Write -/
def df94 : DF :=
  ⟨28, .seq (.reg [⟨(some 6), .mv (.k (.s (.i .i64 0))), none⟩])
   (.seq (.reg [⟨(some 8), .mv (.t 0), none⟩,
     ⟨(some 9), .mv (.t 1), none⟩,
     ⟨(some 10), .call 91 [(.t 8), (.t 9), (.k (.s (.i .i64 1)))], none⟩,
     ⟨(some 7), .mv (.t 10), none⟩])
   (.seq (.seq (.reg [⟨(some 11), .mv (.t 7), none⟩,
      ⟨(some 12), .un .not (.t 11), none⟩])
    (.cond (.t 12)
     (.seq (.reg [⟨(some 6), .mv (.k (.s (.i .i64 20))), none⟩])
      (.ret))
     (.skip)))
   (.seq (.reg [⟨(some 13), .mv (.t 0), none⟩,
     ⟨(some 14), .mv (.t 0), none⟩,
     ⟨(some 15), .nil (.t 14), none⟩,
     ⟨(some 16), .fa (.t 15) 1, none⟩,
     ⟨(some 17), .ld (.t 16) none, none⟩,
     ⟨(some 18), .bin .add (.t 17) (.k (.s (.i .i64 1))), none⟩,
     ⟨(some 19), .nil (.t 13), none⟩,
     ⟨(some 20), .fa (.t 19) 1, none⟩,
     ⟨none, .st (.t 20) (.t 18) 1, none⟩])
   (.seq (.reg [⟨(some 21), .mv (.t 0), none⟩,
     ⟨(some 22), .nil (.t 21), none⟩,
     ⟨(some 23), .fa (.t 22) 0, none⟩,
     ⟨(some 24), .ld (.t 23) none, none⟩,
     ⟨(some 25), .mv (.t 1), none⟩,
     ⟨(some 26), .mv (.t 2), none⟩,
     ⟨(some 27), .ia none 1 (.t 24) (.t 25), none⟩,
     ⟨none, .st (.t 27) (.t 26) 1, none⟩])
   (.seq (.reg [⟨(some 6), .mv (.k (.s (.i .i64 0))), none⟩])
   (.ret)))))), [.t 6]⟩
theorem dc94 : compF Try.prog Try.f94 = some df94 := by kernel_rfl
theorem ok94 : FnOk Try.prog 94 := ⟨Try.f94, Try.func94, by kernel_rfl, by kernel_rfl⟩

/-- (*citadel/citadelref02.Memory).Read -/
def df95 : DF :=
  ⟨27, .seq (.reg [⟨(some 4), .mv (.k (.s (.i .u64 0))), none⟩,
     ⟨(some 5), .mv (.k (.s (.i .i64 0))), none⟩])
   (.seq (.reg [⟨(some 7), .mv (.t 0), none⟩,
     ⟨(some 8), .mv (.t 1), none⟩,
     ⟨(some 9), .call 91 [(.t 7), (.t 8), (.k (.s (.i .i64 1)))], none⟩,
     ⟨(some 6), .mv (.t 9), none⟩])
   (.seq (.seq (.reg [⟨(some 10), .mv (.t 6), none⟩,
      ⟨(some 11), .un .not (.t 10), none⟩])
    (.cond (.t 11)
     (.seq (.reg [⟨(some 4), .mv (.k (.s (.i .u64 0))), none⟩,
        ⟨(some 5), .mv (.k (.s (.i .i64 20))), none⟩])
      (.ret))
     (.skip)))
   (.seq (.reg [⟨(some 12), .mv (.t 0), none⟩,
     ⟨(some 13), .mv (.t 0), none⟩,
     ⟨(some 14), .nil (.t 13), none⟩,
     ⟨(some 15), .fa (.t 14) 1, none⟩,
     ⟨(some 16), .ld (.t 15) none, none⟩,
     ⟨(some 17), .bin .add (.t 16) (.k (.s (.i .i64 1))), none⟩,
     ⟨(some 18), .nil (.t 12), none⟩,
     ⟨(some 19), .fa (.t 18) 1, none⟩,
     ⟨none, .st (.t 19) (.t 17) 1, none⟩])
   (.seq (.reg [⟨(some 20), .mv (.t 0), none⟩,
     ⟨(some 21), .nil (.t 20), none⟩,
     ⟨(some 22), .fa (.t 21) 0, none⟩,
     ⟨(some 23), .ld (.t 22) none, none⟩,
     ⟨(some 24), .mv (.t 1), none⟩,
     ⟨(some 25), .ia none 1 (.t 23) (.t 24), none⟩,
     ⟨(some 26), .ld (.t 25) none, none⟩,
     ⟨(some 4), .mv (.t 26), none⟩,
     ⟨(some 5), .mv (.k (.s (.i .i64 0))), none⟩])
   (.ret))))), [.t 4, .t 5]⟩
theorem dc95 : compF Try.prog Try.f95 = some df95 := by kernel_rfl
theorem ok95 : FnOk Try.prog 95 := ⟨Try.f95, Try.func95, by kernel_rfl, by kernel_rfl⟩

/-- citadel/word.mask -/
def df96 : DF :=
  ⟨27, .seq (.reg [⟨(some 4), .mv (.k (.s (.i .u64 0))), none⟩,
     ⟨(some 5), .mv (.k (.s (.b false))), none⟩])
   (.seq (.seq (.reg [⟨(some 6), .mv (.t 0), none⟩,
      ⟨(some 7), .bin .lss (.t 6) (.k (.s (.i .i64 0))), none⟩,
      ⟨(some 8), .mv (.t 7), none⟩,
      ⟨(some 9), .mv (.t 0), (some (8, false))⟩,
      ⟨(some 10), .bin .gtr (.t 9) (.k (.s (.i .i64 63))), (some (8, false))⟩,
      ⟨(some 11), .pick (.t 8) (.k (.s (.b true))) (.t 10), none⟩,
      ⟨(some 12), .mv (.t 11), none⟩,
      ⟨(some 13), .mv (.t 1), (some (12, false))⟩,
      ⟨(some 14), .bin .lss (.t 13) (.k (.s (.i .i64 1))), (some (12, false))⟩,
      ⟨(some 15), .pick (.t 12) (.k (.s (.b true))) (.t 14), none⟩,
      ⟨(some 16), .mv (.t 15), none⟩,
      ⟨(some 17), .mv (.t 1), (some (16, false))⟩,
      ⟨(some 18), .mv (.t 0), (some (16, false))⟩,
      ⟨(some 19), .bin .sub (.k (.s (.i .i64 64))) (.t 18), (some (16, false))⟩,
      ⟨(some 20), .bin .gtr (.t 17) (.t 19), (some (16, false))⟩,
      ⟨(some 21), .pick (.t 16) (.k (.s (.b true))) (.t 20), none⟩])
    (.cond (.t 21)
     (.seq (.reg [⟨(some 4), .mv (.k (.s (.i .u64 0))), none⟩,
        ⟨(some 5), .mv (.k (.s (.b false))), none⟩])
      (.ret))
     (.skip)))
   (.seq (.reg [⟨(some 22), .mv (.t 1), none⟩,
     ⟨(some 23), .bin .sub (.k (.s (.i .i64 64))) (.t 22), none⟩,
     ⟨(some 24), .bin .shr (.k (.s (.i .u64 18446744073709551615))) (.t 23), none⟩,
     ⟨(some 25), .mv (.t 0), none⟩,
     ⟨(some 26), .bin .shl (.t 24) (.t 25), none⟩,
     ⟨(some 4), .mv (.t 26), none⟩,
     ⟨(some 5), .mv (.k (.s (.b true))), none⟩])
   (.ret))), [.t 4, .t 5]⟩
theorem dc96 : compF Try.prog Try.f96 = some df96 := by kernel_rfl
theorem ok96 : FnOk Try.prog 96 := ⟨Try.f96, Try.func96, by kernel_rfl, by kernel_rfl⟩

/-- (citadel/heap.kept).may -/
def df97 : DF :=
  ⟨27, .seq (.reg [⟨(some 3), .box (.t 0), none⟩,
     ⟨(some 6), .mv (.k (.s (.b false))), none⟩])
   (.seq (.drm [(true, ⟨(some 7), .mv (.t 2), none⟩),
     (true, ⟨(some 8), .fa (.t 3) 2, none⟩),
     (true, ⟨(some 9), .ld (.t 8) none, none⟩),
     (true, ⟨(some 10), .bin .geq (.t 7) (.t 9), none⟩),
     (true, ⟨(some 11), .mv (.t 10), none⟩),
     (true, ⟨(some 12), .mv (.t 2), (some (11, true))⟩),
     (true, ⟨(some 13), .fa (.t 3) 1, (some (11, true))⟩),
     (true, ⟨(some 14), .ld (.t 13) none, (some (11, true))⟩),
     (true, ⟨(some 15), .bin .rem (.t 12) (.t 14), (some (11, true))⟩),
     (true, ⟨(some 16), .bin .eql (.t 15) (.k (.s (.i .i64 0))), (some (11, true))⟩),
     (true, ⟨(some 17), .pick (.t 11) (.t 16) (.k (.s (.b false))), none⟩),
     (true, ⟨(some 18), .mv (.t 17), none⟩),
     (true, ⟨(some 19), .mv (.t 2), (some (18, true))⟩),
     (true, ⟨(some 20), .mv (.t 1), (some (18, true))⟩),
     (true, ⟨(some 22), .fa (.t 3) 1, (some (18, true))⟩),
     (true, ⟨(some 23), .ld (.t 22) none, (some (18, true))⟩),
     (true, ⟨(some 21), .call 90 [(.t 20)], (some (18, true))⟩),
     (true, ⟨(some 24), .bin .sub (.t 21) (.t 23), (some (18, true))⟩),
     (true, ⟨(some 25), .bin .leq (.t 19) (.t 24), (some (18, true))⟩),
     (true, ⟨(some 26), .pick (.t 18) (.t 25) (.k (.s (.b false))), none⟩),
     (true, ⟨(some 6), .mv (.t 26), none⟩)])
   (.ret)), [.t 6]⟩
theorem dc97 : compF Try.prog Try.f97 = some df97 := by kernel_rfl
theorem ok97 : FnOk Try.prog 97 := ⟨Try.f97, Try.func97, by kernel_rfl, by kernel_rfl⟩

theorem mixed : Try.prog.follows .mixedOrders = true := by kernel_rfl
end Go.Proofs.Ythegocjfnjfkdaa

