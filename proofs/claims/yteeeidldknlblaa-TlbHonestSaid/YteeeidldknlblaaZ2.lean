/- The small code of the functions of this seat, printed by a program, and that the model's code compiles to it. -/
import Derived.Test.YteeeidldknlblaaProg
import Derived.Test.YteeeidldknlblaaZ0
import Derived.KernelRfl
/- The small code of the functions of this seat, printed by a program, and that the model's code compiles to it. -/
namespace Go.Proofs.Yteeeidldknlblaa
open Go.D
set_option linter.all false
set_option maxRecDepth 100000

/-- citadel/citadellaw04.TlbHonest -/
def df3 : DF :=
  ⟨226, .seq (.reg [⟨(some 2), .mv (.k (.s (.b false))), none⟩])
   (.seq (.seq (.reg [⟨(some 18), .mv (.t 0), none⟩,
      ⟨(some 19), .len (.t 18), none⟩,
      ⟨(some 20), .bin .gtr (.t 19) (.k (.s (.i .i64 2147483647))), none⟩])
    (.cond (.t 20)
     (.seq (.reg [⟨(some 2), .mv (.k (.s (.b true))), none⟩])
      (.ret))
     (.skip)))
   (.seq (.reg [⟨(some 21), .call 13 [], none⟩,
     ⟨(some 3), .mv (.t 21), none⟩])
   (.seq (.reg [⟨(some 22), .call 14 [], none⟩,
     ⟨(some 4), .mv (.t 22), none⟩])
   (.seq (.seq (.reg [⟨(some 23), .mv (.t 4), none⟩,
      ⟨(some 24), .eqn false false (.t 23), none⟩])
    (.cond (.t 24)
     (.seq (.reg [⟨(some 2), .mv (.k (.s (.b false))), none⟩])
      (.ret))
     (.skip)))
   (.seq (.reg [⟨(some 5), .mv (.k (.s (.ns))), none⟩])
   (.seq (.seq (.reg [⟨(some 6), .mv (.k (.s (.i .i64 0))), none⟩])
    (.block 0 (.loop (.seq (.seq (.reg [⟨(some 25), .mv (.t 6), none⟩,
         ⟨(some 26), .mv (.t 0), none⟩,
         ⟨(some 27), .len (.t 26), none⟩,
         ⟨(some 28), .bin .lss (.t 25) (.t 27), none⟩])
       (.cond (.t 28)
        (.skip)
        (.exit 0)))
      (.seq (.block 1 (.seq (.reg [⟨(some 31), .mv (.t 0), none⟩,
          ⟨(some 32), .mv (.t 6), none⟩,
          ⟨(some 33), .ia none 6 (.t 31) (.t 32), none⟩,
          ⟨(some 34), .ld (.t 33) (some 6), none⟩,
          ⟨(some 7), .new [.i .i64 0, .i .i64 0, .i .i64 0, .i .i64 0, .i .i64 0, .i .i64 0], none⟩,
          ⟨none, .st (.t 7) (.t 34) 6, none⟩])
        (.seq (.reg [⟨(some 8), .mv (.k (.s (.ns))), none⟩])
        (.seq (.reg [⟨(some 9), .mv (.k (.s (.i .i64 0))), none⟩])
        (.seq (.seq (.reg [⟨(some 35), .fa (.t 7) 0, none⟩,
           ⟨(some 36), .ld (.t 35) none, none⟩])
         (.block 2 (.seq (.reg [⟨(some 38), .bin .eql (.t 36) (.k (.s (.i .i64 2))), none⟩,
            ⟨(some 37), .mv (.t 38), none⟩])
          (.cond (.t 37)
           (.reg [⟨(some 39), .mv (.t 4), none⟩,
             ⟨(some 40), .fa (.t 7) 1, none⟩,
             ⟨(some 41), .ld (.t 40) (some 4), none⟩,
             ⟨(some 42), .fa (.t 7) 5, none⟩,
             ⟨(some 43), .ld (.t 42) none, none⟩,
             ⟨(some 44), .call 15 [(.t 39), (.t 41), (.t 43)], none⟩,
             ⟨(some 9), .mv (.t 44), none⟩])
           (.seq (.reg [⟨(some 46), .bin .eql (.t 36) (.k (.s (.i .i64 3))), none⟩,
              ⟨(some 45), .mv (.t 46), none⟩])
            (.cond (.t 45)
             (.reg [⟨(some 47), .mv (.t 4), none⟩,
               ⟨(some 48), .fa (.t 7) 5, none⟩,
               ⟨(some 49), .ld (.t 48) none, none⟩,
               ⟨(some 50), .call 16 [(.t 47), (.t 49)], none⟩])
             (.seq (.reg [⟨(some 52), .bin .eql (.t 36) (.k (.s (.i .i64 4))), none⟩,
                ⟨(some 51), .mv (.t 52), none⟩])
              (.cond (.t 51)
               (.reg [⟨(some 53), .mv (.t 4), none⟩,
                 ⟨(some 54), .fa (.t 7) 1, none⟩,
                 ⟨(some 55), .fa (.t 54) 0, none⟩,
                 ⟨(some 56), .ld (.t 55) none, none⟩,
                 ⟨(some 57), .fa (.t 7) 1, none⟩,
                 ⟨(some 58), .fa (.t 57) 1, none⟩,
                 ⟨(some 59), .ld (.t 58) none, none⟩,
                 ⟨(some 60), .call 17 [(.t 53), (.t 56), (.t 59)], none⟩])
               (.seq (.reg [⟨(some 62), .bin .eql (.t 36) (.k (.s (.i .i64 5))), none⟩,
                  ⟨(some 61), .mv (.t 62), none⟩])
                (.cond (.t 61)
                 (.reg [⟨(some 63), .mv (.t 4), none⟩,
                   ⟨(some 64), .fa (.t 7) 1, none⟩,
                   ⟨(some 65), .fa (.t 64) 0, none⟩,
                   ⟨(some 66), .ld (.t 65) none, none⟩,
                   ⟨(some 67), .call 18 [(.t 63), (.t 66)], none⟩])
                 (.seq (.reg [⟨(some 69), .bin .eql (.t 36) (.k (.s (.i .i64 6))), none⟩,
                    ⟨(some 68), .mv (.t 69), none⟩])
                  (.cond (.t 68)
                   (.reg [⟨(some 70), .mv (.t 4), none⟩,
                     ⟨(some 71), .call 19 [(.t 70)], none⟩])
                   (.skip)))))))))))))
        (.seq (.seq (.reg [⟨(some 10), .mv (.k (.s (.i .i64 0))), none⟩])
         (.block 3 (.loop (.seq (.seq (.reg [⟨(some 72), .mv (.t 10), none⟩,
              ⟨(some 73), .mv (.t 5), none⟩,
              ⟨(some 74), .len (.t 73), none⟩,
              ⟨(some 75), .bin .lss (.t 72) (.t 74), none⟩])
            (.cond (.t 75)
             (.skip)
             (.exit 3)))
           (.seq (.block 4 (.seq (.drq [⟨(some 78), .mv (.t 5), none⟩,
               ⟨(some 79), .mv (.t 10), none⟩,
               ⟨(some 80), .ia none 4 (.t 78) (.t 79), none⟩,
               ⟨(some 81), .fa (.t 80) 0, none⟩,
               ⟨(some 82), .ld (.t 81) none, none⟩,
               ⟨(some 83), .fa (.t 7) 1, none⟩,
               ⟨(some 84), .fa (.t 83) 0, none⟩,
               ⟨(some 85), .ld (.t 84) none, none⟩,
               ⟨(some 86), .bin .eql (.t 82) (.t 85), none⟩,
               ⟨(some 87), .mv (.t 86), none⟩,
               ⟨(some 88), .mv (.t 5), (some (87, true))⟩,
               ⟨(some 89), .mv (.t 10), (some (87, true))⟩,
               ⟨(some 90), .ia none 4 (.t 88) (.t 89), (some (87, true))⟩,
               ⟨(some 91), .fa (.t 90) 1, (some (87, true))⟩,
               ⟨(some 92), .ld (.t 91) none, (some (87, true))⟩,
               ⟨(some 93), .fa (.t 7) 1, (some (87, true))⟩,
               ⟨(some 94), .fa (.t 93) 1, (some (87, true))⟩,
               ⟨(some 95), .ld (.t 94) none, (some (87, true))⟩,
               ⟨(some 96), .bin .eql (.t 92) (.t 95), (some (87, true))⟩,
               ⟨(some 97), .pick (.t 87) (.t 96) (.k (.s (.b false))), none⟩,
               ⟨(some 11), .mv (.t 97), none⟩])
             (.seq (.drq [⟨(some 98), .fa (.t 7) 0, none⟩,
               ⟨(some 99), .ld (.t 98) none, none⟩,
               ⟨(some 100), .bin .eql (.t 99) (.k (.s (.i .i64 2))), none⟩,
               ⟨(some 101), .mv (.t 100), none⟩,
               ⟨(some 102), .mv (.t 9), (some (101, true))⟩,
               ⟨(some 103), .bin .eql (.t 102) (.k (.s (.i .i64 0))), (some (101, true))⟩,
               ⟨(some 104), .pick (.t 101) (.t 103) (.k (.s (.b false))), none⟩,
               ⟨(some 105), .mv (.t 104), none⟩,
               ⟨(some 106), .mv (.t 11), (some (105, true))⟩,
               ⟨(some 107), .pick (.t 105) (.t 106) (.k (.s (.b false))), none⟩,
               ⟨(some 108), .mv (.t 107), none⟩,
               ⟨(some 109), .fa (.t 7) 0, (some (108, false))⟩,
               ⟨(some 110), .ld (.t 109) none, (some (108, false))⟩,
               ⟨(some 111), .bin .eql (.t 110) (.k (.s (.i .i64 4))), (some (108, false))⟩,
               ⟨(some 112), .mv (.t 111), (some (108, false))⟩,
               ⟨(some 113), .mv (.t 11), (some (112, true))⟩,
               ⟨(some 114), .pick (.t 112) (.t 113) (.k (.s (.b false))), (some (108, false))⟩,
               ⟨(some 115), .pick (.t 108) (.k (.s (.b true))) (.t 114), none⟩,
               ⟨(some 116), .mv (.t 115), none⟩,
               ⟨(some 117), .fa (.t 7) 0, (some (116, false))⟩,
               ⟨(some 118), .ld (.t 117) none, (some (116, false))⟩,
               ⟨(some 119), .bin .eql (.t 118) (.k (.s (.i .i64 5))), (some (116, false))⟩,
               ⟨(some 120), .mv (.t 119), (some (116, false))⟩,
               ⟨(some 121), .mv (.t 5), (some (120, true))⟩,
               ⟨(some 122), .mv (.t 10), (some (120, true))⟩,
               ⟨(some 123), .ia none 4 (.t 121) (.t 122), (some (120, true))⟩,
               ⟨(some 124), .fa (.t 123) 0, (some (120, true))⟩,
               ⟨(some 125), .ld (.t 124) none, (some (120, true))⟩,
               ⟨(some 126), .fa (.t 7) 1, (some (120, true))⟩,
               ⟨(some 127), .fa (.t 126) 0, (some (120, true))⟩,
               ⟨(some 128), .ld (.t 127) none, (some (120, true))⟩,
               ⟨(some 129), .bin .eql (.t 125) (.t 128), (some (120, true))⟩,
               ⟨(some 130), .pick (.t 120) (.t 129) (.k (.s (.b false))), (some (116, false))⟩,
               ⟨(some 131), .pick (.t 116) (.k (.s (.b true))) (.t 130), none⟩,
               ⟨(some 132), .mv (.t 131), none⟩,
               ⟨(some 133), .fa (.t 7) 0, (some (132, false))⟩,
               ⟨(some 134), .ld (.t 133) none, (some (132, false))⟩,
               ⟨(some 135), .bin .eql (.t 134) (.k (.s (.i .i64 6))), (some (132, false))⟩,
               ⟨(some 136), .pick (.t 132) (.k (.s (.b true))) (.t 135), none⟩,
               ⟨(some 12), .mv (.t 136), none⟩])
             (.seq (.reg [⟨(some 137), .mv (.t 12), none⟩,
               ⟨(some 138), .un .not (.t 137), none⟩])
             (.cond (.t 138)
              (.reg [⟨(some 139), .mv (.t 8), none⟩,
                ⟨(some 140), .mv (.t 5), none⟩,
                ⟨(some 141), .mv (.t 10), none⟩,
                ⟨(some 142), .ia none 4 (.t 140) (.t 141), none⟩,
                ⟨(some 143), .ld (.t 142) (some 4), none⟩,
                ⟨(some 144), .bsl 1 [.i .i64 0, .i .i64 0, .i .i64 0, .i .i64 0] [(0, 4, (.t 143))], none⟩,
                ⟨(some 145), .app 4 32 (.t 139) (.t 144), none⟩,
                ⟨(some 8), .mv (.t 145), none⟩])
              (.skip))))))
           (.reg [⟨(some 76), .mv (.t 10), none⟩,
            ⟨(some 77), .bin .add (.t 76) (.k (.s (.i .i64 1))), none⟩,
            ⟨(some 10), .mv (.t 77), none⟩]))))))
        (.seq (.seq (.reg [⟨(some 146), .fa (.t 7) 0, none⟩,
           ⟨(some 147), .ld (.t 146) none, none⟩,
           ⟨(some 148), .bin .eql (.t 147) (.k (.s (.i .i64 2))), none⟩,
           ⟨(some 149), .mv (.t 148), none⟩,
           ⟨(some 150), .mv (.t 9), (some (149, true))⟩,
           ⟨(some 151), .bin .eql (.t 150) (.k (.s (.i .i64 0))), (some (149, true))⟩,
           ⟨(some 152), .pick (.t 149) (.t 151) (.k (.s (.b false))), none⟩])
         (.cond (.t 152)
          (.reg [⟨(some 153), .mv (.t 8), none⟩,
            ⟨(some 154), .fa (.t 7) 1, none⟩,
            ⟨(some 155), .ld (.t 154) (some 4), none⟩,
            ⟨(some 156), .bsl 1 [.i .i64 0, .i .i64 0, .i .i64 0, .i .i64 0] [(0, 4, (.t 155))], none⟩,
            ⟨(some 157), .app 4 32 (.t 153) (.t 156), none⟩,
            ⟨(some 8), .mv (.t 157), none⟩])
          (.skip)))
        (.seq (.reg [⟨(some 158), .mv (.t 8), none⟩,
          ⟨(some 5), .mv (.t 158), none⟩])
        (.seq (.reg [⟨(some 159), .mv (.t 4), none⟩,
          ⟨(some 160), .call 20 [(.t 159)], none⟩,
          ⟨(some 13), .mv (.t 160), none⟩])
        (.seq (.reg [⟨(some 14), .mv (.k (.s (.i .i64 0))), none⟩])
        (.block 5 (.loop (.seq (.seq (.reg [⟨(some 161), .mv (.t 14), none⟩,
             ⟨(some 162), .mv (.t 13), none⟩,
             ⟨(some 163), .len (.t 162), none⟩,
             ⟨(some 164), .bin .lss (.t 161) (.t 163), none⟩])
           (.cond (.t 164)
            (.skip)
            (.exit 5)))
          (.seq (.block 6 (.seq (.seq (.reg [⟨(some 167), .mv (.t 13), none⟩,
               ⟨(some 168), .mv (.t 14), none⟩,
               ⟨(some 169), .ia none 4 (.t 167) (.t 168), none⟩,
               ⟨(some 170), .ld (.t 169) (some 4), none⟩,
               ⟨(some 171), .build [.i .i64 0, .i .i64 0, .i .i64 0, .i .i64 0] [], none⟩,
               ⟨(some 172), .eqa false [true, true, true, true] (.t 170) (.t 171), none⟩])
             (.cond (.t 172)
              (.exit 6)
              (.skip)))
            (.seq (.reg [⟨(some 15), .mv (.k (.s (.b false))), none⟩])
            (.seq (.seq (.reg [⟨(some 16), .mv (.k (.s (.i .i64 0))), none⟩])
             (.block 7 (.loop (.seq (.seq (.reg [⟨(some 173), .mv (.t 16), none⟩,
                  ⟨(some 174), .mv (.t 5), none⟩,
                  ⟨(some 175), .len (.t 174), none⟩,
                  ⟨(some 176), .bin .lss (.t 173) (.t 175), none⟩])
                (.cond (.t 176)
                 (.skip)
                 (.exit 7)))
               (.seq (.block 8 (.drq [⟨(some 179), .mv (.t 15), none⟩,
                  ⟨(some 180), .mv (.t 179), none⟩,
                  ⟨(some 181), .mv (.t 5), (some (180, false))⟩,
                  ⟨(some 182), .mv (.t 16), (some (180, false))⟩,
                  ⟨(some 183), .ia none 4 (.t 181) (.t 182), (some (180, false))⟩,
                  ⟨(some 184), .ld (.t 183) (some 4), (some (180, false))⟩,
                  ⟨(some 185), .mv (.t 13), (some (180, false))⟩,
                  ⟨(some 186), .mv (.t 14), (some (180, false))⟩,
                  ⟨(some 187), .ia none 4 (.t 185) (.t 186), (some (180, false))⟩,
                  ⟨(some 188), .ld (.t 187) (some 4), (some (180, false))⟩,
                  ⟨(some 189), .eqa false [true, true, true, true] (.t 184) (.t 188), (some (180, false))⟩,
                  ⟨(some 190), .pick (.t 180) (.k (.s (.b true))) (.t 189), none⟩,
                  ⟨(some 15), .mv (.t 190), none⟩]))
               (.reg [⟨(some 177), .mv (.t 16), none⟩,
                ⟨(some 178), .bin .add (.t 177) (.k (.s (.i .i64 1))), none⟩,
                ⟨(some 16), .mv (.t 178), none⟩]))))))
            (.seq (.seq (.reg [⟨(some 17), .mv (.k (.s (.i .i64 0))), none⟩])
             (.block 9 (.loop (.seq (.seq (.reg [⟨(some 191), .mv (.t 17), none⟩,
                  ⟨(some 192), .mv (.t 14), none⟩,
                  ⟨(some 193), .bin .lss (.t 191) (.t 192), none⟩])
                (.cond (.t 193)
                 (.skip)
                 (.exit 9)))
               (.seq (.block 10 (.drq [⟨(some 196), .mv (.t 15), none⟩,
                  ⟨(some 197), .mv (.t 196), none⟩,
                  ⟨(some 198), .mv (.t 13), (some (197, true))⟩,
                  ⟨(some 199), .mv (.t 17), (some (197, true))⟩,
                  ⟨(some 200), .ia none 4 (.t 198) (.t 199), (some (197, true))⟩,
                  ⟨(some 201), .fa (.t 200) 0, (some (197, true))⟩,
                  ⟨(some 202), .ld (.t 201) none, (some (197, true))⟩,
                  ⟨(some 203), .mv (.t 13), (some (197, true))⟩,
                  ⟨(some 204), .mv (.t 14), (some (197, true))⟩,
                  ⟨(some 205), .ia none 4 (.t 203) (.t 204), (some (197, true))⟩,
                  ⟨(some 206), .fa (.t 205) 0, (some (197, true))⟩,
                  ⟨(some 207), .ld (.t 206) none, (some (197, true))⟩,
                  ⟨(some 208), .bin .neq (.t 202) (.t 207), (some (197, true))⟩,
                  ⟨(some 209), .mv (.t 208), (some (197, true))⟩,
                  ⟨(some 210), .mv (.t 13), (some (209, false))⟩,
                  ⟨(some 211), .mv (.t 17), (some (209, false))⟩,
                  ⟨(some 212), .ia none 4 (.t 210) (.t 211), (some (209, false))⟩,
                  ⟨(some 213), .fa (.t 212) 1, (some (209, false))⟩,
                  ⟨(some 214), .ld (.t 213) none, (some (209, false))⟩,
                  ⟨(some 215), .mv (.t 13), (some (209, false))⟩,
                  ⟨(some 216), .mv (.t 14), (some (209, false))⟩,
                  ⟨(some 217), .ia none 4 (.t 215) (.t 216), (some (209, false))⟩,
                  ⟨(some 218), .fa (.t 217) 1, (some (209, false))⟩,
                  ⟨(some 219), .ld (.t 218) none, (some (209, false))⟩,
                  ⟨(some 220), .bin .neq (.t 214) (.t 219), (some (209, false))⟩,
                  ⟨(some 221), .pick (.t 209) (.k (.s (.b true))) (.t 220), (some (197, true))⟩,
                  ⟨(some 222), .pick (.t 197) (.t 221) (.k (.s (.b false))), none⟩,
                  ⟨(some 15), .mv (.t 222), none⟩]))
               (.reg [⟨(some 194), .mv (.t 17), none⟩,
                ⟨(some 195), .bin .add (.t 194) (.k (.s (.i .i64 1))), none⟩,
                ⟨(some 17), .mv (.t 195), none⟩]))))))
            (.seq (.reg [⟨(some 223), .mv (.t 15), none⟩,
              ⟨(some 224), .un .not (.t 223), none⟩])
            (.cond (.t 224)
             (.seq (.reg [⟨(some 2), .mv (.k (.s (.b false))), none⟩])
              (.ret))
             (.skip))))))))
          (.reg [⟨(some 165), .mv (.t 14), none⟩,
           ⟨(some 166), .bin .add (.t 165) (.k (.s (.i .i64 1))), none⟩,
           ⟨(some 14), .mv (.t 166), none⟩])))))))))))))))
      (.reg [⟨(some 29), .mv (.t 6), none⟩,
       ⟨(some 30), .bin .add (.t 29) (.k (.s (.i .i64 1))), none⟩,
       ⟨(some 6), .mv (.t 30), none⟩]))))))
   (.seq (.reg [⟨(some 225), .mv (.t 3), none⟩,
     ⟨(some 2), .mv (.t 225), none⟩])
   (.ret)))))))), [.t 2]⟩
theorem dc3 : compF Try.prog Try.f3 = some df3 := by kernel_rfl
theorem ok3 : FnOk Try.prog 3 := ⟨Try.f3, Try.func3, by kernel_rfl, by kernel_rfl⟩

/-- citadel/citadellaw02.MemKeeps -/
def df4 : DF :=
  ⟨165, .seq (.reg [⟨(some 2), .mv (.k (.s (.b false))), none⟩])
   (.seq (.reg [⟨(some 19), .mv (.t 0), none⟩,
     ⟨(some 20), .call 21 [(.t 19)], none⟩,
     ⟨(some 3), .mv (.t 20), none⟩])
   (.seq (.seq (.reg [⟨(some 21), .mv (.t 3), none⟩,
      ⟨(some 22), .bin .gtr (.t 21) (.k (.s (.i .i64 2147483647))), none⟩])
    (.cond (.t 22)
     (.seq (.reg [⟨(some 2), .mv (.k (.s (.b true))), none⟩])
      (.ret))
     (.skip)))
   (.seq (.reg [⟨(some 23), .call 22 [], none⟩,
     ⟨(some 4), .mv (.t 23), none⟩])
   (.seq (.reg [⟨(some 25), .call 23 [(.k (.s (.i .i64 11)))], none⟩,
     ⟨(some 24), .mv (.t 25), none⟩,
     ⟨(some 26), .ext (.t 24) 0, none⟩,
     ⟨(some 27), .ext (.t 24) 1, none⟩,
     ⟨(some 5), .mv (.t 26), none⟩,
     ⟨(some 6), .mv (.t 27), none⟩])
   (.seq (.seq (.reg [⟨(some 28), .mv (.t 5), none⟩,
      ⟨(some 29), .eqn false false (.t 28), none⟩,
      ⟨(some 30), .mv (.t 29), none⟩,
      ⟨(some 31), .mv (.t 6), (some (30, false))⟩,
      ⟨(some 32), .bin .neq (.t 31) (.k (.s (.i .i64 0))), (some (30, false))⟩,
      ⟨(some 33), .pick (.t 30) (.k (.s (.b true))) (.t 32), none⟩])
    (.cond (.t 33)
     (.seq (.reg [⟨(some 2), .mv (.k (.s (.b false))), none⟩])
      (.ret))
     (.skip)))
   (.seq (.reg [⟨(some 7), .mv (.k (.s (.i .i64 0))), none⟩])
   (.seq (.seq (.reg [⟨(some 8), .mv (.k (.s (.i .i64 0))), none⟩])
    (.block 0 (.loop (.seq (.seq (.reg [⟨(some 34), .mv (.t 8), none⟩,
         ⟨(some 35), .mv (.t 0), none⟩,
         ⟨(some 36), .len (.t 35), none⟩,
         ⟨(some 37), .bin .lss (.t 34) (.t 36), none⟩])
       (.cond (.t 37)
        (.skip)
        (.exit 0)))
      (.seq (.block 1 (.seq (.drt 11 [⟨(some 40), .mv (.t 5), none⟩,
          ⟨(some 41), .mv (.t 0), none⟩,
          ⟨(some 42), .mv (.t 8), none⟩,
          ⟨(some 43), .ia none 6 (.t 41) (.t 42), none⟩,
          ⟨(some 44), .fa (.t 43) 1, none⟩,
          ⟨(some 45), .ld (.t 44) none, none⟩,
          ⟨(some 46), .mv (.t 0), none⟩,
          ⟨(some 47), .mv (.t 8), none⟩,
          ⟨(some 48), .ia none 6 (.t 46) (.t 47), none⟩,
          ⟨(some 49), .fa (.t 48) 4, none⟩,
          ⟨(some 50), .ld (.t 49) none, none⟩,
          ⟨(some 51), .call 24 [(.t 40), (.t 45), (.t 50)], none⟩,
          ⟨(some 9), .mv (.t 51), none⟩])
        (.seq (.reg [⟨(some 52), .mv (.t 0), none⟩,
          ⟨(some 53), .mv (.t 8), none⟩,
          ⟨(some 54), .ia none 6 (.t 52) (.t 53), none⟩,
          ⟨(some 55), .fa (.t 54) 1, none⟩,
          ⟨(some 56), .ld (.t 55) none, none⟩,
          ⟨(some 57), .bin .geq (.t 56) (.k (.s (.i .i64 0))), none⟩,
          ⟨(some 58), .mv (.t 57), none⟩,
          ⟨(some 59), .mv (.t 0), (some (58, true))⟩,
          ⟨(some 60), .mv (.t 8), (some (58, true))⟩,
          ⟨(some 61), .ia none 6 (.t 59) (.t 60), (some (58, true))⟩,
          ⟨(some 62), .fa (.t 61) 1, (some (58, true))⟩,
          ⟨(some 63), .ld (.t 62) none, (some (58, true))⟩,
          ⟨(some 64), .bin .lss (.t 63) (.k (.s (.i .i64 2048))), (some (58, true))⟩,
          ⟨(some 65), .pick (.t 58) (.t 64) (.k (.s (.b false))), none⟩,
          ⟨(some 10), .mv (.t 65), none⟩])
        (.seq (.seq (.reg [⟨(some 66), .mv (.t 10), none⟩,
           ⟨(some 67), .mv (.t 9), none⟩,
           ⟨(some 68), .bin .eql (.t 67) (.k (.s (.i .i64 0))), none⟩,
           ⟨(some 69), .eqb true (.t 66) (.t 68), none⟩,
           ⟨(some 70), .mv (.t 69), none⟩,
           ⟨(some 71), .mv (.t 10), (some (70, false))⟩,
           ⟨(some 72), .un .not (.t 71), (some (70, false))⟩,
           ⟨(some 73), .mv (.t 72), (some (70, false))⟩,
           ⟨(some 74), .mv (.t 9), (some (73, true))⟩,
           ⟨(some 75), .bin .neq (.t 74) (.k (.s (.i .i64 20))), (some (73, true))⟩,
           ⟨(some 76), .pick (.t 73) (.t 75) (.k (.s (.b false))), (some (70, false))⟩,
           ⟨(some 77), .pick (.t 70) (.k (.s (.b true))) (.t 76), none⟩])
         (.cond (.t 77)
          (.seq (.reg [⟨(some 2), .mv (.k (.s (.b false))), none⟩])
           (.ret))
          (.skip)))
        (.seq (.reg [⟨(some 78), .mv (.t 10), none⟩])
        (.cond (.t 78)
         (.reg [⟨(some 79), .mv (.t 7), none⟩,
           ⟨(some 80), .bin .add (.t 79) (.k (.s (.i .i64 1))), none⟩,
           ⟨(some 7), .mv (.t 80), none⟩])
         (.skip)))))))
      (.reg [⟨(some 38), .mv (.t 8), none⟩,
       ⟨(some 39), .bin .add (.t 38) (.k (.s (.i .i64 1))), none⟩,
       ⟨(some 8), .mv (.t 39), none⟩]))))))
   (.seq (.reg [⟨(some 81), .mv (.t 5), none⟩,
     ⟨(some 82), .call 25 [(.t 81)], none⟩,
     ⟨(some 11), .mv (.t 82), none⟩])
   (.seq (.reg [⟨(some 84), .mv (.t 5), none⟩,
     ⟨(some 85), .call 26 [(.t 84), (.k (.s (.i .i64 0))), (.k (.s (.i .i64 2048)))], none⟩,
     ⟨(some 83), .mv (.t 85), none⟩,
     ⟨(some 86), .ext (.t 83) 0, none⟩,
     ⟨(some 87), .ext (.t 83) 1, none⟩,
     ⟨(some 12), .mv (.t 86), none⟩,
     ⟨(some 13), .mv (.t 87), none⟩])
   (.seq (.seq (.reg [⟨(some 88), .mv (.t 13), none⟩,
      ⟨(some 89), .bin .neq (.t 88) (.k (.s (.i .i64 0))), none⟩,
      ⟨(some 90), .mv (.t 89), none⟩,
      ⟨(some 91), .mv (.t 12), (some (90, false))⟩,
      ⟨(some 92), .len (.t 91), (some (90, false))⟩,
      ⟨(some 93), .bin .neq (.t 92) (.k (.s (.i .i64 2048))), (some (90, false))⟩,
      ⟨(some 94), .pick (.t 90) (.k (.s (.b true))) (.t 93), none⟩,
      ⟨(some 95), .mv (.t 94), none⟩,
      ⟨(some 96), .mv (.t 11), (some (95, false))⟩,
      ⟨(some 97), .mv (.t 7), (some (95, false))⟩,
      ⟨(some 98), .bin .neq (.t 96) (.t 97), (some (95, false))⟩,
      ⟨(some 99), .pick (.t 95) (.k (.s (.b true))) (.t 98), none⟩])
    (.cond (.t 99)
     (.seq (.reg [⟨(some 2), .mv (.k (.s (.b false))), none⟩])
      (.ret))
     (.skip)))
   (.seq (.seq (.reg [⟨(some 100), .mv (.t 0), none⟩,
      ⟨(some 101), .len (.t 100), none⟩,
      ⟨(some 102), .bin .sub (.t 101) (.k (.s (.i .i64 1))), none⟩,
      ⟨(some 14), .mv (.t 102), none⟩])
    (.block 2 (.loop (.seq (.seq (.reg [⟨(some 103), .mv (.t 14), none⟩,
         ⟨(some 104), .bin .geq (.t 103) (.k (.s (.i .i64 0))), none⟩])
       (.cond (.t 104)
        (.skip)
        (.exit 2)))
      (.seq (.block 3 (.seq (.reg [⟨(some 107), .mv (.t 0), none⟩,
          ⟨(some 108), .mv (.t 14), none⟩,
          ⟨(some 109), .ia none 6 (.t 107) (.t 108), none⟩,
          ⟨(some 110), .fa (.t 109) 1, none⟩,
          ⟨(some 111), .ld (.t 110) none, none⟩,
          ⟨(some 15), .mv (.t 111), none⟩])
        (.seq (.reg [⟨(some 112), .mv (.t 15), none⟩,
          ⟨(some 113), .bin .geq (.t 112) (.k (.s (.i .i64 0))), none⟩,
          ⟨(some 114), .mv (.t 113), none⟩,
          ⟨(some 115), .mv (.t 15), (some (114, true))⟩,
          ⟨(some 116), .bin .lss (.t 115) (.k (.s (.i .i64 2048))), (some (114, true))⟩,
          ⟨(some 117), .pick (.t 114) (.t 116) (.k (.s (.b false))), none⟩,
          ⟨(some 16), .mv (.t 117), none⟩])
        (.seq (.seq (.reg [⟨(some 118), .mv (.t 14), none⟩,
           ⟨(some 119), .bin .add (.t 118) (.k (.s (.i .i64 1))), none⟩,
           ⟨(some 17), .mv (.t 119), none⟩])
         (.block 4 (.loop (.seq (.seq (.reg [⟨(some 120), .mv (.t 17), none⟩,
              ⟨(some 121), .mv (.t 0), none⟩,
              ⟨(some 122), .len (.t 121), none⟩,
              ⟨(some 123), .bin .lss (.t 120) (.t 122), none⟩,
              ⟨(some 124), .mv (.t 123), none⟩,
              ⟨(some 125), .mv (.t 16), (some (124, true))⟩,
              ⟨(some 126), .pick (.t 124) (.t 125) (.k (.s (.b false))), none⟩])
            (.cond (.t 126)
             (.skip)
             (.exit 4)))
           (.seq (.block 5 (.reg [⟨(some 129), .mv (.t 0), none⟩,
              ⟨(some 130), .mv (.t 17), none⟩,
              ⟨(some 131), .ia none 6 (.t 129) (.t 130), none⟩,
              ⟨(some 132), .fa (.t 131) 1, none⟩,
              ⟨(some 133), .ld (.t 132) none, none⟩,
              ⟨(some 134), .mv (.t 15), none⟩,
              ⟨(some 135), .bin .neq (.t 133) (.t 134), none⟩,
              ⟨(some 16), .mv (.t 135), none⟩]))
           (.reg [⟨(some 127), .mv (.t 17), none⟩,
            ⟨(some 128), .bin .add (.t 127) (.k (.s (.i .i64 1))), none⟩,
            ⟨(some 17), .mv (.t 128), none⟩]))))))
        (.seq (.seq (.drq [⟨(some 136), .mv (.t 16), none⟩,
           ⟨(some 137), .mv (.t 136), none⟩,
           ⟨(some 138), .mv (.t 12), (some (137, true))⟩,
           ⟨(some 139), .mv (.t 15), (some (137, true))⟩,
           ⟨(some 140), .ia none 1 (.t 138) (.t 139), (some (137, true))⟩,
           ⟨(some 141), .ld (.t 140) none, (some (137, true))⟩,
           ⟨(some 142), .mv (.t 0), (some (137, true))⟩,
           ⟨(some 143), .mv (.t 14), (some (137, true))⟩,
           ⟨(some 144), .ia none 6 (.t 142) (.t 143), (some (137, true))⟩,
           ⟨(some 145), .fa (.t 144) 4, (some (137, true))⟩,
           ⟨(some 146), .ld (.t 145) none, (some (137, true))⟩,
           ⟨(some 147), .bin .neq (.t 141) (.t 146), (some (137, true))⟩,
           ⟨(some 148), .pick (.t 137) (.t 147) (.k (.s (.b false))), none⟩])
         (.cond (.t 148)
          (.seq (.reg [⟨(some 2), .mv (.k (.s (.b false))), none⟩])
           (.ret))
          (.skip)))
        (.seq (.reg [⟨(some 149), .mv (.t 16), none⟩])
        (.cond (.t 149)
         (.reg [⟨(some 150), .mv (.t 12), none⟩,
           ⟨(some 151), .mv (.t 15), none⟩,
           ⟨(some 152), .ia none 1 (.t 150) (.t 151), none⟩,
           ⟨none, .st (.t 152) (.k (.s (.i .u64 0))) 1, none⟩])
         (.skip))))))))
      (.reg [⟨(some 105), .mv (.t 14), none⟩,
       ⟨(some 106), .bin .sub (.t 105) (.k (.s (.i .i64 1))), none⟩,
       ⟨(some 14), .mv (.t 106), none⟩]))))))
   (.seq (.seq (.reg [⟨(some 18), .mv (.k (.s (.i .i64 0))), none⟩])
    (.block 6 (.loop (.seq (.seq (.reg [⟨(some 153), .mv (.t 18), none⟩,
         ⟨(some 154), .mv (.t 12), none⟩,
         ⟨(some 155), .len (.t 154), none⟩,
         ⟨(some 156), .bin .lss (.t 153) (.t 155), none⟩])
       (.cond (.t 156)
        (.skip)
        (.exit 6)))
      (.seq (.block 7 (.seq (.reg [⟨(some 159), .mv (.t 12), none⟩,
          ⟨(some 160), .mv (.t 18), none⟩,
          ⟨(some 161), .ia none 1 (.t 159) (.t 160), none⟩,
          ⟨(some 162), .ld (.t 161) none, none⟩,
          ⟨(some 163), .bin .neq (.t 162) (.k (.s (.i .u64 0))), none⟩])
        (.cond (.t 163)
         (.seq (.reg [⟨(some 2), .mv (.k (.s (.b false))), none⟩])
          (.ret))
         (.skip))))
      (.reg [⟨(some 157), .mv (.t 18), none⟩,
       ⟨(some 158), .bin .add (.t 157) (.k (.s (.i .i64 1))), none⟩,
       ⟨(some 18), .mv (.t 158), none⟩]))))))
   (.seq (.reg [⟨(some 164), .mv (.t 4), none⟩,
     ⟨(some 2), .mv (.t 164), none⟩])
   (.ret)))))))))))))), [.t 2]⟩
theorem dc4 : compF Try.prog Try.f4 = some df4 := by kernel_rfl
theorem ok4 : FnOk Try.prog 4 := ⟨Try.f4, Try.func4, by kernel_rfl, by kernel_rfl⟩

/-- citadel/citadellaw02.MemSingles -/
def df5 : DF :=
  ⟨177, .seq (.reg [⟨(some 3), .box (.t 1), none⟩,
     ⟨(some 4), .mv (.k (.s (.b false))), none⟩])
   (.seq (.seq (.reg [⟨(some 21), .mv (.t 0), none⟩,
      ⟨(some 22), .len (.t 21), none⟩,
      ⟨(some 23), .bin .gtr (.t 22) (.k (.s (.i .i64 2048))), none⟩])
    (.cond (.t 23)
     (.seq (.reg [⟨(some 4), .mv (.k (.s (.b true))), none⟩])
      (.ret))
     (.skip)))
   (.seq (.reg [⟨(some 24), .call 22 [], none⟩,
     ⟨(some 5), .mv (.t 24), none⟩])
   (.seq (.reg [⟨(some 26), .call 23 [(.k (.s (.i .i64 11)))], none⟩,
     ⟨(some 25), .mv (.t 26), none⟩,
     ⟨(some 27), .ext (.t 25) 0, none⟩,
     ⟨(some 28), .ext (.t 25) 1, none⟩,
     ⟨(some 6), .mv (.t 27), none⟩,
     ⟨(some 7), .mv (.t 28), none⟩])
   (.seq (.reg [⟨(some 30), .call 23 [(.k (.s (.i .i64 11)))], none⟩,
     ⟨(some 29), .mv (.t 30), none⟩,
     ⟨(some 31), .ext (.t 29) 0, none⟩,
     ⟨(some 32), .ext (.t 29) 1, none⟩,
     ⟨(some 8), .mv (.t 31), none⟩,
     ⟨(some 9), .mv (.t 32), none⟩])
   (.seq (.seq (.reg [⟨(some 33), .mv (.t 6), none⟩,
      ⟨(some 34), .eqn false false (.t 33), none⟩,
      ⟨(some 35), .mv (.t 34), none⟩,
      ⟨(some 36), .mv (.t 8), (some (35, false))⟩,
      ⟨(some 37), .eqn false false (.t 36), (some (35, false))⟩,
      ⟨(some 38), .pick (.t 35) (.k (.s (.b true))) (.t 37), none⟩,
      ⟨(some 39), .mv (.t 38), none⟩,
      ⟨(some 40), .mv (.t 7), (some (39, false))⟩,
      ⟨(some 41), .bin .neq (.t 40) (.k (.s (.i .i64 0))), (some (39, false))⟩,
      ⟨(some 42), .pick (.t 39) (.k (.s (.b true))) (.t 41), none⟩,
      ⟨(some 43), .mv (.t 42), none⟩,
      ⟨(some 44), .mv (.t 9), (some (43, false))⟩,
      ⟨(some 45), .bin .neq (.t 44) (.k (.s (.i .i64 0))), (some (43, false))⟩,
      ⟨(some 46), .pick (.t 43) (.k (.s (.b true))) (.t 45), none⟩])
    (.cond (.t 46)
     (.seq (.reg [⟨(some 4), .mv (.k (.s (.b false))), none⟩])
      (.ret))
     (.skip)))
   (.seq (.reg [⟨(some 47), .mv (.t 6), none⟩,
     ⟨(some 48), .mv (.t 0), none⟩,
     ⟨(some 49), .call 27 [(.t 47), (.k (.s (.i .i64 0))), (.t 48)], none⟩,
     ⟨(some 7), .mv (.t 49), none⟩])
   (.seq (.reg [⟨(some 50), .mv (.t 8), none⟩,
     ⟨(some 51), .mv (.t 0), none⟩,
     ⟨(some 52), .call 27 [(.t 50), (.k (.s (.i .i64 0))), (.t 51)], none⟩,
     ⟨(some 9), .mv (.t 52), none⟩])
   (.seq (.seq (.reg [⟨(some 53), .mv (.t 7), none⟩,
      ⟨(some 54), .bin .neq (.t 53) (.k (.s (.i .i64 0))), none⟩,
      ⟨(some 55), .mv (.t 54), none⟩,
      ⟨(some 56), .mv (.t 9), (some (55, false))⟩,
      ⟨(some 57), .bin .neq (.t 56) (.k (.s (.i .i64 0))), (some (55, false))⟩,
      ⟨(some 58), .pick (.t 55) (.k (.s (.b true))) (.t 57), none⟩])
    (.cond (.t 58)
     (.seq (.reg [⟨(some 4), .mv (.k (.s (.b false))), none⟩])
      (.ret))
     (.skip)))
   (.seq (.seq (.reg [⟨(some 59), .fa (.t 3) 0, none⟩,
      ⟨(some 60), .ld (.t 59) none, none⟩,
      ⟨(some 61), .bin .eql (.t 60) (.k (.s (.i .i64 4))), none⟩])
    (.cond (.t 61)
     (.reg [⟨(some 62), .mv (.t 6), none⟩,
       ⟨(some 63), .fa (.t 3) 1, none⟩,
       ⟨(some 64), .ld (.t 63) none, none⟩,
       ⟨(some 65), .fa (.t 3) 2, none⟩,
       ⟨(some 66), .ld (.t 65) none, none⟩,
       ⟨(some 67), .fa (.t 3) 3, none⟩,
       ⟨(some 68), .ld (.t 67) none, none⟩,
       ⟨(some 69), .call 28 [(.t 62), (.t 64), (.t 66), (.t 68)], none⟩,
       ⟨(some 7), .mv (.t 69), none⟩])
     (.reg [⟨(some 70), .mv (.t 6), none⟩,
       ⟨(some 71), .fa (.t 3) 1, none⟩,
       ⟨(some 72), .ld (.t 71) none, none⟩,
       ⟨(some 73), .fa (.t 3) 3, none⟩,
       ⟨(some 74), .ld (.t 73) none, none⟩,
       ⟨(some 75), .fa (.t 3) 4, none⟩,
       ⟨(some 76), .ld (.t 75) none, none⟩,
       ⟨(some 77), .call 29 [(.t 70), (.t 72), (.t 74), (.t 76)], none⟩,
       ⟨(some 7), .mv (.t 77), none⟩])))
   (.seq (.seq (.reg [⟨(some 78), .mv (.t 7), none⟩,
      ⟨(some 79), .bin .neq (.t 78) (.k (.s (.i .i64 0))), none⟩])
    (.cond (.t 79)
     (.seq (.reg [⟨(some 80), .mv (.t 5), none⟩,
        ⟨(some 81), .mv (.t 80), none⟩,
        ⟨(some 82), .mv (.t 7), (some (81, true))⟩,
        ⟨(some 83), .bin .eql (.t 82) (.k (.s (.i .i64 20))), (some (81, true))⟩,
        ⟨(some 84), .pick (.t 81) (.t 83) (.k (.s (.b false))), none⟩,
        ⟨(some 85), .mv (.t 84), none⟩,
        ⟨(some 86), .mv (.t 6), (some (85, true))⟩,
        ⟨(some 87), .call 25 [(.t 86)], (some (85, true))⟩,
        ⟨(some 88), .bin .eql (.t 87) (.k (.s (.i .i64 0))), (some (85, true))⟩,
        ⟨(some 89), .pick (.t 85) (.t 88) (.k (.s (.b false))), none⟩,
        ⟨(some 4), .mv (.t 89), none⟩])
      (.ret))
     (.skip)))
   (.seq (.reg [⟨(some 10), .mv (.k (.s (.ns))), none⟩])
   (.seq (.seq (.reg [⟨(some 11), .mv (.k (.s (.i .i64 0))), none⟩])
    (.block 0 (.loop (.seq (.seq (.reg [⟨(some 90), .mv (.t 11), none⟩,
         ⟨(some 91), .fa (.t 3) 3, none⟩,
         ⟨(some 92), .ld (.t 91) none, none⟩,
         ⟨(some 93), .bin .lss (.t 90) (.t 92), none⟩,
         ⟨(some 94), .mv (.t 93), none⟩,
         ⟨(some 95), .fa (.t 3) 0, (some (94, true))⟩,
         ⟨(some 96), .ld (.t 95) none, (some (94, true))⟩,
         ⟨(some 97), .bin .eql (.t 96) (.k (.s (.i .i64 4))), (some (94, true))⟩,
         ⟨(some 98), .pick (.t 94) (.t 97) (.k (.s (.b false))), none⟩])
       (.cond (.t 98)
        (.skip)
        (.exit 0)))
      (.seq (.block 1 (.seq (.reg [⟨(some 102), .mv (.t 8), none⟩,
          ⟨(some 103), .fa (.t 3) 1, none⟩,
          ⟨(some 104), .ld (.t 103) none, none⟩,
          ⟨(some 105), .mv (.t 11), none⟩,
          ⟨(some 106), .bin .add (.t 104) (.t 105), none⟩,
          ⟨(some 107), .call 30 [(.t 102), (.t 106)], none⟩,
          ⟨(some 101), .mv (.t 107), none⟩,
          ⟨(some 108), .ext (.t 101) 0, none⟩,
          ⟨(some 109), .ext (.t 101) 1, none⟩,
          ⟨(some 12), .mv (.t 108), none⟩,
          ⟨(some 13), .mv (.t 109), none⟩])
        (.seq (.seq (.reg [⟨(some 110), .mv (.t 13), none⟩,
           ⟨(some 111), .bin .neq (.t 110) (.k (.s (.i .i64 0))), none⟩])
         (.cond (.t 111)
          (.seq (.reg [⟨(some 4), .mv (.k (.s (.b false))), none⟩])
           (.ret))
          (.skip)))
        (.reg [⟨(some 112), .mv (.t 10), none⟩,
         ⟨(some 113), .mv (.t 12), none⟩,
         ⟨(some 114), .bsl 1 [.i .u64 0] [(0, 1, (.t 113))], none⟩,
         ⟨(some 115), .app 1 8 (.t 112) (.t 114), none⟩,
         ⟨(some 10), .mv (.t 115), none⟩]))))
      (.reg [⟨(some 99), .mv (.t 11), none⟩,
       ⟨(some 100), .bin .add (.t 99) (.k (.s (.i .i64 1))), none⟩,
       ⟨(some 11), .mv (.t 100), none⟩]))))))
   (.seq (.seq (.reg [⟨(some 14), .mv (.k (.s (.i .i64 0))), none⟩])
    (.block 2 (.loop (.seq (.seq (.reg [⟨(some 116), .mv (.t 14), none⟩,
         ⟨(some 117), .fa (.t 3) 3, none⟩,
         ⟨(some 118), .ld (.t 117) none, none⟩,
         ⟨(some 119), .bin .lss (.t 116) (.t 118), none⟩])
       (.cond (.t 119)
        (.skip)
        (.exit 2)))
      (.seq (.block 3 (.seq (.reg [⟨(some 15), .mv (.k (.s (.i .i64 0))), none⟩])
        (.seq (.seq (.reg [⟨(some 122), .fa (.t 3) 0, none⟩,
           ⟨(some 123), .ld (.t 122) none, none⟩,
           ⟨(some 124), .bin .eql (.t 123) (.k (.s (.i .i64 4))), none⟩])
         (.cond (.t 124)
          (.drt 9 [⟨(some 125), .mv (.t 8), none⟩,
            ⟨(some 126), .fa (.t 3) 2, none⟩,
            ⟨(some 127), .ld (.t 126) none, none⟩,
            ⟨(some 128), .mv (.t 14), none⟩,
            ⟨(some 129), .bin .add (.t 127) (.t 128), none⟩,
            ⟨(some 130), .mv (.t 10), none⟩,
            ⟨(some 131), .mv (.t 14), none⟩,
            ⟨(some 132), .ia none 1 (.t 130) (.t 131), none⟩,
            ⟨(some 133), .ld (.t 132) none, none⟩,
            ⟨(some 134), .call 24 [(.t 125), (.t 129), (.t 133)], none⟩,
            ⟨(some 15), .mv (.t 134), none⟩])
          (.reg [⟨(some 135), .mv (.t 8), none⟩,
            ⟨(some 136), .fa (.t 3) 1, none⟩,
            ⟨(some 137), .ld (.t 136) none, none⟩,
            ⟨(some 138), .mv (.t 14), none⟩,
            ⟨(some 139), .bin .add (.t 137) (.t 138), none⟩,
            ⟨(some 140), .fa (.t 3) 4, none⟩,
            ⟨(some 141), .ld (.t 140) none, none⟩,
            ⟨(some 142), .call 24 [(.t 135), (.t 139), (.t 141)], none⟩,
            ⟨(some 15), .mv (.t 142), none⟩])))
        (.seq (.reg [⟨(some 143), .mv (.t 15), none⟩,
          ⟨(some 144), .bin .neq (.t 143) (.k (.s (.i .i64 0))), none⟩])
        (.cond (.t 144)
         (.seq (.reg [⟨(some 4), .mv (.k (.s (.b false))), none⟩])
          (.ret))
         (.skip))))))
      (.reg [⟨(some 120), .mv (.t 14), none⟩,
       ⟨(some 121), .bin .add (.t 120) (.k (.s (.i .i64 1))), none⟩,
       ⟨(some 14), .mv (.t 121), none⟩]))))))
   (.seq (.reg [⟨(some 146), .mv (.t 6), none⟩,
     ⟨(some 147), .call 26 [(.t 146), (.k (.s (.i .i64 0))), (.k (.s (.i .i64 2048)))], none⟩,
     ⟨(some 145), .mv (.t 147), none⟩,
     ⟨(some 148), .ext (.t 145) 0, none⟩,
     ⟨(some 149), .ext (.t 145) 1, none⟩,
     ⟨(some 16), .mv (.t 148), none⟩,
     ⟨(some 17), .mv (.t 149), none⟩])
   (.seq (.reg [⟨(some 151), .mv (.t 8), none⟩,
     ⟨(some 152), .call 26 [(.t 151), (.k (.s (.i .i64 0))), (.k (.s (.i .i64 2048)))], none⟩,
     ⟨(some 150), .mv (.t 152), none⟩,
     ⟨(some 153), .ext (.t 150) 0, none⟩,
     ⟨(some 154), .ext (.t 150) 1, none⟩,
     ⟨(some 18), .mv (.t 153), none⟩,
     ⟨(some 19), .mv (.t 154), none⟩])
   (.seq (.reg [⟨(some 155), .mv (.t 16), none⟩,
     ⟨(some 156), .mv (.t 18), none⟩,
     ⟨(some 157), .call 31 [(.t 155), (.t 156)], none⟩,
     ⟨(some 20), .mv (.t 157), none⟩])
   (.seq (.reg [⟨(some 158), .mv (.t 5), none⟩,
     ⟨(some 159), .mv (.t 158), none⟩,
     ⟨(some 160), .mv (.t 17), (some (159, true))⟩,
     ⟨(some 161), .bin .eql (.t 160) (.k (.s (.i .i64 0))), (some (159, true))⟩,
     ⟨(some 162), .pick (.t 159) (.t 161) (.k (.s (.b false))), none⟩,
     ⟨(some 163), .mv (.t 162), none⟩,
     ⟨(some 164), .mv (.t 19), (some (163, true))⟩,
     ⟨(some 165), .bin .eql (.t 164) (.k (.s (.i .i64 0))), (some (163, true))⟩,
     ⟨(some 166), .pick (.t 163) (.t 165) (.k (.s (.b false))), none⟩,
     ⟨(some 167), .mv (.t 166), none⟩,
     ⟨(some 168), .mv (.t 20), (some (167, true))⟩,
     ⟨(some 169), .pick (.t 167) (.t 168) (.k (.s (.b false))), none⟩,
     ⟨(some 170), .mv (.t 169), none⟩,
     ⟨(some 171), .mv (.t 6), (some (170, true))⟩,
     ⟨(some 172), .call 25 [(.t 171)], (some (170, true))⟩,
     ⟨(some 173), .mv (.t 8), (some (170, true))⟩,
     ⟨(some 174), .call 25 [(.t 173)], (some (170, true))⟩,
     ⟨(some 175), .bin .eql (.t 172) (.t 174), (some (170, true))⟩,
     ⟨(some 176), .pick (.t 170) (.t 175) (.k (.s (.b false))), none⟩,
     ⟨(some 4), .mv (.t 176), none⟩])
   (.ret)))))))))))))))))), [.t 4]⟩
theorem dc5 : compF Try.prog Try.f5 = some df5 := by kernel_rfl
theorem ok5 : FnOk Try.prog 5 := ⟨Try.f5, Try.func5, by kernel_rfl, by kernel_rfl⟩

/-- citadel/citadellaw02.MemHalves -/
def df6 : DF :=
  ⟨228, .seq (.reg [⟨(some 4), .box (.t 1), none⟩,
     ⟨(some 6), .mv (.k (.s (.b false))), none⟩])
   (.seq (.seq (.reg [⟨(some 20), .mv (.t 0), none⟩,
      ⟨(some 21), .len (.t 20), none⟩,
      ⟨(some 22), .bin .gtr (.t 21) (.k (.s (.i .i64 2048))), none⟩])
    (.cond (.t 22)
     (.seq (.reg [⟨(some 6), .mv (.k (.s (.b true))), none⟩])
      (.ret))
     (.skip)))
   (.seq (.reg [⟨(some 23), .call 22 [], none⟩,
     ⟨(some 7), .mv (.t 23), none⟩])
   (.seq (.reg [⟨(some 25), .call 23 [(.k (.s (.i .i64 11)))], none⟩,
     ⟨(some 24), .mv (.t 25), none⟩,
     ⟨(some 26), .ext (.t 24) 0, none⟩,
     ⟨(some 27), .ext (.t 24) 1, none⟩,
     ⟨(some 8), .mv (.t 26), none⟩,
     ⟨(some 9), .mv (.t 27), none⟩])
   (.seq (.reg [⟨(some 29), .call 23 [(.k (.s (.i .i64 11)))], none⟩,
     ⟨(some 28), .mv (.t 29), none⟩,
     ⟨(some 30), .ext (.t 28) 0, none⟩,
     ⟨(some 31), .ext (.t 28) 1, none⟩,
     ⟨(some 10), .mv (.t 30), none⟩,
     ⟨(some 11), .mv (.t 31), none⟩])
   (.seq (.seq (.reg [⟨(some 32), .mv (.t 8), none⟩,
      ⟨(some 33), .eqn false false (.t 32), none⟩,
      ⟨(some 34), .mv (.t 33), none⟩,
      ⟨(some 35), .mv (.t 10), (some (34, false))⟩,
      ⟨(some 36), .eqn false false (.t 35), (some (34, false))⟩,
      ⟨(some 37), .pick (.t 34) (.k (.s (.b true))) (.t 36), none⟩,
      ⟨(some 38), .mv (.t 37), none⟩,
      ⟨(some 39), .mv (.t 9), (some (38, false))⟩,
      ⟨(some 40), .bin .neq (.t 39) (.k (.s (.i .i64 0))), (some (38, false))⟩,
      ⟨(some 41), .pick (.t 38) (.k (.s (.b true))) (.t 40), none⟩,
      ⟨(some 42), .mv (.t 41), none⟩,
      ⟨(some 43), .mv (.t 11), (some (42, false))⟩,
      ⟨(some 44), .bin .neq (.t 43) (.k (.s (.i .i64 0))), (some (42, false))⟩,
      ⟨(some 45), .pick (.t 42) (.k (.s (.b true))) (.t 44), none⟩])
    (.cond (.t 45)
     (.seq (.reg [⟨(some 6), .mv (.k (.s (.b false))), none⟩])
      (.ret))
     (.skip)))
   (.seq (.reg [⟨(some 46), .mv (.t 8), none⟩,
     ⟨(some 47), .mv (.t 0), none⟩,
     ⟨(some 48), .call 27 [(.t 46), (.k (.s (.i .i64 0))), (.t 47)], none⟩,
     ⟨(some 9), .mv (.t 48), none⟩])
   (.seq (.reg [⟨(some 49), .mv (.t 10), none⟩,
     ⟨(some 50), .mv (.t 0), none⟩,
     ⟨(some 51), .call 27 [(.t 49), (.k (.s (.i .i64 0))), (.t 50)], none⟩,
     ⟨(some 11), .mv (.t 51), none⟩])
   (.seq (.seq (.reg [⟨(some 52), .mv (.t 9), none⟩,
      ⟨(some 53), .bin .neq (.t 52) (.k (.s (.i .i64 0))), none⟩,
      ⟨(some 54), .mv (.t 53), none⟩,
      ⟨(some 55), .mv (.t 11), (some (54, false))⟩,
      ⟨(some 56), .bin .neq (.t 55) (.k (.s (.i .i64 0))), (some (54, false))⟩,
      ⟨(some 57), .pick (.t 54) (.k (.s (.b true))) (.t 56), none⟩,
      ⟨(some 58), .mv (.t 57), none⟩,
      ⟨(some 59), .mv (.t 2), (some (58, false))⟩,
      ⟨(some 60), .bin .lss (.t 59) (.k (.s (.i .i64 0))), (some (58, false))⟩,
      ⟨(some 61), .pick (.t 58) (.k (.s (.b true))) (.t 60), none⟩,
      ⟨(some 62), .mv (.t 61), none⟩,
      ⟨(some 63), .mv (.t 2), (some (62, false))⟩,
      ⟨(some 64), .fa (.t 4) 3, (some (62, false))⟩,
      ⟨(some 65), .ld (.t 64) none, (some (62, false))⟩,
      ⟨(some 66), .bin .gtr (.t 63) (.t 65), (some (62, false))⟩,
      ⟨(some 67), .pick (.t 62) (.k (.s (.b true))) (.t 66), none⟩,
      ⟨(some 68), .mv (.t 67), none⟩,
      ⟨(some 69), .fa (.t 4) 1, (some (68, false))⟩,
      ⟨(some 70), .ld (.t 69) none, (some (68, false))⟩,
      ⟨(some 71), .bin .lss (.t 70) (.k (.s (.i .i64 0))), (some (68, false))⟩,
      ⟨(some 72), .pick (.t 68) (.k (.s (.b true))) (.t 71), none⟩,
      ⟨(some 73), .mv (.t 72), none⟩,
      ⟨(some 74), .fa (.t 4) 2, (some (73, false))⟩,
      ⟨(some 75), .ld (.t 74) none, (some (73, false))⟩,
      ⟨(some 76), .bin .lss (.t 75) (.k (.s (.i .i64 0))), (some (73, false))⟩,
      ⟨(some 77), .pick (.t 73) (.k (.s (.b true))) (.t 76), none⟩,
      ⟨(some 78), .mv (.t 77), none⟩,
      ⟨(some 79), .fa (.t 4) 1, (some (78, false))⟩,
      ⟨(some 80), .ld (.t 79) none, (some (78, false))⟩,
      ⟨(some 81), .bin .gtr (.t 80) (.k (.s (.i .i64 4096))), (some (78, false))⟩,
      ⟨(some 82), .pick (.t 78) (.k (.s (.b true))) (.t 81), none⟩,
      ⟨(some 83), .mv (.t 82), none⟩,
      ⟨(some 84), .fa (.t 4) 2, (some (83, false))⟩,
      ⟨(some 85), .ld (.t 84) none, (some (83, false))⟩,
      ⟨(some 86), .bin .gtr (.t 85) (.k (.s (.i .i64 4096))), (some (83, false))⟩,
      ⟨(some 87), .pick (.t 83) (.k (.s (.b true))) (.t 86), none⟩,
      ⟨(some 88), .mv (.t 87), none⟩,
      ⟨(some 89), .fa (.t 4) 3, (some (88, false))⟩,
      ⟨(some 90), .ld (.t 89) none, (some (88, false))⟩,
      ⟨(some 91), .bin .gtr (.t 90) (.k (.s (.i .i64 2048))), (some (88, false))⟩,
      ⟨(some 92), .pick (.t 88) (.k (.s (.b true))) (.t 91), none⟩])
    (.cond (.t 92)
     (.seq (.reg [⟨(some 93), .mv (.t 7), none⟩,
        ⟨(some 94), .mv (.t 93), none⟩,
        ⟨(some 95), .mv (.t 9), (some (94, true))⟩,
        ⟨(some 96), .bin .eql (.t 95) (.k (.s (.i .i64 0))), (some (94, true))⟩,
        ⟨(some 97), .pick (.t 94) (.t 96) (.k (.s (.b false))), none⟩,
        ⟨(some 98), .mv (.t 97), none⟩,
        ⟨(some 99), .mv (.t 11), (some (98, true))⟩,
        ⟨(some 100), .bin .eql (.t 99) (.k (.s (.i .i64 0))), (some (98, true))⟩,
        ⟨(some 101), .pick (.t 98) (.t 100) (.k (.s (.b false))), none⟩,
        ⟨(some 6), .mv (.t 101), none⟩])
      (.ret))
     (.skip)))
   (.seq (.seq (.reg [⟨(some 102), .fa (.t 4) 0, none⟩,
      ⟨(some 103), .ld (.t 102) none, none⟩,
      ⟨(some 104), .bin .eql (.t 103) (.k (.s (.i .i64 4))), none⟩,
      ⟨(some 105), .mv (.t 104), none⟩,
      ⟨(some 106), .fa (.t 4) 1, (some (105, true))⟩,
      ⟨(some 107), .ld (.t 106) none, (some (105, true))⟩,
      ⟨(some 108), .fa (.t 4) 2, (some (105, true))⟩,
      ⟨(some 109), .ld (.t 108) none, (some (105, true))⟩,
      ⟨(some 110), .fa (.t 4) 3, (some (105, true))⟩,
      ⟨(some 111), .ld (.t 110) none, (some (105, true))⟩,
      ⟨(some 112), .bin .add (.t 109) (.t 111), (some (105, true))⟩,
      ⟨(some 113), .bin .lss (.t 107) (.t 112), (some (105, true))⟩,
      ⟨(some 114), .pick (.t 105) (.t 113) (.k (.s (.b false))), none⟩,
      ⟨(some 115), .mv (.t 114), none⟩,
      ⟨(some 116), .fa (.t 4) 2, (some (115, true))⟩,
      ⟨(some 117), .ld (.t 116) none, (some (115, true))⟩,
      ⟨(some 118), .fa (.t 4) 1, (some (115, true))⟩,
      ⟨(some 119), .ld (.t 118) none, (some (115, true))⟩,
      ⟨(some 120), .fa (.t 4) 3, (some (115, true))⟩,
      ⟨(some 121), .ld (.t 120) none, (some (115, true))⟩,
      ⟨(some 122), .bin .add (.t 119) (.t 121), (some (115, true))⟩,
      ⟨(some 123), .bin .lss (.t 117) (.t 122), (some (115, true))⟩,
      ⟨(some 124), .pick (.t 115) (.t 123) (.k (.s (.b false))), none⟩])
    (.cond (.t 124)
     (.seq (.reg [⟨(some 125), .mv (.t 7), none⟩,
        ⟨(some 6), .mv (.t 125), none⟩])
      (.ret))
     (.skip)))
   (.seq (.reg [⟨(some 12), .mv (.k (.s (.i .i64 0))), none⟩])
   (.seq (.reg [⟨(some 13), .mv (.k (.s (.i .i64 0))), none⟩])
   (.seq (.reg [⟨(some 14), .mv (.k (.s (.i .i64 0))), none⟩])
   (.seq (.seq (.reg [⟨(some 126), .fa (.t 4) 0, none⟩,
      ⟨(some 127), .ld (.t 126) none, none⟩,
      ⟨(some 128), .bin .eql (.t 127) (.k (.s (.i .i64 4))), none⟩])
    (.cond (.t 128)
     (.seq (.reg [⟨(some 129), .mv (.t 8), none⟩,
        ⟨(some 130), .fa (.t 4) 1, none⟩,
        ⟨(some 131), .ld (.t 130) none, none⟩,
        ⟨(some 132), .fa (.t 4) 2, none⟩,
        ⟨(some 133), .ld (.t 132) none, none⟩,
        ⟨(some 134), .fa (.t 4) 3, none⟩,
        ⟨(some 135), .ld (.t 134) none, none⟩,
        ⟨(some 136), .call 28 [(.t 129), (.t 131), (.t 133), (.t 135)], none⟩,
        ⟨(some 12), .mv (.t 136), none⟩])
      (.seq (.reg [⟨(some 137), .mv (.t 10), none⟩,
        ⟨(some 138), .fa (.t 4) 1, none⟩,
        ⟨(some 139), .ld (.t 138) none, none⟩,
        ⟨(some 140), .fa (.t 4) 2, none⟩,
        ⟨(some 141), .ld (.t 140) none, none⟩,
        ⟨(some 142), .mv (.t 2), none⟩,
        ⟨(some 143), .call 28 [(.t 137), (.t 139), (.t 141), (.t 142)], none⟩,
        ⟨(some 13), .mv (.t 143), none⟩])
      (.reg [⟨(some 144), .mv (.t 10), none⟩,
       ⟨(some 145), .fa (.t 4) 1, none⟩,
       ⟨(some 146), .ld (.t 145) none, none⟩,
       ⟨(some 147), .mv (.t 2), none⟩,
       ⟨(some 148), .bin .add (.t 146) (.t 147), none⟩,
       ⟨(some 149), .fa (.t 4) 2, none⟩,
       ⟨(some 150), .ld (.t 149) none, none⟩,
       ⟨(some 151), .mv (.t 2), none⟩,
       ⟨(some 152), .bin .add (.t 150) (.t 151), none⟩,
       ⟨(some 153), .fa (.t 4) 3, none⟩,
       ⟨(some 154), .ld (.t 153) none, none⟩,
       ⟨(some 155), .mv (.t 2), none⟩,
       ⟨(some 156), .bin .sub (.t 154) (.t 155), none⟩,
       ⟨(some 157), .call 28 [(.t 144), (.t 148), (.t 152), (.t 156)], none⟩,
       ⟨(some 14), .mv (.t 157), none⟩])))
     (.seq (.reg [⟨(some 158), .mv (.t 8), none⟩,
        ⟨(some 159), .fa (.t 4) 1, none⟩,
        ⟨(some 160), .ld (.t 159) none, none⟩,
        ⟨(some 161), .fa (.t 4) 3, none⟩,
        ⟨(some 162), .ld (.t 161) none, none⟩,
        ⟨(some 163), .fa (.t 4) 4, none⟩,
        ⟨(some 164), .ld (.t 163) none, none⟩,
        ⟨(some 165), .call 29 [(.t 158), (.t 160), (.t 162), (.t 164)], none⟩,
        ⟨(some 12), .mv (.t 165), none⟩])
      (.seq (.reg [⟨(some 166), .mv (.t 10), none⟩,
        ⟨(some 167), .fa (.t 4) 1, none⟩,
        ⟨(some 168), .ld (.t 167) none, none⟩,
        ⟨(some 169), .mv (.t 2), none⟩,
        ⟨(some 170), .fa (.t 4) 4, none⟩,
        ⟨(some 171), .ld (.t 170) none, none⟩,
        ⟨(some 172), .call 29 [(.t 166), (.t 168), (.t 169), (.t 171)], none⟩,
        ⟨(some 13), .mv (.t 172), none⟩])
      (.reg [⟨(some 173), .mv (.t 10), none⟩,
       ⟨(some 174), .fa (.t 4) 1, none⟩,
       ⟨(some 175), .ld (.t 174) none, none⟩,
       ⟨(some 176), .mv (.t 2), none⟩,
       ⟨(some 177), .bin .add (.t 175) (.t 176), none⟩,
       ⟨(some 178), .fa (.t 4) 3, none⟩,
       ⟨(some 179), .ld (.t 178) none, none⟩,
       ⟨(some 180), .mv (.t 2), none⟩,
       ⟨(some 181), .bin .sub (.t 179) (.t 180), none⟩,
       ⟨(some 182), .fa (.t 4) 4, none⟩,
       ⟨(some 183), .ld (.t 182) none, none⟩,
       ⟨(some 184), .call 29 [(.t 173), (.t 177), (.t 181), (.t 183)], none⟩,
       ⟨(some 14), .mv (.t 184), none⟩])))))
   (.seq (.seq (.reg [⟨(some 185), .mv (.t 12), none⟩,
      ⟨(some 186), .bin .neq (.t 185) (.k (.s (.i .i64 0))), none⟩])
    (.cond (.t 186)
     (.seq (.reg [⟨(some 187), .mv (.t 7), none⟩,
        ⟨(some 188), .mv (.t 187), none⟩,
        ⟨(some 189), .mv (.t 13), (some (188, true))⟩,
        ⟨(some 190), .bin .neq (.t 189) (.k (.s (.i .i64 0))), (some (188, true))⟩,
        ⟨(some 191), .mv (.t 190), (some (188, true))⟩,
        ⟨(some 192), .mv (.t 14), (some (191, false))⟩,
        ⟨(some 193), .bin .neq (.t 192) (.k (.s (.i .i64 0))), (some (191, false))⟩,
        ⟨(some 194), .pick (.t 191) (.k (.s (.b true))) (.t 193), (some (188, true))⟩,
        ⟨(some 195), .pick (.t 188) (.t 194) (.k (.s (.b false))), none⟩,
        ⟨(some 6), .mv (.t 195), none⟩])
      (.ret))
     (.skip)))
   (.seq (.reg [⟨(some 197), .mv (.t 8), none⟩,
     ⟨(some 198), .call 26 [(.t 197), (.k (.s (.i .i64 0))), (.k (.s (.i .i64 2048)))], none⟩,
     ⟨(some 196), .mv (.t 198), none⟩,
     ⟨(some 199), .ext (.t 196) 0, none⟩,
     ⟨(some 200), .ext (.t 196) 1, none⟩,
     ⟨(some 15), .mv (.t 199), none⟩,
     ⟨(some 16), .mv (.t 200), none⟩])
   (.seq (.reg [⟨(some 202), .mv (.t 10), none⟩,
     ⟨(some 203), .call 26 [(.t 202), (.k (.s (.i .i64 0))), (.k (.s (.i .i64 2048)))], none⟩,
     ⟨(some 201), .mv (.t 203), none⟩,
     ⟨(some 204), .ext (.t 201) 0, none⟩,
     ⟨(some 205), .ext (.t 201) 1, none⟩,
     ⟨(some 17), .mv (.t 204), none⟩,
     ⟨(some 18), .mv (.t 205), none⟩])
   (.seq (.reg [⟨(some 206), .mv (.t 15), none⟩,
     ⟨(some 207), .mv (.t 17), none⟩,
     ⟨(some 208), .call 31 [(.t 206), (.t 207)], none⟩,
     ⟨(some 19), .mv (.t 208), none⟩])
   (.seq (.reg [⟨(some 209), .mv (.t 7), none⟩,
     ⟨(some 210), .mv (.t 209), none⟩,
     ⟨(some 211), .mv (.t 13), (some (210, true))⟩,
     ⟨(some 212), .bin .eql (.t 211) (.k (.s (.i .i64 0))), (some (210, true))⟩,
     ⟨(some 213), .pick (.t 210) (.t 212) (.k (.s (.b false))), none⟩,
     ⟨(some 214), .mv (.t 213), none⟩,
     ⟨(some 215), .mv (.t 14), (some (214, true))⟩,
     ⟨(some 216), .bin .eql (.t 215) (.k (.s (.i .i64 0))), (some (214, true))⟩,
     ⟨(some 217), .pick (.t 214) (.t 216) (.k (.s (.b false))), none⟩,
     ⟨(some 218), .mv (.t 217), none⟩,
     ⟨(some 219), .mv (.t 19), (some (218, true))⟩,
     ⟨(some 220), .pick (.t 218) (.t 219) (.k (.s (.b false))), none⟩,
     ⟨(some 221), .mv (.t 220), none⟩,
     ⟨(some 222), .mv (.t 8), (some (221, true))⟩,
     ⟨(some 223), .call 25 [(.t 222)], (some (221, true))⟩,
     ⟨(some 224), .mv (.t 10), (some (221, true))⟩,
     ⟨(some 225), .call 25 [(.t 224)], (some (221, true))⟩,
     ⟨(some 226), .bin .eql (.t 223) (.t 225), (some (221, true))⟩,
     ⟨(some 227), .pick (.t 221) (.t 226) (.k (.s (.b false))), none⟩,
     ⟨(some 6), .mv (.t 227), none⟩])
   (.ret))))))))))))))))))), [.t 6]⟩
theorem dc6 : compF Try.prog Try.f6 = some df6 := by kernel_rfl
theorem ok6 : FnOk Try.prog 6 := ⟨Try.f6, Try.func6, by kernel_rfl, by kernel_rfl⟩

/-- citadel/citadellaw02.MemPlays -/
def df7 : DF :=
  ⟨106, .seq (.reg [⟨(some 4), .mv (.k (.s (.b false))), none⟩])
   (.seq (.reg [⟨(some 18), .mv (.t 1), none⟩,
     ⟨(some 19), .call 21 [(.t 18)], none⟩,
     ⟨(some 5), .mv (.t 19), none⟩])
   (.seq (.seq (.reg [⟨(some 20), .mv (.t 5), none⟩,
      ⟨(some 21), .bin .gtr (.t 20) (.k (.s (.i .i64 2147483647))), none⟩])
    (.cond (.t 21)
     (.seq (.reg [⟨(some 4), .mv (.k (.s (.b true))), none⟩])
      (.ret))
     (.skip)))
   (.seq (.reg [⟨(some 22), .call 22 [], none⟩,
     ⟨(some 6), .mv (.t 22), none⟩])
   (.seq (.reg [⟨(some 24), .mv (.t 0), none⟩,
     ⟨(some 25), .call 23 [(.t 24)], none⟩,
     ⟨(some 23), .mv (.t 25), none⟩,
     ⟨(some 26), .ext (.t 23) 0, none⟩,
     ⟨(some 27), .ext (.t 23) 1, none⟩,
     ⟨(some 7), .mv (.t 26), none⟩,
     ⟨(some 8), .mv (.t 27), none⟩])
   (.seq (.reg [⟨(some 29), .mv (.t 0), none⟩,
     ⟨(some 30), .call 32 [(.t 29)], none⟩,
     ⟨(some 28), .mv (.t 30), none⟩,
     ⟨(some 31), .ext (.t 28) 0, none⟩,
     ⟨(some 32), .ext (.t 28) 1, none⟩,
     ⟨(some 9), .mv (.t 31), none⟩,
     ⟨(some 10), .mv (.t 32), none⟩])
   (.seq (.seq (.reg [⟨(some 33), .mv (.t 8), none⟩,
      ⟨(some 34), .mv (.t 10), none⟩,
      ⟨(some 35), .bin .neq (.t 33) (.t 34), none⟩,
      ⟨(some 36), .mv (.t 35), none⟩,
      ⟨(some 37), .mv (.t 7), (some (36, false))⟩,
      ⟨(some 38), .eqn false false (.t 37), (some (36, false))⟩,
      ⟨(some 39), .mv (.t 9), (some (36, false))⟩,
      ⟨(some 40), .eqn false false (.t 39), (some (36, false))⟩,
      ⟨(some 41), .eqb true (.t 38) (.t 40), (some (36, false))⟩,
      ⟨(some 42), .pick (.t 36) (.k (.s (.b true))) (.t 41), none⟩])
    (.cond (.t 42)
     (.seq (.reg [⟨(some 4), .mv (.k (.s (.b false))), none⟩])
      (.ret))
     (.skip)))
   (.seq (.seq (.reg [⟨(some 43), .mv (.t 7), none⟩,
      ⟨(some 44), .eqn false false (.t 43), none⟩,
      ⟨(some 45), .mv (.t 44), none⟩,
      ⟨(some 46), .mv (.t 9), (some (45, false))⟩,
      ⟨(some 47), .eqn false false (.t 46), (some (45, false))⟩,
      ⟨(some 48), .pick (.t 45) (.k (.s (.b true))) (.t 47), none⟩])
    (.cond (.t 48)
     (.seq (.reg [⟨(some 49), .mv (.t 6), none⟩,
        ⟨(some 4), .mv (.t 49), none⟩])
      (.ret))
     (.skip)))
   (.seq (.seq (.reg [⟨(some 11), .mv (.k (.s (.i .i64 0))), none⟩])
    (.block 0 (.loop (.seq (.seq (.reg [⟨(some 50), .mv (.t 11), none⟩,
         ⟨(some 51), .mv (.t 1), none⟩,
         ⟨(some 52), .len (.t 51), none⟩,
         ⟨(some 53), .bin .lss (.t 50) (.t 52), none⟩])
       (.cond (.t 53)
        (.skip)
        (.exit 0)))
      (.seq (.block 1 (.seq (.reg [⟨(some 56), .mv (.t 7), none⟩,
          ⟨(some 57), .mv (.t 9), none⟩,
          ⟨(some 58), .mv (.t 1), none⟩,
          ⟨(some 59), .mv (.t 11), none⟩,
          ⟨(some 60), .ia none 6 (.t 58) (.t 59), none⟩,
          ⟨(some 61), .ld (.t 60) (some 6), none⟩,
          ⟨(some 62), .call 33 [(.t 56), (.t 57), (.t 61)], none⟩,
          ⟨(some 12), .mv (.t 62), none⟩])
        (.seq (.reg [⟨(some 63), .mv (.t 12), none⟩,
          ⟨(some 64), .un .not (.t 63), none⟩])
        (.cond (.t 64)
         (.seq (.reg [⟨(some 4), .mv (.k (.s (.b false))), none⟩])
          (.ret))
         (.skip)))))
      (.reg [⟨(some 54), .mv (.t 11), none⟩,
       ⟨(some 55), .bin .add (.t 54) (.k (.s (.i .i64 1))), none⟩,
       ⟨(some 11), .mv (.t 55), none⟩]))))))
   (.seq (.reg [⟨(some 65), .mv (.t 7), none⟩,
     ⟨(some 66), .call 34 [(.t 65)], none⟩,
     ⟨(some 13), .mv (.t 66), none⟩])
   (.seq (.reg [⟨(some 68), .mv (.t 7), none⟩,
     ⟨(some 69), .mv (.t 13), none⟩,
     ⟨(some 70), .call 26 [(.t 68), (.k (.s (.i .i64 0))), (.t 69)], none⟩,
     ⟨(some 67), .mv (.t 70), none⟩,
     ⟨(some 71), .ext (.t 67) 0, none⟩,
     ⟨(some 72), .ext (.t 67) 1, none⟩,
     ⟨(some 14), .mv (.t 71), none⟩,
     ⟨(some 15), .mv (.t 72), none⟩])
   (.seq (.reg [⟨(some 73), .mv (.t 14), none⟩,
     ⟨(some 74), .mv (.t 9), none⟩,
     ⟨(some 75), .nil (.t 74), none⟩,
     ⟨(some 76), .fa (.t 75) 0, none⟩,
     ⟨(some 77), .ld (.t 76) none, none⟩,
     ⟨(some 78), .call 31 [(.t 73), (.t 77)], none⟩,
     ⟨(some 16), .mv (.t 78), none⟩])
   (.seq (.reg [⟨(some 79), .mv (.t 7), none⟩,
     ⟨(some 80), .call 25 [(.t 79)], none⟩,
     ⟨(some 17), .mv (.t 80), none⟩])
   (.seq (.reg [⟨(some 81), .mv (.t 6), none⟩,
     ⟨(some 82), .mv (.t 81), none⟩,
     ⟨(some 83), .mv (.t 13), (some (82, true))⟩,
     ⟨(some 84), .mv (.t 9), (some (82, true))⟩,
     ⟨(some 85), .nil (.t 84), (some (82, true))⟩,
     ⟨(some 86), .fa (.t 85) 0, (some (82, true))⟩,
     ⟨(some 87), .ld (.t 86) none, (some (82, true))⟩,
     ⟨(some 88), .len (.t 87), (some (82, true))⟩,
     ⟨(some 89), .bin .eql (.t 83) (.t 88), (some (82, true))⟩,
     ⟨(some 90), .pick (.t 82) (.t 89) (.k (.s (.b false))), none⟩,
     ⟨(some 91), .mv (.t 90), none⟩,
     ⟨(some 92), .mv (.t 15), (some (91, true))⟩,
     ⟨(some 93), .bin .eql (.t 92) (.k (.s (.i .i64 0))), (some (91, true))⟩,
     ⟨(some 94), .pick (.t 91) (.t 93) (.k (.s (.b false))), none⟩,
     ⟨(some 95), .mv (.t 94), none⟩,
     ⟨(some 96), .mv (.t 16), (some (95, true))⟩,
     ⟨(some 97), .pick (.t 95) (.t 96) (.k (.s (.b false))), none⟩,
     ⟨(some 98), .mv (.t 97), none⟩,
     ⟨(some 99), .mv (.t 17), (some (98, true))⟩,
     ⟨(some 100), .mv (.t 9), (some (98, true))⟩,
     ⟨(some 101), .nil (.t 100), (some (98, true))⟩,
     ⟨(some 102), .fa (.t 101) 1, (some (98, true))⟩,
     ⟨(some 103), .ld (.t 102) none, (some (98, true))⟩,
     ⟨(some 104), .bin .eql (.t 99) (.t 103), (some (98, true))⟩,
     ⟨(some 105), .pick (.t 98) (.t 104) (.k (.s (.b false))), none⟩,
     ⟨(some 4), .mv (.t 105), none⟩])
   (.ret)))))))))))))), [.t 4]⟩
theorem dc7 : compF Try.prog Try.f7 = some df7 := by kernel_rfl
theorem ok7 : FnOk Try.prog 7 := ⟨Try.f7, Try.func7, by kernel_rfl, by kernel_rfl⟩

/-- citadel/citadellaw05.WalkEntries -/
def df8 : DF :=
  ⟨96, .seq (.reg [⟨(some 1), .box (.t 0), none⟩,
     ⟨(some 2), .mv (.k (.s (.b false))), none⟩])
   (.seq (.reg [⟨(some 20), .call 35 [], none⟩,
     ⟨(some 3), .mv (.t 20), none⟩])
   (.seq (.reg [⟨(some 21), .fa (.t 1) 0, none⟩,
     ⟨(some 22), .ld (.t 21) (some 4), none⟩,
     ⟨(some 4), .new [.b false, .b false, .i .i64 0, .i .i64 0], none⟩,
     ⟨none, .st (.t 4) (.t 22) 4, none⟩])
   (.seq (.reg [⟨(some 23), .fa (.t 1) 4, none⟩,
     ⟨(some 24), .ld (.t 23) none, none⟩,
     ⟨(some 5), .mv (.t 24), none⟩])
   (.seq (.reg [⟨(some 25), .fa (.t 1) 5, none⟩,
     ⟨(some 26), .ld (.t 25) none, none⟩,
     ⟨(some 6), .mv (.t 26), none⟩])
   (.seq (.reg [⟨(some 27), .fa (.t 1) 6, none⟩,
     ⟨(some 28), .ld (.t 27) none, none⟩,
     ⟨(some 7), .mv (.t 28), none⟩])
   (.seq (.reg [⟨(some 30), .ld (.t 4) (some 4), none⟩,
     ⟨(some 31), .call 36 [(.t 30)], none⟩,
     ⟨(some 29), .mv (.t 31), none⟩,
     ⟨(some 32), .ext (.t 29) 0, none⟩,
     ⟨(some 33), .ext (.t 29) 1, none⟩,
     ⟨(some 8), .mv (.t 32), none⟩,
     ⟨(some 9), .mv (.t 33), none⟩])
   (.seq (.reg [⟨(some 35), .ld (.t 4) (some 4), none⟩,
     ⟨(some 36), .call 37 [(.t 35)], none⟩,
     ⟨(some 34), .mv (.t 36), none⟩,
     ⟨(some 37), .ext (.t 34) 0, none⟩,
     ⟨(some 38), .ext (.t 34) 1, none⟩,
     ⟨(some 10), .mv (.t 37), none⟩,
     ⟨(some 11), .mv (.t 38), none⟩])
   (.seq (.reg [⟨(some 40), .mv (.t 5), none⟩,
     ⟨(some 41), .call 38 [(.t 40)], none⟩,
     ⟨(some 39), .mv (.t 41), none⟩,
     ⟨(some 42), .ext (.t 39) 0, none⟩,
     ⟨(some 43), .ext (.t 39) 1, none⟩,
     ⟨(some 12), .new [.b false, .b false, .i .i64 0, .i .i64 0], none⟩,
     ⟨none, .st (.t 12) (.t 42) 4, none⟩,
     ⟨(some 13), .mv (.t 43), none⟩])
   (.seq (.reg [⟨(some 45), .mv (.t 5), none⟩,
     ⟨(some 46), .call 39 [(.t 45)], none⟩,
     ⟨(some 44), .mv (.t 46), none⟩,
     ⟨(some 47), .ext (.t 44) 0, none⟩,
     ⟨(some 48), .ext (.t 44) 1, none⟩,
     ⟨(some 14), .new [.b false, .b false, .i .i64 0, .i .i64 0], none⟩,
     ⟨none, .st (.t 14) (.t 47) 4, none⟩,
     ⟨(some 15), .mv (.t 48), none⟩])
   (.seq (.reg [⟨(some 49), .mv (.t 6), none⟩,
     ⟨(some 50), .mv (.t 7), none⟩,
     ⟨(some 51), .call 40 [(.t 49), (.t 50)], none⟩,
     ⟨(some 16), .mv (.t 51), none⟩])
   (.seq (.reg [⟨(some 52), .mv (.t 6), none⟩,
     ⟨(some 53), .mv (.t 7), none⟩,
     ⟨(some 54), .call 41 [(.t 52), (.t 53)], none⟩,
     ⟨(some 17), .mv (.t 54), none⟩])
   (.seq (.seq (.reg [⟨(some 55), .mv (.t 8), none⟩,
      ⟨(some 56), .mv (.t 10), none⟩,
      ⟨(some 57), .bin .neq (.t 55) (.t 56), none⟩,
      ⟨(some 58), .mv (.t 57), none⟩,
      ⟨(some 59), .mv (.t 9), (some (58, false))⟩,
      ⟨(some 60), .mv (.t 11), (some (58, false))⟩,
      ⟨(some 61), .bin .neq (.t 59) (.t 60), (some (58, false))⟩,
      ⟨(some 62), .pick (.t 58) (.k (.s (.b true))) (.t 61), none⟩,
      ⟨(some 63), .mv (.t 62), none⟩,
      ⟨(some 64), .ld (.t 12) (some 4), (some (63, false))⟩,
      ⟨(some 65), .ld (.t 14) (some 4), (some (63, false))⟩,
      ⟨(some 66), .eqa true [false, false, true, true] (.t 64) (.t 65), (some (63, false))⟩,
      ⟨(some 67), .pick (.t 63) (.k (.s (.b true))) (.t 66), none⟩,
      ⟨(some 68), .mv (.t 67), none⟩,
      ⟨(some 69), .mv (.t 13), (some (68, false))⟩,
      ⟨(some 70), .mv (.t 15), (some (68, false))⟩,
      ⟨(some 71), .bin .neq (.t 69) (.t 70), (some (68, false))⟩,
      ⟨(some 72), .pick (.t 68) (.k (.s (.b true))) (.t 71), none⟩,
      ⟨(some 73), .mv (.t 72), none⟩,
      ⟨(some 74), .mv (.t 16), (some (73, false))⟩,
      ⟨(some 75), .mv (.t 17), (some (73, false))⟩,
      ⟨(some 76), .bin .neq (.t 74) (.t 75), (some (73, false))⟩,
      ⟨(some 77), .pick (.t 73) (.k (.s (.b true))) (.t 76), none⟩])
    (.cond (.t 77)
     (.seq (.reg [⟨(some 2), .mv (.k (.s (.b false))), none⟩])
      (.ret))
     (.skip)))
   (.seq (.seq (.reg [⟨(some 78), .mv (.t 9), none⟩,
      ⟨(some 79), .bin .eql (.t 78) (.k (.s (.i .i64 0))), none⟩])
    (.cond (.t 79)
     (.seq (.reg [⟨(some 81), .mv (.t 8), none⟩,
        ⟨(some 82), .call 38 [(.t 81)], none⟩,
        ⟨(some 80), .mv (.t 82), none⟩,
        ⟨(some 83), .ext (.t 80) 0, none⟩,
        ⟨(some 84), .ext (.t 80) 1, none⟩,
        ⟨(some 18), .new [.b false, .b false, .i .i64 0, .i .i64 0], none⟩,
        ⟨none, .st (.t 18) (.t 83) 4, none⟩,
        ⟨(some 19), .mv (.t 84), none⟩])
      (.seq (.reg [⟨(some 85), .mv (.t 3), none⟩,
        ⟨(some 86), .mv (.t 85), none⟩,
        ⟨(some 87), .mv (.t 19), (some (86, true))⟩,
        ⟨(some 88), .bin .eql (.t 87) (.k (.s (.i .i64 0))), (some (86, true))⟩,
        ⟨(some 89), .pick (.t 86) (.t 88) (.k (.s (.b false))), none⟩,
        ⟨(some 90), .mv (.t 89), none⟩,
        ⟨(some 91), .ld (.t 18) (some 4), (some (90, true))⟩,
        ⟨(some 92), .ld (.t 4) (some 4), (some (90, true))⟩,
        ⟨(some 93), .eqa false [false, false, true, true] (.t 91) (.t 92), (some (90, true))⟩,
        ⟨(some 94), .pick (.t 90) (.t 93) (.k (.s (.b false))), none⟩,
        ⟨(some 2), .mv (.t 94), none⟩])
      (.ret)))
     (.skip)))
   (.seq (.reg [⟨(some 95), .mv (.t 3), none⟩,
     ⟨(some 2), .mv (.t 95), none⟩])
   (.ret))))))))))))))), [.t 2]⟩
theorem dc8 : compF Try.prog Try.f8 = some df8 := by kernel_rfl
theorem ok8 : FnOk Try.prog 8 := ⟨Try.f8, Try.func8, by kernel_rfl, by kernel_rfl⟩

/-- citadel/citadellaw05.WalkApart -/
def df9 : DF :=
  ⟨157, .seq (.reg [⟨(some 1), .box (.t 0), none⟩,
     ⟨(some 2), .mv (.k (.s (.b false))), none⟩])
   (.seq (.reg [⟨(some 28), .fa (.t 1) 0, none⟩,
     ⟨(some 29), .ld (.t 28) none, none⟩,
     ⟨(some 3), .mv (.t 29), none⟩])
   (.seq (.reg [⟨(some 30), .fa (.t 1) 1, none⟩,
     ⟨(some 31), .ld (.t 30) none, none⟩,
     ⟨(some 4), .mv (.t 31), none⟩])
   (.seq (.reg [⟨(some 32), .fa (.t 1) 2, none⟩,
     ⟨(some 33), .ld (.t 32) none, none⟩,
     ⟨(some 5), .mv (.t 33), none⟩])
   (.seq (.reg [⟨(some 34), .fa (.t 1) 3, none⟩,
     ⟨(some 35), .ld (.t 34) (some 7), none⟩,
     ⟨(some 6), .new [.i .i64 0, .b false, .b false, .i .i64 0, .i .i64 0, .b false, .i .u64 0], none⟩,
     ⟨none, .st (.t 6) (.t 35) 7, none⟩])
   (.seq (.seq (.reg [⟨(some 36), .mv (.t 3), none⟩,
      ⟨(some 37), .len (.t 36), none⟩,
      ⟨(some 38), .bin .gtr (.t 37) (.k (.s (.i .i64 2147483647))), none⟩])
    (.cond (.t 38)
     (.seq (.reg [⟨(some 2), .mv (.k (.s (.b true))), none⟩])
      (.ret))
     (.skip)))
   (.seq (.reg [⟨(some 39), .call 35 [], none⟩,
     ⟨(some 7), .mv (.t 39), none⟩])
   (.seq (.reg [⟨(some 41), .call 23 [(.k (.s (.i .i64 12)))], none⟩,
     ⟨(some 40), .mv (.t 41), none⟩,
     ⟨(some 42), .ext (.t 40) 0, none⟩,
     ⟨(some 43), .ext (.t 40) 1, none⟩,
     ⟨(some 8), .mv (.t 42), none⟩,
     ⟨(some 9), .mv (.t 43), none⟩])
   (.seq (.reg [⟨(some 45), .call 32 [(.k (.s (.i .i64 12)))], none⟩,
     ⟨(some 44), .mv (.t 45), none⟩,
     ⟨(some 46), .ext (.t 44) 0, none⟩,
     ⟨(some 47), .ext (.t 44) 1, none⟩,
     ⟨(some 10), .mv (.t 46), none⟩,
     ⟨(some 11), .mv (.t 47), none⟩])
   (.seq (.seq (.reg [⟨(some 48), .mv (.t 8), none⟩,
      ⟨(some 49), .eqn false false (.t 48), none⟩,
      ⟨(some 50), .mv (.t 49), none⟩,
      ⟨(some 51), .mv (.t 9), (some (50, false))⟩,
      ⟨(some 52), .bin .neq (.t 51) (.k (.s (.i .i64 0))), (some (50, false))⟩,
      ⟨(some 53), .pick (.t 50) (.k (.s (.b true))) (.t 52), none⟩,
      ⟨(some 54), .mv (.t 53), none⟩,
      ⟨(some 55), .mv (.t 11), (some (54, false))⟩,
      ⟨(some 56), .bin .neq (.t 55) (.k (.s (.i .i64 0))), (some (54, false))⟩,
      ⟨(some 57), .pick (.t 54) (.k (.s (.b true))) (.t 56), none⟩])
    (.cond (.t 57)
     (.seq (.reg [⟨(some 2), .mv (.k (.s (.b false))), none⟩])
      (.ret))
     (.skip)))
   (.seq (.reg [⟨(some 58), .mv (.t 8), none⟩,
     ⟨(some 59), .mv (.t 10), none⟩,
     ⟨(some 60), .mv (.t 3), none⟩,
     ⟨(some 61), .call 42 [(.t 58), (.t 59), (.t 60)], none⟩,
     ⟨(some 12), .mv (.t 61), none⟩])
   (.seq (.reg [⟨(some 63), .mv (.t 8), none⟩,
     ⟨(some 64), .mv (.t 4), none⟩,
     ⟨(some 65), .mv (.t 5), none⟩,
     ⟨(some 66), .call 43 [(.t 63), (.t 64), (.t 65)], none⟩,
     ⟨(some 62), .mv (.t 66), none⟩,
     ⟨(some 67), .ext (.t 62) 0, none⟩,
     ⟨(some 68), .ext (.t 62) 1, none⟩,
     ⟨(some 69), .ext (.t 62) 2, none⟩,
     ⟨(some 70), .ext (.t 62) 3, none⟩,
     ⟨(some 13), .mv (.t 67), none⟩,
     ⟨(some 14), .mv (.t 68), none⟩,
     ⟨(some 15), .mv (.t 69), none⟩,
     ⟨(some 16), .mv (.t 70), none⟩])
   (.seq (.reg [⟨(some 71), .mv (.t 4), none⟩,
     ⟨(some 17), .mv (.t 71), none⟩])
   (.seq (.seq (.reg [⟨(some 18), .mv (.k (.s (.i .i64 0))), none⟩])
    (.block 0 (.loop (.seq (.seq (.reg [⟨(some 72), .mv (.t 18), none⟩,
         ⟨(some 73), .bin .lss (.t 72) (.k (.s (.i .i64 4))), none⟩])
       (.cond (.t 73)
        (.skip)
        (.exit 0)))
      (.seq (.block 1 (.seq (.reg [⟨(some 76), .mv (.t 17), none⟩,
          ⟨(some 77), .mv (.t 5), none⟩,
          ⟨(some 78), .mv (.t 18), none⟩,
          ⟨(some 79), .call 40 [(.t 77), (.t 78)], none⟩,
          ⟨(some 80), .bin .add (.t 76) (.t 79), none⟩,
          ⟨(some 19), .mv (.t 80), none⟩])
        (.seq (.seq (.reg [⟨(some 81), .mv (.t 19), none⟩,
           ⟨(some 82), .fa (.t 6) 0, none⟩,
           ⟨(some 83), .ld (.t 82) none, none⟩,
           ⟨(some 84), .bin .eql (.t 81) (.t 83), none⟩])
         (.cond (.t 84)
          (.seq (.reg [⟨(some 85), .mv (.t 7), none⟩,
             ⟨(some 86), .mv (.t 85), none⟩,
             ⟨(some 87), .mv (.t 12), (some (86, true))⟩,
             ⟨(some 88), .pick (.t 86) (.t 87) (.k (.s (.b false))), none⟩,
             ⟨(some 2), .mv (.t 88), none⟩])
           (.ret))
          (.skip)))
        (.seq (.reg [⟨(some 90), .mv (.t 10), none⟩,
          ⟨(some 91), .mv (.t 19), none⟩,
          ⟨(some 92), .call 44 [(.t 90), (.t 91)], none⟩,
          ⟨(some 89), .mv (.t 92), none⟩,
          ⟨(some 93), .ext (.t 89) 0, none⟩,
          ⟨(some 94), .ext (.t 89) 1, none⟩,
          ⟨(some 20), .mv (.t 93), none⟩,
          ⟨(some 21), .mv (.t 94), none⟩])
        (.seq (.reg [⟨(some 96), .mv (.t 20), none⟩,
          ⟨(some 97), .call 38 [(.t 96)], none⟩,
          ⟨(some 95), .mv (.t 97), none⟩,
          ⟨(some 98), .ext (.t 95) 0, none⟩,
          ⟨(some 99), .ext (.t 95) 1, none⟩,
          ⟨(some 22), .new [.b false, .b false, .i .i64 0, .i .i64 0], none⟩,
          ⟨none, .st (.t 22) (.t 98) 4, none⟩,
          ⟨(some 23), .mv (.t 99), none⟩])
        (.seq (.seq (.reg [⟨(some 100), .mv (.t 21), none⟩,
           ⟨(some 101), .bin .neq (.t 100) (.k (.s (.i .i64 0))), none⟩,
           ⟨(some 102), .mv (.t 101), none⟩,
           ⟨(some 103), .mv (.t 23), (some (102, false))⟩,
           ⟨(some 104), .bin .neq (.t 103) (.k (.s (.i .i64 0))), (some (102, false))⟩,
           ⟨(some 105), .pick (.t 102) (.k (.s (.b true))) (.t 104), none⟩,
           ⟨(some 106), .mv (.t 105), none⟩,
           ⟨(some 107), .fa (.t 22) 0, (some (106, false))⟩,
           ⟨(some 108), .ld (.t 107) none, (some (106, false))⟩,
           ⟨(some 109), .un .not (.t 108), (some (106, false))⟩,
           ⟨(some 110), .pick (.t 106) (.k (.s (.b true))) (.t 109), none⟩,
           ⟨(some 111), .mv (.t 110), none⟩,
           ⟨(some 112), .fa (.t 22) 1, (some (111, false))⟩,
           ⟨(some 113), .ld (.t 112) none, (some (111, false))⟩,
           ⟨(some 114), .pick (.t 111) (.k (.s (.b true))) (.t 113), none⟩])
         (.cond (.t 114)
          (.exit 0)
          (.skip)))
        (.reg [⟨(some 115), .fa (.t 22) 2, none⟩,
         ⟨(some 116), .ld (.t 115) none, none⟩,
         ⟨(some 17), .mv (.t 116), none⟩])))))))
      (.reg [⟨(some 74), .mv (.t 18), none⟩,
       ⟨(some 75), .bin .add (.t 74) (.k (.s (.i .i64 1))), none⟩,
       ⟨(some 18), .mv (.t 75), none⟩]))))))
   (.seq (.reg [⟨(some 117), .mv (.t 8), none⟩,
     ⟨(some 118), .fa (.t 6) 0, none⟩,
     ⟨(some 119), .ld (.t 118) none, none⟩,
     ⟨(some 120), .fa (.t 6) 6, none⟩,
     ⟨(some 121), .ld (.t 120) none, none⟩,
     ⟨(some 122), .bsl 1 [.i .u64 0] [(0, 1, (.t 121))], none⟩,
     ⟨(some 123), .call 27 [(.t 117), (.t 119), (.t 122)], none⟩])
   (.seq (.reg [⟨(some 125), .mv (.t 8), none⟩,
     ⟨(some 126), .mv (.t 4), none⟩,
     ⟨(some 127), .mv (.t 5), none⟩,
     ⟨(some 128), .call 43 [(.t 125), (.t 126), (.t 127)], none⟩,
     ⟨(some 124), .mv (.t 128), none⟩,
     ⟨(some 129), .ext (.t 124) 0, none⟩,
     ⟨(some 130), .ext (.t 124) 1, none⟩,
     ⟨(some 131), .ext (.t 124) 2, none⟩,
     ⟨(some 132), .ext (.t 124) 3, none⟩,
     ⟨(some 24), .mv (.t 129), none⟩,
     ⟨(some 25), .mv (.t 130), none⟩,
     ⟨(some 26), .mv (.t 131), none⟩,
     ⟨(some 27), .mv (.t 132), none⟩])
   (.seq (.reg [⟨(some 133), .mv (.t 7), none⟩,
     ⟨(some 134), .mv (.t 133), none⟩,
     ⟨(some 135), .mv (.t 12), (some (134, true))⟩,
     ⟨(some 136), .pick (.t 134) (.t 135) (.k (.s (.b false))), none⟩,
     ⟨(some 137), .mv (.t 136), none⟩,
     ⟨(some 138), .mv (.t 13), (some (137, true))⟩,
     ⟨(some 139), .mv (.t 24), (some (137, true))⟩,
     ⟨(some 140), .bin .eql (.t 138) (.t 139), (some (137, true))⟩,
     ⟨(some 141), .pick (.t 137) (.t 140) (.k (.s (.b false))), none⟩,
     ⟨(some 142), .mv (.t 141), none⟩,
     ⟨(some 143), .mv (.t 14), (some (142, true))⟩,
     ⟨(some 144), .mv (.t 25), (some (142, true))⟩,
     ⟨(some 145), .bin .eql (.t 143) (.t 144), (some (142, true))⟩,
     ⟨(some 146), .pick (.t 142) (.t 145) (.k (.s (.b false))), none⟩,
     ⟨(some 147), .mv (.t 146), none⟩,
     ⟨(some 148), .mv (.t 15), (some (147, true))⟩,
     ⟨(some 149), .mv (.t 26), (some (147, true))⟩,
     ⟨(some 150), .bin .eql (.t 148) (.t 149), (some (147, true))⟩,
     ⟨(some 151), .pick (.t 147) (.t 150) (.k (.s (.b false))), none⟩,
     ⟨(some 152), .mv (.t 151), none⟩,
     ⟨(some 153), .mv (.t 16), (some (152, true))⟩,
     ⟨(some 154), .mv (.t 27), (some (152, true))⟩,
     ⟨(some 155), .bin .eql (.t 153) (.t 154), (some (152, true))⟩,
     ⟨(some 156), .pick (.t 152) (.t 155) (.k (.s (.b false))), none⟩,
     ⟨(some 2), .mv (.t 156), none⟩])
   (.ret))))))))))))))))), [.t 2]⟩
theorem dc9 : compF Try.prog Try.f9 = some df9 := by kernel_rfl
theorem ok9 : FnOk Try.prog 9 := ⟨Try.f9, Try.func9, by kernel_rfl, by kernel_rfl⟩

/-- citadel/citadellaw05.WalkWalks -/
def df10 : DF :=
  ⟨121, .seq (.reg [⟨(some 6), .mv (.k (.s (.b false))), none⟩])
   (.seq (.seq (.reg [⟨(some 25), .mv (.t 0), none⟩,
      ⟨(some 26), .len (.t 25), none⟩,
      ⟨(some 27), .bin .gtr (.t 26) (.k (.s (.i .i64 2147483647))), none⟩])
    (.cond (.t 27)
     (.seq (.reg [⟨(some 6), .mv (.k (.s (.b true))), none⟩])
      (.ret))
     (.skip)))
   (.seq (.reg [⟨(some 28), .call 35 [], none⟩,
     ⟨(some 7), .mv (.t 28), none⟩])
   (.seq (.reg [⟨(some 30), .call 23 [(.k (.s (.i .i64 12)))], none⟩,
     ⟨(some 29), .mv (.t 30), none⟩,
     ⟨(some 31), .ext (.t 29) 0, none⟩,
     ⟨(some 32), .ext (.t 29) 1, none⟩,
     ⟨(some 8), .mv (.t 31), none⟩,
     ⟨(some 9), .mv (.t 32), none⟩])
   (.seq (.reg [⟨(some 34), .call 32 [(.k (.s (.i .i64 12)))], none⟩,
     ⟨(some 33), .mv (.t 34), none⟩,
     ⟨(some 35), .ext (.t 33) 0, none⟩,
     ⟨(some 36), .ext (.t 33) 1, none⟩,
     ⟨(some 10), .mv (.t 35), none⟩,
     ⟨(some 11), .mv (.t 36), none⟩])
   (.seq (.seq (.reg [⟨(some 37), .mv (.t 8), none⟩,
      ⟨(some 38), .eqn false false (.t 37), none⟩,
      ⟨(some 39), .mv (.t 38), none⟩,
      ⟨(some 40), .mv (.t 9), (some (39, false))⟩,
      ⟨(some 41), .bin .neq (.t 40) (.k (.s (.i .i64 0))), (some (39, false))⟩,
      ⟨(some 42), .pick (.t 39) (.k (.s (.b true))) (.t 41), none⟩,
      ⟨(some 43), .mv (.t 42), none⟩,
      ⟨(some 44), .mv (.t 11), (some (43, false))⟩,
      ⟨(some 45), .bin .neq (.t 44) (.k (.s (.i .i64 0))), (some (43, false))⟩,
      ⟨(some 46), .pick (.t 43) (.k (.s (.b true))) (.t 45), none⟩])
    (.cond (.t 46)
     (.seq (.reg [⟨(some 6), .mv (.k (.s (.b false))), none⟩])
      (.ret))
     (.skip)))
   (.seq (.reg [⟨(some 47), .mv (.t 8), none⟩,
     ⟨(some 48), .mv (.t 10), none⟩,
     ⟨(some 49), .mv (.t 0), none⟩,
     ⟨(some 50), .call 42 [(.t 47), (.t 48), (.t 49)], none⟩,
     ⟨(some 12), .mv (.t 50), none⟩])
   (.seq (.reg [⟨(some 52), .mv (.t 8), none⟩,
     ⟨(some 53), .mv (.t 1), none⟩,
     ⟨(some 54), .mv (.t 2), none⟩,
     ⟨(some 55), .call 43 [(.t 52), (.t 53), (.t 54)], none⟩,
     ⟨(some 51), .mv (.t 55), none⟩,
     ⟨(some 56), .ext (.t 51) 0, none⟩,
     ⟨(some 57), .ext (.t 51) 1, none⟩,
     ⟨(some 58), .ext (.t 51) 2, none⟩,
     ⟨(some 59), .ext (.t 51) 3, none⟩,
     ⟨(some 13), .mv (.t 56), none⟩,
     ⟨(some 14), .mv (.t 57), none⟩,
     ⟨(some 15), .mv (.t 58), none⟩,
     ⟨(some 16), .mv (.t 59), none⟩])
   (.seq (.reg [⟨(some 61), .mv (.t 10), none⟩,
     ⟨(some 62), .mv (.t 1), none⟩,
     ⟨(some 63), .mv (.t 2), none⟩,
     ⟨(some 64), .call 45 [(.t 61), (.t 62), (.t 63)], none⟩,
     ⟨(some 60), .mv (.t 64), none⟩,
     ⟨(some 65), .ext (.t 60) 0, none⟩,
     ⟨(some 66), .ext (.t 60) 1, none⟩,
     ⟨(some 67), .ext (.t 60) 2, none⟩,
     ⟨(some 68), .ext (.t 60) 3, none⟩,
     ⟨(some 17), .mv (.t 65), none⟩,
     ⟨(some 18), .mv (.t 66), none⟩,
     ⟨(some 19), .mv (.t 67), none⟩,
     ⟨(some 20), .mv (.t 68), none⟩])
   (.seq (.reg [⟨(some 70), .mv (.t 8), none⟩,
     ⟨(some 71), .call 26 [(.t 70), (.k (.s (.i .i64 0))), (.k (.s (.i .i64 4096)))], none⟩,
     ⟨(some 69), .mv (.t 71), none⟩,
     ⟨(some 72), .ext (.t 69) 0, none⟩,
     ⟨(some 73), .ext (.t 69) 1, none⟩,
     ⟨(some 21), .mv (.t 72), none⟩,
     ⟨(some 22), .mv (.t 73), none⟩])
   (.seq (.reg [⟨(some 74), .mv (.t 21), none⟩,
     ⟨(some 75), .mv (.t 10), none⟩,
     ⟨(some 76), .nil (.t 75), none⟩,
     ⟨(some 77), .fa (.t 76) 0, none⟩,
     ⟨(some 78), .ld (.t 77) none, none⟩,
     ⟨(some 79), .call 31 [(.t 74), (.t 78)], none⟩,
     ⟨(some 23), .mv (.t 79), none⟩])
   (.seq (.reg [⟨(some 80), .mv (.t 8), none⟩,
     ⟨(some 81), .call 25 [(.t 80)], none⟩,
     ⟨(some 24), .mv (.t 81), none⟩])
   (.seq (.reg [⟨(some 82), .mv (.t 7), none⟩,
     ⟨(some 83), .mv (.t 82), none⟩,
     ⟨(some 84), .mv (.t 12), (some (83, true))⟩,
     ⟨(some 85), .pick (.t 83) (.t 84) (.k (.s (.b false))), none⟩,
     ⟨(some 86), .mv (.t 85), none⟩,
     ⟨(some 87), .mv (.t 13), (some (86, true))⟩,
     ⟨(some 88), .mv (.t 17), (some (86, true))⟩,
     ⟨(some 89), .bin .eql (.t 87) (.t 88), (some (86, true))⟩,
     ⟨(some 90), .pick (.t 86) (.t 89) (.k (.s (.b false))), none⟩,
     ⟨(some 91), .mv (.t 90), none⟩,
     ⟨(some 92), .mv (.t 14), (some (91, true))⟩,
     ⟨(some 93), .mv (.t 18), (some (91, true))⟩,
     ⟨(some 94), .bin .eql (.t 92) (.t 93), (some (91, true))⟩,
     ⟨(some 95), .pick (.t 91) (.t 94) (.k (.s (.b false))), none⟩,
     ⟨(some 96), .mv (.t 95), none⟩,
     ⟨(some 97), .mv (.t 15), (some (96, true))⟩,
     ⟨(some 98), .mv (.t 19), (some (96, true))⟩,
     ⟨(some 99), .bin .eql (.t 97) (.t 98), (some (96, true))⟩,
     ⟨(some 100), .pick (.t 96) (.t 99) (.k (.s (.b false))), none⟩,
     ⟨(some 101), .mv (.t 100), none⟩,
     ⟨(some 102), .mv (.t 16), (some (101, true))⟩,
     ⟨(some 103), .mv (.t 20), (some (101, true))⟩,
     ⟨(some 104), .bin .eql (.t 102) (.t 103), (some (101, true))⟩,
     ⟨(some 105), .pick (.t 101) (.t 104) (.k (.s (.b false))), none⟩,
     ⟨(some 106), .mv (.t 105), none⟩,
     ⟨(some 107), .mv (.t 23), (some (106, true))⟩,
     ⟨(some 108), .pick (.t 106) (.t 107) (.k (.s (.b false))), none⟩,
     ⟨(some 109), .mv (.t 108), none⟩,
     ⟨(some 110), .mv (.t 24), (some (109, true))⟩,
     ⟨(some 111), .mv (.t 10), (some (109, true))⟩,
     ⟨(some 112), .nil (.t 111), (some (109, true))⟩,
     ⟨(some 113), .fa (.t 112) 1, (some (109, true))⟩,
     ⟨(some 114), .ld (.t 113) none, (some (109, true))⟩,
     ⟨(some 115), .bin .eql (.t 110) (.t 114), (some (109, true))⟩,
     ⟨(some 116), .pick (.t 109) (.t 115) (.k (.s (.b false))), none⟩,
     ⟨(some 117), .mv (.t 116), none⟩,
     ⟨(some 118), .mv (.t 24), (some (117, true))⟩,
     ⟨(some 119), .bin .leq (.t 118) (.k (.s (.i .i64 4))), (some (117, true))⟩,
     ⟨(some 120), .pick (.t 117) (.t 119) (.k (.s (.b false))), none⟩,
     ⟨(some 6), .mv (.t 120), none⟩])
   (.ret))))))))))))), [.t 6]⟩
theorem dc10 : compF Try.prog Try.f10 = some df10 := by kernel_rfl
theorem ok10 : FnOk Try.prog 10 := ⟨Try.f10, Try.func10, by kernel_rfl, by kernel_rfl⟩

/-- citadel/citadellaw05.WalkBuffered -/
def df11 : DF :=
  ⟨187, .seq (.reg [⟨(some 6), .mv (.k (.s (.b false))), none⟩])
   (.seq (.seq (.reg [⟨(some 24), .mv (.t 0), none⟩,
      ⟨(some 25), .len (.t 24), none⟩,
      ⟨(some 26), .bin .gtr (.t 25) (.k (.s (.i .i64 2147483647))), none⟩,
      ⟨(some 27), .mv (.t 26), none⟩,
      ⟨(some 28), .mv (.t 1), (some (27, false))⟩,
      ⟨(some 29), .len (.t 28), (some (27, false))⟩,
      ⟨(some 30), .bin .gtr (.t 29) (.k (.s (.i .i64 2147483647))), (some (27, false))⟩,
      ⟨(some 31), .pick (.t 27) (.k (.s (.b true))) (.t 30), none⟩,
      ⟨(some 32), .mv (.t 31), none⟩,
      ⟨(some 33), .mv (.t 2), (some (32, false))⟩,
      ⟨(some 34), .len (.t 33), (some (32, false))⟩,
      ⟨(some 35), .bin .gtr (.t 34) (.k (.s (.i .i64 2147483647))), (some (32, false))⟩,
      ⟨(some 36), .pick (.t 32) (.k (.s (.b true))) (.t 35), none⟩])
    (.cond (.t 36)
     (.seq (.reg [⟨(some 6), .mv (.k (.s (.b true))), none⟩])
      (.ret))
     (.skip)))
   (.seq (.reg [⟨(some 37), .call 35 [], none⟩,
     ⟨(some 7), .mv (.t 37), none⟩])
   (.seq (.reg [⟨(some 39), .call 23 [(.k (.s (.i .i64 12)))], none⟩,
     ⟨(some 38), .mv (.t 39), none⟩,
     ⟨(some 40), .ext (.t 38) 0, none⟩,
     ⟨(some 41), .ext (.t 38) 1, none⟩,
     ⟨(some 8), .mv (.t 40), none⟩,
     ⟨(some 9), .mv (.t 41), none⟩])
   (.seq (.reg [⟨(some 43), .call 32 [(.k (.s (.i .i64 12)))], none⟩,
     ⟨(some 42), .mv (.t 43), none⟩,
     ⟨(some 44), .ext (.t 42) 0, none⟩,
     ⟨(some 45), .ext (.t 42) 1, none⟩,
     ⟨(some 10), .mv (.t 44), none⟩,
     ⟨(some 11), .mv (.t 45), none⟩])
   (.seq (.reg [⟨(some 46), .call 14 [], none⟩,
     ⟨(some 12), .mv (.t 46), none⟩])
   (.seq (.seq (.reg [⟨(some 47), .mv (.t 8), none⟩,
      ⟨(some 48), .eqn false false (.t 47), none⟩,
      ⟨(some 49), .mv (.t 48), none⟩,
      ⟨(some 50), .mv (.t 12), (some (49, false))⟩,
      ⟨(some 51), .eqn false false (.t 50), (some (49, false))⟩,
      ⟨(some 52), .pick (.t 49) (.k (.s (.b true))) (.t 51), none⟩,
      ⟨(some 53), .mv (.t 52), none⟩,
      ⟨(some 54), .mv (.t 9), (some (53, false))⟩,
      ⟨(some 55), .bin .neq (.t 54) (.k (.s (.i .i64 0))), (some (53, false))⟩,
      ⟨(some 56), .pick (.t 53) (.k (.s (.b true))) (.t 55), none⟩,
      ⟨(some 57), .mv (.t 56), none⟩,
      ⟨(some 58), .mv (.t 11), (some (57, false))⟩,
      ⟨(some 59), .bin .neq (.t 58) (.k (.s (.i .i64 0))), (some (57, false))⟩,
      ⟨(some 60), .pick (.t 57) (.k (.s (.b true))) (.t 59), none⟩])
    (.cond (.t 60)
     (.seq (.reg [⟨(some 6), .mv (.k (.s (.b false))), none⟩])
      (.ret))
     (.skip)))
   (.seq (.reg [⟨(some 61), .mv (.t 8), none⟩,
     ⟨(some 62), .mv (.t 10), none⟩,
     ⟨(some 63), .mv (.t 0), none⟩,
     ⟨(some 64), .call 42 [(.t 61), (.t 62), (.t 63)], none⟩,
     ⟨(some 13), .mv (.t 64), none⟩])
   (.seq (.seq (.reg [⟨(some 65), .mv (.t 13), none⟩,
      ⟨(some 66), .un .not (.t 65), none⟩])
    (.cond (.t 66)
     (.seq (.reg [⟨(some 6), .mv (.k (.s (.b false))), none⟩])
      (.ret))
     (.skip)))
   (.seq (.seq (.reg [⟨(some 67), .mv (.t 1), none⟩,
      ⟨(some 68), .len (.t 67), none⟩,
      ⟨(some 69), .bin .eql (.t 68) (.k (.s (.i .i64 0))), none⟩])
    (.cond (.t 69)
     (.seq (.reg [⟨(some 70), .mv (.t 7), none⟩,
        ⟨(some 6), .mv (.t 70), none⟩])
      (.ret))
     (.skip)))
   (.seq (.seq (.reg [⟨(some 14), .mv (.k (.s (.i .i64 0))), none⟩])
    (.block 0 (.loop (.seq (.seq (.reg [⟨(some 71), .mv (.t 14), none⟩,
         ⟨(some 72), .mv (.t 2), none⟩,
         ⟨(some 73), .len (.t 72), none⟩,
         ⟨(some 74), .bin .lss (.t 71) (.t 73), none⟩])
       (.cond (.t 74)
        (.skip)
        (.exit 0)))
      (.seq (.block 1 (.seq (.reg [⟨(some 77), .mv (.t 2), none⟩,
          ⟨(some 78), .mv (.t 14), none⟩,
          ⟨(some 79), .ia none 7 (.t 77) (.t 78), none⟩,
          ⟨(some 80), .ld (.t 79) (some 7), none⟩,
          ⟨(some 15), .new [.i .i64 0, .i .i64 0, .i .i64 0, .b false, .i .i64 0, .b false, .b false], none⟩,
          ⟨none, .st (.t 15) (.t 80) 7, none⟩])
        (.seq (.seq (.reg [⟨(some 81), .fa (.t 15) 5, none⟩,
           ⟨(some 82), .ld (.t 81) none, none⟩])
         (.cond (.t 82)
          (.seq (.reg [⟨(some 83), .mv (.t 12), none⟩,
             ⟨(some 84), .fa (.t 15) 4, none⟩,
             ⟨(some 85), .ld (.t 84) none, none⟩,
             ⟨(some 86), .call 16 [(.t 83), (.t 85)], none⟩])
           (.exit 1))
          (.skip)))
        (.seq (.seq (.reg [⟨(some 87), .fa (.t 15) 6, none⟩,
           ⟨(some 88), .ld (.t 87) none, none⟩])
         (.cond (.t 88)
          (.seq (.reg [⟨(some 89), .mv (.t 12), none⟩,
             ⟨(some 90), .fa (.t 15) 1, none⟩,
             ⟨(some 91), .fa (.t 90) 0, none⟩,
             ⟨(some 92), .ld (.t 91) none, none⟩,
             ⟨(some 93), .call 18 [(.t 89), (.t 92)], none⟩])
           (.exit 1))
          (.skip)))
        (.seq (.seq (.reg [⟨(some 94), .fa (.t 15) 1, none⟩,
           ⟨(some 95), .fa (.t 94) 0, none⟩,
           ⟨(some 96), .ld (.t 95) none, none⟩,
           ⟨(some 97), .bin .lss (.t 96) (.k (.s (.i .i64 1))), none⟩,
           ⟨(some 98), .mv (.t 97), none⟩,
           ⟨(some 99), .fa (.t 15) 1, (some (98, false))⟩,
           ⟨(some 100), .fa (.t 99) 0, (some (98, false))⟩,
           ⟨(some 101), .ld (.t 100) none, (some (98, false))⟩,
           ⟨(some 102), .bin .gtr (.t 101) (.k (.s (.i .i64 63))), (some (98, false))⟩,
           ⟨(some 103), .pick (.t 98) (.k (.s (.b true))) (.t 102), none⟩,
           ⟨(some 104), .mv (.t 103), none⟩,
           ⟨(some 105), .fa (.t 15) 4, (some (104, false))⟩,
           ⟨(some 106), .ld (.t 105) none, (some (104, false))⟩,
           ⟨(some 107), .bin .lss (.t 106) (.k (.s (.i .i64 0))), (some (104, false))⟩,
           ⟨(some 108), .pick (.t 104) (.k (.s (.b true))) (.t 107), none⟩,
           ⟨(some 109), .mv (.t 108), none⟩,
           ⟨(some 110), .fa (.t 15) 4, (some (109, false))⟩,
           ⟨(some 111), .ld (.t 110) none, (some (109, false))⟩,
           ⟨(some 112), .bin .gtr (.t 111) (.k (.s (.i .i64 7))), (some (109, false))⟩,
           ⟨(some 113), .pick (.t 109) (.k (.s (.b true))) (.t 112), none⟩])
         (.cond (.t 113)
          (.exit 1)
          (.skip)))
        (.seq (.reg [⟨(some 114), .mv (.t 1), none⟩,
          ⟨(some 115), .fa (.t 15) 1, none⟩,
          ⟨(some 116), .fa (.t 115) 0, none⟩,
          ⟨(some 117), .ld (.t 116) none, none⟩,
          ⟨(some 118), .mv (.t 1), none⟩,
          ⟨(some 119), .len (.t 118), none⟩,
          ⟨(some 120), .bin .rem (.t 117) (.t 119), none⟩,
          ⟨(some 121), .ia none 1 (.t 114) (.t 120), none⟩,
          ⟨(some 122), .ld (.t 121) none, none⟩,
          ⟨(some 16), .mv (.t 122), none⟩])
        (.seq (.reg [⟨(some 124), .mv (.t 8), none⟩,
          ⟨(some 125), .mv (.t 12), none⟩,
          ⟨(some 126), .mv (.t 16), none⟩,
          ⟨(some 127), .fa (.t 15) 1, none⟩,
          ⟨(some 128), .ld (.t 127) (some 3), none⟩,
          ⟨(some 129), .fa (.t 15) 4, none⟩,
          ⟨(some 130), .ld (.t 129) none, none⟩,
          ⟨(some 131), .call 46 [(.t 124), (.t 125), (.t 126), (.t 128), (.t 130)], none⟩,
          ⟨(some 123), .mv (.t 131), none⟩,
          ⟨(some 132), .ext (.t 123) 0, none⟩,
          ⟨(some 133), .ext (.t 123) 1, none⟩,
          ⟨(some 17), .mv (.t 132), none⟩,
          ⟨(some 18), .mv (.t 133), none⟩])
        (.seq (.reg [⟨(some 135), .mv (.t 8), none⟩,
          ⟨(some 136), .mv (.t 16), none⟩,
          ⟨(some 137), .fa (.t 15) 1, none⟩,
          ⟨(some 138), .fa (.t 137) 1, none⟩,
          ⟨(some 139), .ld (.t 138) none, none⟩,
          ⟨(some 140), .call 43 [(.t 135), (.t 136), (.t 139)], none⟩,
          ⟨(some 134), .mv (.t 140), none⟩,
          ⟨(some 141), .ext (.t 134) 0, none⟩,
          ⟨(some 142), .ext (.t 134) 1, none⟩,
          ⟨(some 143), .ext (.t 134) 2, none⟩,
          ⟨(some 144), .ext (.t 134) 3, none⟩,
          ⟨(some 19), .mv (.t 141), none⟩,
          ⟨(some 20), .mv (.t 142), none⟩,
          ⟨(some 21), .mv (.t 143), none⟩,
          ⟨(some 22), .mv (.t 144), none⟩])
        (.seq (.reg [⟨(some 145), .mv (.t 20), none⟩,
          ⟨(some 146), .fa (.t 15) 1, none⟩,
          ⟨(some 147), .fa (.t 146) 2, none⟩,
          ⟨(some 148), .ld (.t 147) none, none⟩,
          ⟨(some 149), .call 47 [(.t 145), (.t 148)], none⟩,
          ⟨(some 23), .mv (.t 149), none⟩])
        (.seq (.seq (.reg [⟨(some 150), .mv (.t 22), none⟩,
           ⟨(some 151), .bin .neq (.t 150) (.k (.s (.i .i64 0))), none⟩])
         (.cond (.t 151)
          (.seq (.seq (.reg [⟨(some 152), .mv (.t 18), none⟩,
              ⟨(some 153), .mv (.t 22), none⟩,
              ⟨(some 154), .bin .neq (.t 152) (.t 153), none⟩,
              ⟨(some 155), .mv (.t 154), none⟩,
              ⟨(some 156), .mv (.t 17), (some (155, false))⟩,
              ⟨(some 157), .bin .neq (.t 156) (.k (.s (.i .i64 0))), (some (155, false))⟩,
              ⟨(some 158), .pick (.t 155) (.k (.s (.b true))) (.t 157), none⟩])
            (.cond (.t 158)
             (.seq (.reg [⟨(some 6), .mv (.k (.s (.b false))), none⟩])
              (.ret))
             (.skip)))
           (.exit 1))
          (.skip)))
        (.seq (.reg [⟨(some 159), .mv (.t 23), none⟩,
          ⟨(some 160), .mv (.t 159), none⟩,
          ⟨(some 161), .mv (.t 18), (some (160, true))⟩,
          ⟨(some 162), .bin .neq (.t 161) (.k (.s (.i .i64 0))), (some (160, true))⟩,
          ⟨(some 163), .mv (.t 162), (some (160, true))⟩,
          ⟨(some 164), .mv (.t 17), (some (163, false))⟩,
          ⟨(some 165), .mv (.t 19), (some (163, false))⟩,
          ⟨(some 166), .fa (.t 15) 1, (some (163, false))⟩,
          ⟨(some 167), .fa (.t 166) 1, (some (163, false))⟩,
          ⟨(some 168), .ld (.t 167) none, (some (163, false))⟩,
          ⟨(some 169), .bin .rem (.t 168) (.k (.s (.i .i64 16))), (some (163, false))⟩,
          ⟨(some 170), .bin .add (.t 165) (.t 169), (some (163, false))⟩,
          ⟨(some 171), .bin .neq (.t 164) (.t 170), (some (163, false))⟩,
          ⟨(some 172), .pick (.t 163) (.k (.s (.b true))) (.t 171), (some (160, true))⟩,
          ⟨(some 173), .pick (.t 160) (.t 172) (.k (.s (.b false))), none⟩,
          ⟨(some 174), .mv (.t 173), none⟩,
          ⟨(some 175), .mv (.t 23), (some (174, false))⟩,
          ⟨(some 176), .un .not (.t 175), (some (174, false))⟩,
          ⟨(some 177), .mv (.t 176), (some (174, false))⟩,
          ⟨(some 178), .mv (.t 18), (some (177, true))⟩,
          ⟨(some 179), .bin .neq (.t 178) (.k (.s (.i .i64 50))), (some (177, true))⟩,
          ⟨(some 180), .mv (.t 179), (some (177, true))⟩,
          ⟨(some 181), .mv (.t 17), (some (180, false))⟩,
          ⟨(some 182), .bin .neq (.t 181) (.k (.s (.i .i64 0))), (some (180, false))⟩,
          ⟨(some 183), .pick (.t 180) (.k (.s (.b true))) (.t 182), (some (177, true))⟩,
          ⟨(some 184), .pick (.t 177) (.t 183) (.k (.s (.b false))), (some (174, false))⟩,
          ⟨(some 185), .pick (.t 174) (.k (.s (.b true))) (.t 184), none⟩])
        (.cond (.t 185)
         (.seq (.reg [⟨(some 6), .mv (.k (.s (.b false))), none⟩])
          (.ret))
         (.skip)))))))))))))
      (.reg [⟨(some 75), .mv (.t 14), none⟩,
       ⟨(some 76), .bin .add (.t 75) (.k (.s (.i .i64 1))), none⟩,
       ⟨(some 14), .mv (.t 76), none⟩]))))))
   (.seq (.reg [⟨(some 186), .mv (.t 7), none⟩,
     ⟨(some 6), .mv (.t 186), none⟩])
   (.ret)))))))))))), [.t 6]⟩
theorem dc11 : compF Try.prog Try.f11 = some df11 := by kernel_rfl
theorem ok11 : FnOk Try.prog 11 := ⟨Try.f11, Try.func11, by kernel_rfl, by kernel_rfl⟩

/-- citadel/citadellaw05.WalkReaches -/
def df12 : DF :=
  ⟨141, .seq (.reg [⟨(some 4), .mv (.k (.s (.b false))), none⟩])
   (.seq (.seq (.reg [⟨(some 20), .mv (.t 0), none⟩,
      ⟨(some 21), .len (.t 20), none⟩,
      ⟨(some 22), .bin .gtr (.t 21) (.k (.s (.i .i64 2147483647))), none⟩,
      ⟨(some 23), .mv (.t 22), none⟩,
      ⟨(some 24), .mv (.t 1), (some (23, false))⟩,
      ⟨(some 25), .len (.t 24), (some (23, false))⟩,
      ⟨(some 26), .bin .gtr (.t 25) (.k (.s (.i .i64 2147483647))), (some (23, false))⟩,
      ⟨(some 27), .pick (.t 23) (.k (.s (.b true))) (.t 26), none⟩])
    (.cond (.t 27)
     (.seq (.reg [⟨(some 4), .mv (.k (.s (.b true))), none⟩])
      (.ret))
     (.skip)))
   (.seq (.reg [⟨(some 28), .call 35 [], none⟩,
     ⟨(some 5), .mv (.t 28), none⟩])
   (.seq (.reg [⟨(some 30), .call 23 [(.k (.s (.i .i64 12)))], none⟩,
     ⟨(some 29), .mv (.t 30), none⟩,
     ⟨(some 31), .ext (.t 29) 0, none⟩,
     ⟨(some 32), .ext (.t 29) 1, none⟩,
     ⟨(some 6), .mv (.t 31), none⟩,
     ⟨(some 7), .mv (.t 32), none⟩])
   (.seq (.reg [⟨(some 34), .call 32 [(.k (.s (.i .i64 12)))], none⟩,
     ⟨(some 33), .mv (.t 34), none⟩,
     ⟨(some 35), .ext (.t 33) 0, none⟩,
     ⟨(some 36), .ext (.t 33) 1, none⟩,
     ⟨(some 8), .mv (.t 35), none⟩,
     ⟨(some 9), .mv (.t 36), none⟩])
   (.seq (.reg [⟨(some 37), .call 14 [], none⟩,
     ⟨(some 10), .mv (.t 37), none⟩])
   (.seq (.seq (.reg [⟨(some 38), .mv (.t 6), none⟩,
      ⟨(some 39), .eqn false false (.t 38), none⟩,
      ⟨(some 40), .mv (.t 39), none⟩,
      ⟨(some 41), .mv (.t 10), (some (40, false))⟩,
      ⟨(some 42), .eqn false false (.t 41), (some (40, false))⟩,
      ⟨(some 43), .pick (.t 40) (.k (.s (.b true))) (.t 42), none⟩,
      ⟨(some 44), .mv (.t 43), none⟩,
      ⟨(some 45), .mv (.t 7), (some (44, false))⟩,
      ⟨(some 46), .bin .neq (.t 45) (.k (.s (.i .i64 0))), (some (44, false))⟩,
      ⟨(some 47), .pick (.t 44) (.k (.s (.b true))) (.t 46), none⟩,
      ⟨(some 48), .mv (.t 47), none⟩,
      ⟨(some 49), .mv (.t 9), (some (48, false))⟩,
      ⟨(some 50), .bin .neq (.t 49) (.k (.s (.i .i64 0))), (some (48, false))⟩,
      ⟨(some 51), .pick (.t 48) (.k (.s (.b true))) (.t 50), none⟩])
    (.cond (.t 51)
     (.seq (.reg [⟨(some 4), .mv (.k (.s (.b false))), none⟩])
      (.ret))
     (.skip)))
   (.seq (.reg [⟨(some 52), .build [.i .i64 0, .i .i64 0, .i .i64 0, .i .i64 0, .i .i64 0, .i .i64 0, .i .i64 0, .i .i64 0, .i .i64 0, .i .i64 0, .i .i64 0, .i .i64 0, .i .i64 0, .i .i64 0, .i .i64 0, .i .i64 0, .i .i64 0, .i .i64 0, .i .i64 0, .i .i64 0, .i .i64 0, .i .i64 0, .i .i64 0, .i .i64 0, .i .i64 0, .i .i64 0, .i .i64 0, .i .i64 0, .i .i64 0, .i .i64 0, .i .i64 0, .i .i64 0] [], none⟩,
     ⟨(some 53), .box (.t 52), none⟩,
     ⟨(some 11), .mv (.t 53), none⟩])
   (.seq (.reg [⟨(some 54), .mv (.t 6), none⟩,
     ⟨(some 55), .mv (.t 8), none⟩,
     ⟨(some 56), .mv (.t 0), none⟩,
     ⟨(some 57), .call 42 [(.t 54), (.t 55), (.t 56)], none⟩,
     ⟨(some 12), .mv (.t 57), none⟩])
   (.seq (.seq (.reg [⟨(some 58), .mv (.t 12), none⟩,
      ⟨(some 59), .un .not (.t 58), none⟩])
    (.cond (.t 59)
     (.seq (.reg [⟨(some 4), .mv (.k (.s (.b false))), none⟩])
      (.ret))
     (.skip)))
   (.seq (.seq (.reg [⟨(some 13), .mv (.k (.s (.i .i64 0))), none⟩])
    (.block 0 (.loop (.seq (.seq (.reg [⟨(some 60), .mv (.t 13), none⟩,
         ⟨(some 61), .mv (.t 1), none⟩,
         ⟨(some 62), .len (.t 61), none⟩,
         ⟨(some 63), .bin .lss (.t 60) (.t 62), none⟩])
       (.cond (.t 63)
        (.skip)
        (.exit 0)))
      (.seq (.block 1 (.seq (.reg [⟨(some 66), .mv (.t 1), none⟩,
          ⟨(some 67), .mv (.t 13), none⟩,
          ⟨(some 68), .ia none 7 (.t 66) (.t 67), none⟩,
          ⟨(some 69), .ld (.t 68) (some 7), none⟩,
          ⟨(some 14), .new [.i .i64 0, .i .i64 0, .i .i64 0, .b false, .i .i64 0, .b false, .b false], none⟩,
          ⟨none, .st (.t 14) (.t 69) 7, none⟩])
        (.seq (.block 2 (.seq (.reg [⟨(some 103), .fa (.t 14) 5, none⟩,
            ⟨(some 104), .ld (.t 103) none, none⟩,
            ⟨(some 102), .mv (.t 104), none⟩])
          (.cond (.t 102)
           (.seq (.reg [⟨(some 105), .mv (.t 10), none⟩,
              ⟨(some 106), .fa (.t 14) 4, none⟩,
              ⟨(some 107), .ld (.t 106) none, none⟩,
              ⟨(some 108), .call 16 [(.t 105), (.t 107)], none⟩])
            (.reg [⟨(some 109), .mv (.t 11), none⟩,
             ⟨(some 110), .fa (.t 14) 4, none⟩,
             ⟨(some 111), .ld (.t 110) none, none⟩,
             ⟨(some 112), .call 48 [(.t 109), (.t 111)], none⟩]))
           (.seq (.reg [⟨(some 114), .fa (.t 14) 6, none⟩,
              ⟨(some 115), .ld (.t 114) none, none⟩,
              ⟨(some 113), .mv (.t 115), none⟩])
            (.cond (.t 113)
             (.seq (.reg [⟨(some 116), .mv (.t 10), none⟩,
                ⟨(some 117), .fa (.t 14) 1, none⟩,
                ⟨(some 118), .fa (.t 117) 0, none⟩,
                ⟨(some 119), .ld (.t 118) none, none⟩,
                ⟨(some 120), .call 18 [(.t 116), (.t 119)], none⟩])
              (.reg [⟨(some 121), .mv (.t 11), none⟩,
               ⟨(some 122), .fa (.t 14) 1, none⟩,
               ⟨(some 123), .fa (.t 122) 0, none⟩,
               ⟨(some 124), .ld (.t 123) none, none⟩,
               ⟨(some 125), .call 49 [(.t 121), (.t 124)], none⟩]))
             (.seq (.reg [⟨(some 71), .mv (.t 6), none⟩,
                ⟨(some 72), .mv (.t 10), none⟩,
                ⟨(some 73), .fa (.t 14) 0, none⟩,
                ⟨(some 74), .ld (.t 73) none, none⟩,
                ⟨(some 75), .fa (.t 14) 1, none⟩,
                ⟨(some 76), .ld (.t 75) (some 3), none⟩,
                ⟨(some 77), .fa (.t 14) 4, none⟩,
                ⟨(some 78), .ld (.t 77) none, none⟩,
                ⟨(some 79), .call 46 [(.t 71), (.t 72), (.t 74), (.t 76), (.t 78)], none⟩,
                ⟨(some 70), .mv (.t 79), none⟩,
                ⟨(some 80), .ext (.t 70) 0, none⟩,
                ⟨(some 81), .ext (.t 70) 1, none⟩,
                ⟨(some 15), .mv (.t 80), none⟩,
                ⟨(some 16), .mv (.t 81), none⟩])
              (.seq (.reg [⟨(some 83), .mv (.t 8), none⟩,
                ⟨(some 84), .mv (.t 11), none⟩,
                ⟨(some 85), .fa (.t 14) 0, none⟩,
                ⟨(some 86), .ld (.t 85) none, none⟩,
                ⟨(some 87), .fa (.t 14) 1, none⟩,
                ⟨(some 88), .ld (.t 87) (some 3), none⟩,
                ⟨(some 89), .fa (.t 14) 4, none⟩,
                ⟨(some 90), .ld (.t 89) none, none⟩,
                ⟨(some 91), .call 50 [(.t 83), (.t 84), (.t 86), (.t 88), (.t 90)], none⟩,
                ⟨(some 82), .mv (.t 91), none⟩,
                ⟨(some 92), .ext (.t 82) 0, none⟩,
                ⟨(some 93), .ext (.t 82) 1, none⟩,
                ⟨(some 17), .mv (.t 92), none⟩,
                ⟨(some 18), .mv (.t 93), none⟩])
              (.seq (.reg [⟨(some 94), .mv (.t 15), none⟩,
                ⟨(some 95), .mv (.t 17), none⟩,
                ⟨(some 96), .bin .neq (.t 94) (.t 95), none⟩,
                ⟨(some 97), .mv (.t 96), none⟩,
                ⟨(some 98), .mv (.t 16), (some (97, false))⟩,
                ⟨(some 99), .mv (.t 18), (some (97, false))⟩,
                ⟨(some 100), .bin .neq (.t 98) (.t 99), (some (97, false))⟩,
                ⟨(some 101), .pick (.t 97) (.k (.s (.b true))) (.t 100), none⟩])
              (.cond (.t 101)
               (.seq (.reg [⟨(some 4), .mv (.k (.s (.b false))), none⟩])
                (.ret))
               (.skip))))))))))
        (.seq (.reg [⟨(some 126), .mv (.t 10), none⟩,
          ⟨(some 127), .mv (.t 11), none⟩,
          ⟨(some 128), .call 51 [(.t 126), (.t 127)], none⟩,
          ⟨(some 19), .mv (.t 128), none⟩])
        (.seq (.drm [(true, ⟨(some 129), .mv (.t 19), none⟩),
          (true, ⟨(some 130), .un .not (.t 129), none⟩),
          (true, ⟨(some 131), .mv (.t 130), none⟩),
          (true, ⟨(some 132), .mv (.t 6), (some (131, false))⟩),
          (true, ⟨(some 134), .mv (.t 8), (some (131, false))⟩),
          (true, ⟨(some 135), .nil (.t 134), (some (131, false))⟩),
          (true, ⟨(some 136), .fa (.t 135) 1, (some (131, false))⟩),
          (true, ⟨(some 137), .ld (.t 136) none, (some (131, false))⟩),
          (true, ⟨(some 133), .call 25 [(.t 132)], (some (131, false))⟩),
          (true, ⟨(some 138), .bin .neq (.t 133) (.t 137), (some (131, false))⟩),
          (true, ⟨(some 139), .pick (.t 131) (.k (.s (.b true))) (.t 138), none⟩)])
        (.cond (.t 139)
         (.seq (.reg [⟨(some 4), .mv (.k (.s (.b false))), none⟩])
          (.ret))
         (.skip)))))))
      (.reg [⟨(some 64), .mv (.t 13), none⟩,
       ⟨(some 65), .bin .add (.t 64) (.k (.s (.i .i64 1))), none⟩,
       ⟨(some 13), .mv (.t 65), none⟩]))))))
   (.seq (.reg [⟨(some 140), .mv (.t 5), none⟩,
     ⟨(some 4), .mv (.t 140), none⟩])
   (.ret)))))))))))), [.t 4]⟩
theorem dc12 : compF Try.prog Try.f12 = some df12 := by kernel_rfl
theorem ok12 : FnOk Try.prog 12 := ⟨Try.f12, Try.func12, by kernel_rfl, by kernel_rfl⟩

/-- citadel/citadellaw04.awake -/
def df13 : DF :=
  ⟨82, .seq (.reg [⟨(some 0), .mv (.k (.s (.b false))), none⟩])
   (.seq (.reg [⟨(some 12), .call 14 [], none⟩,
     ⟨(some 1), .mv (.t 12), none⟩])
   (.seq (.seq (.reg [⟨(some 13), .mv (.t 1), none⟩,
      ⟨(some 14), .eqn false false (.t 13), none⟩])
    (.cond (.t 14)
     (.seq (.reg [⟨(some 0), .mv (.k (.s (.b false))), none⟩])
      (.ret))
     (.skip)))
   (.seq (.reg [⟨(some 15), .mv (.t 1), none⟩,
     ⟨(some 16), .build [.i .i64 0, .i .i64 0, .i .i64 0, .i .i64 0] [(0, 1, (.k (.s (.i .i64 1)))), (1, 1, (.k (.s (.i .i64 7)))), (2, 1, (.k (.s (.i .i64 2048)))), (3, 1, (.k (.s (.i .i64 3))))], none⟩,
     ⟨(some 17), .call 15 [(.t 15), (.t 16), (.k (.s (.i .i64 0)))], none⟩,
     ⟨(some 2), .mv (.t 17), none⟩])
   (.seq (.reg [⟨(some 19), .mv (.t 1), none⟩,
     ⟨(some 20), .call 52 [(.t 19), (.k (.s (.i .i64 1))), (.k (.s (.i .i64 7)))], none⟩,
     ⟨(some 18), .mv (.t 20), none⟩,
     ⟨(some 21), .ext (.t 18) 0, none⟩,
     ⟨(some 22), .ext (.t 18) 1, none⟩,
     ⟨(some 23), .ext (.t 18) 2, none⟩,
     ⟨(some 3), .mv (.t 21), none⟩,
     ⟨(some 4), .mv (.t 22), none⟩,
     ⟨(some 5), .mv (.t 23), none⟩])
   (.seq (.reg [⟨(some 25), .mv (.t 1), none⟩,
     ⟨(some 26), .call 52 [(.t 25), (.k (.s (.i .i64 2))), (.k (.s (.i .i64 7)))], none⟩,
     ⟨(some 24), .mv (.t 26), none⟩,
     ⟨(some 27), .ext (.t 24) 0, none⟩,
     ⟨(some 28), .ext (.t 24) 1, none⟩,
     ⟨(some 29), .ext (.t 24) 2, none⟩,
     ⟨(some 6), .mv (.t 27), none⟩,
     ⟨(some 7), .mv (.t 28), none⟩,
     ⟨(some 8), .mv (.t 29), none⟩])
   (.seq (.reg [⟨(some 30), .mv (.t 1), none⟩,
     ⟨(some 31), .build [.i .i64 0, .i .i64 0, .i .i64 0, .i .i64 0] [(0, 1, (.k (.s (.i .i64 1)))), (1, 1, (.k (.s (.i .i64 7)))), (2, 1, (.k (.s (.i .i64 2064)))), (3, 1, (.k (.s (.i .i64 1))))], none⟩,
     ⟨(some 32), .call 15 [(.t 30), (.t 31), (.k (.s (.i .i64 5)))], none⟩,
     ⟨(some 9), .mv (.t 32), none⟩])
   (.seq (.reg [⟨(some 33), .mv (.t 1), none⟩,
     ⟨(some 34), .call 20 [(.t 33)], none⟩,
     ⟨(some 10), .mv (.t 34), none⟩])
   (.seq (.reg [⟨(some 35), .mv (.t 1), none⟩,
     ⟨(some 36), .build [.i .i64 0, .i .i64 0, .i .i64 0, .i .i64 0] [(0, 1, (.k (.s (.i .i64 1)))), (1, 1, (.k (.s (.i .i64 7)))), (2, 1, (.k (.s (.i .i64 2049)))), (3, 1, (.k (.s (.i .i64 1))))], none⟩,
     ⟨(some 37), .call 15 [(.t 35), (.t 36), (.k (.s (.i .i64 5)))], none⟩,
     ⟨(some 11), .mv (.t 37), none⟩])
   (.seq (.reg [⟨(some 38), .mv (.t 2), none⟩,
     ⟨(some 39), .bin .eql (.t 38) (.k (.s (.i .i64 0))), none⟩,
     ⟨(some 40), .mv (.t 39), none⟩,
     ⟨(some 41), .mv (.t 3), (some (40, true))⟩,
     ⟨(some 42), .bin .eql (.t 41) (.k (.s (.i .i64 2048))), (some (40, true))⟩,
     ⟨(some 43), .pick (.t 40) (.t 42) (.k (.s (.b false))), none⟩,
     ⟨(some 44), .mv (.t 43), none⟩,
     ⟨(some 45), .mv (.t 4), (some (44, true))⟩,
     ⟨(some 46), .bin .eql (.t 45) (.k (.s (.i .i64 3))), (some (44, true))⟩,
     ⟨(some 47), .pick (.t 44) (.t 46) (.k (.s (.b false))), none⟩,
     ⟨(some 48), .mv (.t 47), none⟩,
     ⟨(some 49), .mv (.t 5), (some (48, true))⟩,
     ⟨(some 50), .pick (.t 48) (.t 49) (.k (.s (.b false))), none⟩,
     ⟨(some 51), .mv (.t 50), none⟩,
     ⟨(some 52), .mv (.t 8), (some (51, true))⟩,
     ⟨(some 53), .un .not (.t 52), (some (51, true))⟩,
     ⟨(some 54), .pick (.t 51) (.t 53) (.k (.s (.b false))), none⟩,
     ⟨(some 55), .mv (.t 54), none⟩,
     ⟨(some 56), .mv (.t 9), (some (55, true))⟩,
     ⟨(some 57), .bin .eql (.t 56) (.k (.s (.i .i64 0))), (some (55, true))⟩,
     ⟨(some 58), .pick (.t 55) (.t 57) (.k (.s (.b false))), none⟩,
     ⟨(some 59), .mv (.t 58), none⟩,
     ⟨(some 60), .mv (.t 10), (some (59, true))⟩,
     ⟨(some 61), .len (.t 60), (some (59, true))⟩,
     ⟨(some 62), .bin .eql (.t 61) (.k (.s (.i .i64 8))), (some (59, true))⟩,
     ⟨(some 63), .pick (.t 59) (.t 62) (.k (.s (.b false))), none⟩,
     ⟨(some 64), .mv (.t 63), none⟩,
     ⟨(some 65), .mv (.t 10), (some (64, true))⟩,
     ⟨(some 66), .ia none 4 (.t 65) (.k (.s (.i .i64 0))), (some (64, true))⟩,
     ⟨(some 67), .fa (.t 66) 2, (some (64, true))⟩,
     ⟨(some 68), .ld (.t 67) none, (some (64, true))⟩,
     ⟨(some 69), .bin .eql (.t 68) (.k (.s (.i .i64 2064))), (some (64, true))⟩,
     ⟨(some 70), .pick (.t 64) (.t 69) (.k (.s (.b false))), none⟩,
     ⟨(some 71), .mv (.t 70), none⟩,
     ⟨(some 72), .mv (.t 10), (some (71, true))⟩,
     ⟨(some 73), .ia none 4 (.t 72) (.k (.s (.i .i64 5))), (some (71, true))⟩,
     ⟨(some 74), .ld (.t 73) (some 4), (some (71, true))⟩,
     ⟨(some 75), .build [.i .i64 0, .i .i64 0, .i .i64 0, .i .i64 0] [], (some (71, true))⟩,
     ⟨(some 76), .eqa false [true, true, true, true] (.t 74) (.t 75), (some (71, true))⟩,
     ⟨(some 77), .pick (.t 71) (.t 76) (.k (.s (.b false))), none⟩,
     ⟨(some 78), .mv (.t 77), none⟩,
     ⟨(some 79), .mv (.t 11), (some (78, true))⟩,
     ⟨(some 80), .bin .eql (.t 79) (.k (.s (.i .i64 1))), (some (78, true))⟩,
     ⟨(some 81), .pick (.t 78) (.t 80) (.k (.s (.b false))), none⟩,
     ⟨(some 0), .mv (.t 81), none⟩])
   (.ret)))))))))), [.t 0]⟩
theorem dc13 : compF Try.prog Try.f13 = some df13 := by kernel_rfl
theorem ok13 : FnOk Try.prog 13 := ⟨Try.f13, Try.func13, by kernel_rfl, by kernel_rfl⟩

/-- citadel/tlb.New -/
def df14 : DF :=
  ⟨3, .seq (.reg [⟨(some 0), .mv (.k (.s (.np))), none⟩])
   (.seq (.reg [⟨(some 1), .build [.i .i64 0, .i .i64 0, .i .i64 0, .i .i64 0, .i .i64 0, .i .i64 0, .i .i64 0, .i .i64 0, .i .i64 0, .i .i64 0, .i .i64 0, .i .i64 0, .i .i64 0, .i .i64 0, .i .i64 0, .i .i64 0, .i .i64 0, .i .i64 0, .i .i64 0, .i .i64 0, .i .i64 0, .i .i64 0, .i .i64 0, .i .i64 0, .i .i64 0, .i .i64 0, .i .i64 0, .i .i64 0, .i .i64 0, .i .i64 0, .i .i64 0, .i .i64 0] [], none⟩,
     ⟨(some 2), .box (.t 1), none⟩,
     ⟨(some 0), .mv (.t 2), none⟩])
   (.ret)), [.t 0]⟩
theorem dc14 : compF Try.prog Try.f14 = some df14 := by kernel_rfl
theorem ok14 : FnOk Try.prog 14 := ⟨Try.f14, Try.func14, by kernel_rfl, by kernel_rfl⟩

/-- (*citadel/tlb.Tlb).Fill -/
def df15 : DF :=
  ⟨56, .seq (.reg [⟨(some 4), .box (.t 1), none⟩,
     ⟨(some 6), .mv (.k (.s (.i .i64 0))), none⟩])
   (.seq (.seq (.reg [⟨(some 8), .fa (.t 4) 0, none⟩,
      ⟨(some 9), .ld (.t 8) none, none⟩,
      ⟨(some 10), .call 53 [(.t 9), (.k (.s (.i .i64 1))), (.k (.s (.i .i64 63)))], none⟩,
      ⟨(some 11), .un .not (.t 10), none⟩,
      ⟨(some 12), .mv (.t 11), none⟩,
      ⟨(some 13), .fa (.t 4) 1, (some (12, false))⟩,
      ⟨(some 14), .ld (.t 13) none, (some (12, false))⟩,
      ⟨(some 15), .call 53 [(.t 14), (.k (.s (.i .i64 0))), (.k (.s (.i .i64 4095)))], (some (12, false))⟩,
      ⟨(some 16), .un .not (.t 15), (some (12, false))⟩,
      ⟨(some 17), .pick (.t 12) (.k (.s (.b true))) (.t 16), none⟩,
      ⟨(some 18), .mv (.t 17), none⟩,
      ⟨(some 19), .fa (.t 4) 2, (some (18, false))⟩,
      ⟨(some 20), .ld (.t 19) none, (some (18, false))⟩,
      ⟨(some 21), .call 53 [(.t 20), (.k (.s (.i .i64 16))), (.k (.s (.i .i64 65520)))], (some (18, false))⟩,
      ⟨(some 22), .un .not (.t 21), (some (18, false))⟩,
      ⟨(some 23), .pick (.t 18) (.k (.s (.b true))) (.t 22), none⟩,
      ⟨(some 24), .mv (.t 23), none⟩,
      ⟨(some 25), .fa (.t 4) 2, (some (24, false))⟩,
      ⟨(some 26), .ld (.t 25) none, (some (24, false))⟩,
      ⟨(some 27), .bin .rem (.t 26) (.k (.s (.i .i64 16))), (some (24, false))⟩,
      ⟨(some 28), .bin .neq (.t 27) (.k (.s (.i .i64 0))), (some (24, false))⟩,
      ⟨(some 29), .pick (.t 24) (.k (.s (.b true))) (.t 28), none⟩,
      ⟨(some 30), .mv (.t 29), none⟩,
      ⟨(some 31), .fa (.t 4) 3, (some (30, false))⟩,
      ⟨(some 32), .ld (.t 31) none, (some (30, false))⟩,
      ⟨(some 33), .call 53 [(.t 32), (.k (.s (.i .i64 0))), (.k (.s (.i .i64 3)))], (some (30, false))⟩,
      ⟨(some 34), .un .not (.t 33), (some (30, false))⟩,
      ⟨(some 35), .pick (.t 30) (.k (.s (.b true))) (.t 34), none⟩,
      ⟨(some 36), .mv (.t 35), none⟩,
      ⟨(some 37), .mv (.t 2), (some (36, false))⟩,
      ⟨(some 38), .call 53 [(.t 37), (.k (.s (.i .i64 0))), (.k (.s (.i .i64 7)))], (some (36, false))⟩,
      ⟨(some 39), .un .not (.t 38), (some (36, false))⟩,
      ⟨(some 40), .pick (.t 36) (.k (.s (.b true))) (.t 39), none⟩])
    (.cond (.t 40)
     (.seq (.reg [⟨(some 6), .mv (.k (.s (.i .i64 1))), none⟩])
      (.ret))
     (.skip)))
   (.seq (.seq (.reg [⟨(some 41), .mv (.t 0), none⟩,
      ⟨(some 42), .fa (.t 4) 0, none⟩,
      ⟨(some 43), .ld (.t 42) none, none⟩,
      ⟨(some 44), .fa (.t 4) 1, none⟩,
      ⟨(some 45), .ld (.t 44) none, none⟩,
      ⟨(some 46), .call 54 [(.t 41), (.t 43), (.t 45)], none⟩,
      ⟨(some 7), .mv (.t 46), none⟩])
    (.seq (.reg [⟨(some 47), .mv (.t 7), none⟩,
      ⟨(some 48), .bin .geq (.t 47) (.k (.s (.i .i64 0))), none⟩])
    (.cond (.t 48)
     (.reg [⟨(some 49), .mv (.t 7), none⟩,
       ⟨(some 2), .mv (.t 49), none⟩])
     (.skip))))
   (.seq (.drt 6 [⟨(some 50), .mv (.t 0), none⟩,
     ⟨(some 51), .mv (.t 2), none⟩,
     ⟨(some 52), .ld (.t 4) (some 4), none⟩,
     ⟨(some 53), .nil (.t 50), none⟩,
     ⟨(some 54), .fa (.t 53) 0, none⟩,
     ⟨(some 55), .ia (some 8) 4 (.t 54) (.t 51), none⟩,
     ⟨none, .st (.t 55) (.t 52) 4, none⟩])
   (.seq (.reg [⟨(some 6), .mv (.k (.s (.i .i64 0))), none⟩])
   (.ret))))), [.t 6]⟩
theorem dc15 : compF Try.prog Try.f15 = some df15 := by kernel_rfl
theorem ok15 : FnOk Try.prog 15 := ⟨Try.f15, Try.func15, by kernel_rfl, by kernel_rfl⟩

/-- (*citadel/tlb.Tlb).Evict -/
def df16 : DF :=
  ⟨14, .seq (.reg [⟨(some 4), .mv (.k (.s (.i .i64 0))), none⟩])
   (.seq (.seq (.reg [⟨(some 5), .mv (.t 1), none⟩,
      ⟨(some 6), .call 53 [(.t 5), (.k (.s (.i .i64 0))), (.k (.s (.i .i64 7)))], none⟩,
      ⟨(some 7), .un .not (.t 6), none⟩])
    (.cond (.t 7)
     (.seq (.reg [⟨(some 4), .mv (.k (.s (.i .i64 1))), none⟩])
      (.ret))
     (.skip)))
   (.seq (.reg [⟨(some 8), .mv (.t 0), none⟩,
     ⟨(some 9), .mv (.t 1), none⟩,
     ⟨(some 10), .build [.i .i64 0, .i .i64 0, .i .i64 0, .i .i64 0] [], none⟩,
     ⟨(some 11), .nil (.t 8), none⟩,
     ⟨(some 12), .fa (.t 11) 0, none⟩,
     ⟨(some 13), .ia (some 8) 4 (.t 12) (.t 9), none⟩,
     ⟨none, .st (.t 13) (.t 10) 4, none⟩])
   (.seq (.reg [⟨(some 4), .mv (.k (.s (.i .i64 0))), none⟩])
   (.ret)))), [.t 4]⟩
theorem dc16 : compF Try.prog Try.f16 = some df16 := by kernel_rfl
theorem ok16 : FnOk Try.prog 16 := ⟨Try.f16, Try.func16, by kernel_rfl, by kernel_rfl⟩

/-- (*citadel/tlb.Tlb).FlushPage -/
def df17 : DF :=
  ⟨9, .seq (.reg [⟨(some 4), .box (.t 1), none⟩,
     ⟨(some 5), .box (.t 2), none⟩])
   (.reg [⟨(some 6), .mv (.t 0), none⟩,
    ⟨(some 7), .mkf 56 [(.t 4), (.t 5)], none⟩,
    ⟨(some 8), .call 55 [(.t 6), (.t 7)], none⟩]), []⟩
theorem dc17 : compF Try.prog Try.f17 = some df17 := by kernel_rfl
theorem ok17 : FnOk Try.prog 17 := ⟨Try.f17, Try.func17, by kernel_rfl, by kernel_rfl⟩

/-- (*citadel/tlb.Tlb).FlushAsid -/
def df18 : DF :=
  ⟨7, .seq (.reg [⟨(some 3), .box (.t 1), none⟩])
   (.reg [⟨(some 4), .mv (.t 0), none⟩,
    ⟨(some 5), .mkf 57 [(.t 3)], none⟩,
    ⟨(some 6), .call 55 [(.t 4), (.t 5)], none⟩]), []⟩
theorem dc18 : compF Try.prog Try.f18 = some df18 := by kernel_rfl
theorem ok18 : FnOk Try.prog 18 := ⟨Try.f18, Try.func18, by kernel_rfl, by kernel_rfl⟩

/-- (*citadel/tlb.Tlb).FlushAll -/
def df19 : DF :=
  ⟨4, .reg [⟨(some 2), .mv (.t 0), none⟩,
    ⟨(some 3), .call 55 [(.t 2), (.k (.s (.fn 58 [])))], none⟩], []⟩
theorem dc19 : compF Try.prog Try.f19 = some df19 := by kernel_rfl
theorem ok19 : FnOk Try.prog 19 := ⟨Try.f19, Try.func19, by kernel_rfl, by kernel_rfl⟩

/-- (*citadel/tlb.Tlb).Lines -/
def df20 : DF :=
  ⟨9, .seq (.reg [⟨(some 2), .mv (.k (.s (.ns))), none⟩])
   (.seq (.reg [⟨(some 4), .mv (.t 0), none⟩,
     ⟨(some 5), .nil (.t 4), none⟩,
     ⟨(some 6), .fa (.t 5) 0, none⟩,
     ⟨(some 7), .ld (.t 6) (some 32), none⟩,
     ⟨(some 3), .new [.i .i64 0, .i .i64 0, .i .i64 0, .i .i64 0, .i .i64 0, .i .i64 0, .i .i64 0, .i .i64 0, .i .i64 0, .i .i64 0, .i .i64 0, .i .i64 0, .i .i64 0, .i .i64 0, .i .i64 0, .i .i64 0, .i .i64 0, .i .i64 0, .i .i64 0, .i .i64 0, .i .i64 0, .i .i64 0, .i .i64 0, .i .i64 0, .i .i64 0, .i .i64 0, .i .i64 0, .i .i64 0, .i .i64 0, .i .i64 0, .i .i64 0, .i .i64 0], none⟩,
     ⟨none, .st (.t 3) (.t 7) 32, none⟩])
   (.seq (.reg [⟨(some 8), .slc (some 8) 4 (.t 3) none none, none⟩,
     ⟨(some 2), .mv (.t 8), none⟩])
   (.ret))), [.t 2]⟩
theorem dc20 : compF Try.prog Try.f20 = some df20 := by kernel_rfl
theorem ok20 : FnOk Try.prog 20 := ⟨Try.f20, Try.func20, by kernel_rfl, by kernel_rfl⟩

/-- citadel/citadellaw02.weighs -/
def df21 : DF :=
  ⟨26, .seq (.reg [⟨(some 2), .mv (.k (.s (.i .i64 0))), none⟩])
   (.seq (.reg [⟨(some 5), .mv (.t 0), none⟩,
     ⟨(some 6), .len (.t 5), none⟩,
     ⟨(some 3), .mv (.t 6), none⟩])
   (.seq (.seq (.reg [⟨(some 4), .mv (.k (.s (.i .i64 0))), none⟩])
    (.block 0 (.loop (.seq (.seq (.reg [⟨(some 7), .mv (.t 4), none⟩,
         ⟨(some 8), .mv (.t 0), none⟩,
         ⟨(some 9), .len (.t 8), none⟩,
         ⟨(some 10), .bin .lss (.t 7) (.t 9), none⟩,
         ⟨(some 11), .mv (.t 10), none⟩,
         ⟨(some 12), .mv (.t 3), (some (11, true))⟩,
         ⟨(some 13), .bin .leq (.t 12) (.k (.s (.i .i64 2147483647))), (some (11, true))⟩,
         ⟨(some 14), .pick (.t 11) (.t 13) (.k (.s (.b false))), none⟩])
       (.cond (.t 14)
        (.skip)
        (.exit 0)))
      (.seq (.block 1 (.reg [⟨(some 17), .mv (.t 3), none⟩,
         ⟨(some 18), .mv (.t 0), none⟩,
         ⟨(some 19), .mv (.t 4), none⟩,
         ⟨(some 20), .ia none 6 (.t 18) (.t 19), none⟩,
         ⟨(some 21), .fa (.t 20) 5, none⟩,
         ⟨(some 22), .ld (.t 21) none, none⟩,
         ⟨(some 23), .len (.t 22), none⟩,
         ⟨(some 24), .bin .add (.t 17) (.t 23), none⟩,
         ⟨(some 3), .mv (.t 24), none⟩]))
      (.reg [⟨(some 15), .mv (.t 4), none⟩,
       ⟨(some 16), .bin .add (.t 15) (.k (.s (.i .i64 1))), none⟩,
       ⟨(some 4), .mv (.t 16), none⟩]))))))
   (.seq (.reg [⟨(some 25), .mv (.t 3), none⟩,
     ⟨(some 2), .mv (.t 25), none⟩])
   (.ret)))), [.t 2]⟩
theorem dc21 : compF Try.prog Try.f21 = some df21 := by kernel_rfl
theorem ok21 : FnOk Try.prog 21 := ⟨Try.f21, Try.func21, by kernel_rfl, by kernel_rfl⟩

/-- citadel/citadellaw02.awake -/
def df22 : DF :=
  ⟨93, .seq (.reg [⟨(some 0), .mv (.k (.s (.b false))), none⟩])
   (.seq (.reg [⟨(some 17), .call 23 [(.k (.s (.i .i64 11)))], none⟩,
     ⟨(some 16), .mv (.t 17), none⟩,
     ⟨(some 18), .ext (.t 16) 0, none⟩,
     ⟨(some 19), .ext (.t 16) 1, none⟩,
     ⟨(some 1), .mv (.t 18), none⟩,
     ⟨(some 2), .mv (.t 19), none⟩])
   (.seq (.reg [⟨(some 21), .call 23 [(.k (.s (.i .i64 10)))], none⟩,
     ⟨(some 20), .mv (.t 21), none⟩,
     ⟨(some 22), .ext (.t 20) 0, none⟩,
     ⟨(some 23), .ext (.t 20) 1, none⟩,
     ⟨(some 3), .mv (.t 22), none⟩,
     ⟨(some 4), .mv (.t 23), none⟩])
   (.seq (.seq (.reg [⟨(some 24), .mv (.t 1), none⟩,
      ⟨(some 25), .eqn false false (.t 24), none⟩,
      ⟨(some 26), .mv (.t 25), none⟩,
      ⟨(some 27), .mv (.t 2), (some (26, false))⟩,
      ⟨(some 28), .bin .neq (.t 27) (.k (.s (.i .i64 0))), (some (26, false))⟩,
      ⟨(some 29), .pick (.t 26) (.k (.s (.b true))) (.t 28), none⟩,
      ⟨(some 30), .mv (.t 29), none⟩,
      ⟨(some 31), .mv (.t 4), (some (30, false))⟩,
      ⟨(some 32), .bin .neq (.t 31) (.k (.s (.i .i64 1))), (some (30, false))⟩,
      ⟨(some 33), .pick (.t 30) (.k (.s (.b true))) (.t 32), none⟩])
    (.cond (.t 33)
     (.seq (.reg [⟨(some 0), .mv (.k (.s (.b false))), none⟩])
      (.ret))
     (.skip)))
   (.seq (.reg [⟨(some 34), .mv (.t 1), none⟩,
     ⟨(some 35), .call 24 [(.t 34), (.k (.s (.i .i64 2047))), (.k (.s (.i .u64 7)))], none⟩,
     ⟨(some 5), .mv (.t 35), none⟩])
   (.seq (.reg [⟨(some 37), .mv (.t 1), none⟩,
     ⟨(some 38), .call 30 [(.t 37), (.k (.s (.i .i64 2047)))], none⟩,
     ⟨(some 36), .mv (.t 38), none⟩,
     ⟨(some 39), .ext (.t 36) 0, none⟩,
     ⟨(some 40), .ext (.t 36) 1, none⟩,
     ⟨(some 6), .mv (.t 39), none⟩,
     ⟨(some 7), .mv (.t 40), none⟩])
   (.seq (.reg [⟨(some 42), .mv (.t 1), none⟩,
     ⟨(some 43), .call 30 [(.t 42), (.k (.s (.i .i64 2048)))], none⟩,
     ⟨(some 41), .mv (.t 43), none⟩,
     ⟨(some 44), .ext (.t 41) 0, none⟩,
     ⟨(some 45), .ext (.t 41) 1, none⟩,
     ⟨(some 8), .mv (.t 44), none⟩,
     ⟨(some 9), .mv (.t 45), none⟩])
   (.seq (.reg [⟨(some 46), .mv (.t 1), none⟩,
     ⟨(some 47), .call 25 [(.t 46)], none⟩,
     ⟨(some 10), .mv (.t 47), none⟩])
   (.seq (.reg [⟨(some 48), .mv (.t 1), none⟩,
     ⟨(some 49), .call 29 [(.t 48), (.k (.s (.i .i64 10))), (.k (.s (.i .i64 3))), (.k (.s (.i .u64 9)))], none⟩,
     ⟨(some 11), .mv (.t 49), none⟩])
   (.seq (.reg [⟨(some 50), .mv (.t 1), none⟩,
     ⟨(some 51), .call 28 [(.t 50), (.k (.s (.i .i64 10))), (.k (.s (.i .i64 11))), (.k (.s (.i .i64 3)))], none⟩,
     ⟨(some 12), .mv (.t 51), none⟩])
   (.seq (.reg [⟨(some 53), .mv (.t 1), none⟩,
     ⟨(some 54), .call 26 [(.t 53), (.k (.s (.i .i64 9))), (.k (.s (.i .i64 5)))], none⟩,
     ⟨(some 52), .mv (.t 54), none⟩,
     ⟨(some 55), .ext (.t 52) 0, none⟩,
     ⟨(some 56), .ext (.t 52) 1, none⟩,
     ⟨(some 13), .mv (.t 55), none⟩,
     ⟨(some 14), .mv (.t 56), none⟩])
   (.seq (.reg [⟨(some 57), .mv (.t 13), none⟩,
     ⟨(some 58), .bsl 5 [.i .u64 0, .i .u64 0, .i .u64 0, .i .u64 0, .i .u64 0] [(0, 1, (.k (.s (.i .u64 0)))), (1, 1, (.k (.s (.i .u64 9)))), (2, 1, (.k (.s (.i .u64 9)))), (3, 1, (.k (.s (.i .u64 9)))), (4, 1, (.k (.s (.i .u64 9))))], none⟩,
     ⟨(some 59), .call 31 [(.t 57), (.t 58)], none⟩,
     ⟨(some 15), .mv (.t 59), none⟩])
   (.seq (.reg [⟨(some 60), .mv (.t 5), none⟩,
     ⟨(some 61), .bin .eql (.t 60) (.k (.s (.i .i64 0))), none⟩,
     ⟨(some 62), .mv (.t 61), none⟩,
     ⟨(some 63), .mv (.t 6), (some (62, true))⟩,
     ⟨(some 64), .bin .eql (.t 63) (.k (.s (.i .u64 7))), (some (62, true))⟩,
     ⟨(some 65), .pick (.t 62) (.t 64) (.k (.s (.b false))), none⟩,
     ⟨(some 66), .mv (.t 65), none⟩,
     ⟨(some 67), .mv (.t 7), (some (66, true))⟩,
     ⟨(some 68), .bin .eql (.t 67) (.k (.s (.i .i64 0))), (some (66, true))⟩,
     ⟨(some 69), .pick (.t 66) (.t 68) (.k (.s (.b false))), none⟩,
     ⟨(some 70), .mv (.t 69), none⟩,
     ⟨(some 71), .mv (.t 9), (some (70, true))⟩,
     ⟨(some 72), .bin .eql (.t 71) (.k (.s (.i .i64 20))), (some (70, true))⟩,
     ⟨(some 73), .pick (.t 70) (.t 72) (.k (.s (.b false))), none⟩,
     ⟨(some 74), .mv (.t 73), none⟩,
     ⟨(some 75), .mv (.t 10), (some (74, true))⟩,
     ⟨(some 76), .bin .eql (.t 75) (.k (.s (.i .i64 2))), (some (74, true))⟩,
     ⟨(some 77), .pick (.t 74) (.t 76) (.k (.s (.b false))), none⟩,
     ⟨(some 78), .mv (.t 77), none⟩,
     ⟨(some 79), .mv (.t 11), (some (78, true))⟩,
     ⟨(some 80), .bin .eql (.t 79) (.k (.s (.i .i64 0))), (some (78, true))⟩,
     ⟨(some 81), .pick (.t 78) (.t 80) (.k (.s (.b false))), none⟩,
     ⟨(some 82), .mv (.t 81), none⟩,
     ⟨(some 83), .mv (.t 12), (some (82, true))⟩,
     ⟨(some 84), .bin .eql (.t 83) (.k (.s (.i .i64 0))), (some (82, true))⟩,
     ⟨(some 85), .pick (.t 82) (.t 84) (.k (.s (.b false))), none⟩,
     ⟨(some 86), .mv (.t 85), none⟩,
     ⟨(some 87), .mv (.t 14), (some (86, true))⟩,
     ⟨(some 88), .bin .eql (.t 87) (.k (.s (.i .i64 0))), (some (86, true))⟩,
     ⟨(some 89), .pick (.t 86) (.t 88) (.k (.s (.b false))), none⟩,
     ⟨(some 90), .mv (.t 89), none⟩,
     ⟨(some 91), .mv (.t 15), (some (90, true))⟩,
     ⟨(some 92), .pick (.t 90) (.t 91) (.k (.s (.b false))), none⟩,
     ⟨(some 0), .mv (.t 92), none⟩])
   (.ret))))))))))))), [.t 0]⟩
theorem dc22 : compF Try.prog Try.f22 = some df22 := by kernel_rfl
theorem ok22 : FnOk Try.prog 22 := ⟨Try.f22, Try.func22, by kernel_rfl, by kernel_rfl⟩

/-- citadel/mem.New -/
def df23 : DF :=
  ⟨15, .seq (.reg [⟨(some 2), .mv (.k (.s (.np))), none⟩,
     ⟨(some 3), .mv (.k (.s (.i .i64 0))), none⟩])
   (.seq (.seq (.reg [⟨(some 4), .mv (.t 0), none⟩,
      ⟨(some 5), .bin .lss (.t 4) (.k (.s (.i .i64 11))), none⟩,
      ⟨(some 6), .mv (.t 5), none⟩,
      ⟨(some 7), .mv (.t 0), (some (6, false))⟩,
      ⟨(some 8), .bin .gtr (.t 7) (.k (.s (.i .i64 16))), (some (6, false))⟩,
      ⟨(some 9), .pick (.t 6) (.k (.s (.b true))) (.t 8), none⟩])
    (.cond (.t 9)
     (.seq (.reg [⟨(some 2), .mv (.k (.s (.np))), none⟩,
        ⟨(some 3), .mv (.k (.s (.i .i64 1))), none⟩])
      (.ret))
     (.skip)))
   (.seq (.reg [⟨(some 10), .mv (.t 0), none⟩,
     ⟨(some 11), .bin .shl (.k (.s (.i .i64 1))) (.t 10), none⟩,
     ⟨(some 12), .mks 1 8 [.i .u64 0] (.t 11) (.t 11), none⟩,
     ⟨(some 13), .build [.ns, .i .i64 0] [(0, 1, (.t 12))], none⟩,
     ⟨(some 14), .box (.t 13), none⟩,
     ⟨(some 2), .mv (.t 14), none⟩,
     ⟨(some 3), .mv (.k (.s (.i .i64 0))), none⟩])
   (.ret))), [.t 2, .t 3]⟩
theorem dc23 : compF Try.prog Try.f23 = some df23 := by kernel_rfl
theorem ok23 : FnOk Try.prog 23 := ⟨Try.f23, Try.func23, by kernel_rfl, by kernel_rfl⟩

/-- (*citadel/mem.Memory).Write -/
def df24 : DF :=
  ⟨11, .seq (.reg [⟨(some 6), .mv (.k (.s (.i .i64 0))), none⟩])
   (.seq (.reg [⟨(some 7), .mv (.t 0), none⟩,
     ⟨(some 8), .mv (.t 1), none⟩,
     ⟨(some 9), .mv (.t 2), none⟩,
     ⟨(some 10), .call 29 [(.t 7), (.t 8), (.k (.s (.i .i64 1))), (.t 9)], none⟩,
     ⟨(some 6), .mv (.t 10), none⟩])
   (.ret)), [.t 6]⟩
theorem dc24 : compF Try.prog Try.f24 = some df24 := by kernel_rfl
theorem ok24 : FnOk Try.prog 24 := ⟨Try.f24, Try.func24, by kernel_rfl, by kernel_rfl⟩

/-- (*citadel/mem.Memory).Steps -/
def df25 : DF :=
  ⟨7, .seq (.reg [⟨(some 2), .mv (.k (.s (.i .i64 0))), none⟩])
   (.seq (.reg [⟨(some 3), .mv (.t 0), none⟩,
     ⟨(some 4), .nil (.t 3), none⟩,
     ⟨(some 5), .fa (.t 4) 1, none⟩,
     ⟨(some 6), .ld (.t 5) none, none⟩,
     ⟨(some 2), .mv (.t 6), none⟩])
   (.ret)), [.t 2]⟩
theorem dc25 : compF Try.prog Try.f25 = some df25 := by kernel_rfl
theorem ok25 : FnOk Try.prog 25 := ⟨Try.f25, Try.func25, by kernel_rfl, by kernel_rfl⟩

/-- (*citadel/mem.Memory).Dump -/
def df26 : DF :=
  ⟨21, .seq (.reg [⟨(some 6), .mv (.k (.s (.ns))), none⟩,
     ⟨(some 7), .mv (.k (.s (.i .i64 0))), none⟩])
   (.seq (.reg [⟨(some 11), .mv (.t 0), none⟩,
     ⟨(some 12), .mv (.t 1), none⟩,
     ⟨(some 13), .mv (.t 2), none⟩,
     ⟨(some 14), .call 59 [(.t 11), (.t 12), (.t 13)], none⟩,
     ⟨(some 10), .mv (.t 14), none⟩,
     ⟨(some 15), .ext (.t 10) 0, none⟩,
     ⟨(some 16), .ext (.t 10) 1, none⟩,
     ⟨(some 8), .mv (.t 15), none⟩,
     ⟨(some 9), .mv (.t 16), none⟩])
   (.seq (.seq (.reg [⟨(some 17), .mv (.t 9), none⟩,
      ⟨(some 18), .un .not (.t 17), none⟩])
    (.cond (.t 18)
     (.seq (.reg [⟨(some 6), .mv (.k (.s (.ns))), none⟩,
        ⟨(some 7), .mv (.k (.s (.i .i64 20))), none⟩])
      (.ret))
     (.skip)))
   (.seq (.reg [⟨(some 19), .mv (.t 8), none⟩,
     ⟨(some 20), .call 60 [(.t 19)], none⟩,
     ⟨(some 6), .mv (.t 20), none⟩,
     ⟨(some 7), .mv (.k (.s (.i .i64 0))), none⟩])
   (.ret)))), [.t 6, .t 7]⟩
theorem dc26 : compF Try.prog Try.f26 = some df26 := by kernel_rfl
theorem ok26 : FnOk Try.prog 26 := ⟨Try.f26, Try.func26, by kernel_rfl, by kernel_rfl⟩

/-- (*citadel/mem.Memory).Load -/
def df27 : DF :=
  ⟨22, .seq (.reg [⟨(some 6), .mv (.k (.s (.i .i64 0))), none⟩])
   (.seq (.reg [⟨(some 10), .mv (.t 0), none⟩,
     ⟨(some 11), .mv (.t 1), none⟩,
     ⟨(some 12), .mv (.t 2), none⟩,
     ⟨(some 13), .len (.t 12), none⟩,
     ⟨(some 14), .call 59 [(.t 10), (.t 11), (.t 13)], none⟩,
     ⟨(some 9), .mv (.t 14), none⟩,
     ⟨(some 15), .ext (.t 9) 0, none⟩,
     ⟨(some 16), .ext (.t 9) 1, none⟩,
     ⟨(some 7), .mv (.t 15), none⟩,
     ⟨(some 8), .mv (.t 16), none⟩])
   (.seq (.seq (.reg [⟨(some 17), .mv (.t 8), none⟩,
      ⟨(some 18), .un .not (.t 17), none⟩])
    (.cond (.t 18)
     (.seq (.reg [⟨(some 6), .mv (.k (.s (.i .i64 20))), none⟩])
      (.ret))
     (.skip)))
   (.seq (.reg [⟨(some 19), .mv (.t 7), none⟩,
     ⟨(some 20), .mv (.t 2), none⟩,
     ⟨(some 21), .cpy 1 (.t 19) (.t 20), none⟩])
   (.seq (.reg [⟨(some 6), .mv (.k (.s (.i .i64 0))), none⟩])
   (.ret))))), [.t 6]⟩
theorem dc27 : compF Try.prog Try.f27 = some df27 := by kernel_rfl
theorem ok27 : FnOk Try.prog 27 := ⟨Try.f27, Try.func27, by kernel_rfl, by kernel_rfl⟩

/-- (*citadel/mem.Memory).Copy -/
def df28 : DF :=
  ⟨45, .seq (.reg [⟨(some 8), .mv (.k (.s (.i .i64 0))), none⟩])
   (.seq (.reg [⟨(some 14), .mv (.t 0), none⟩,
     ⟨(some 15), .mv (.t 1), none⟩,
     ⟨(some 16), .mv (.t 3), none⟩,
     ⟨(some 17), .call 59 [(.t 14), (.t 15), (.t 16)], none⟩,
     ⟨(some 13), .mv (.t 17), none⟩,
     ⟨(some 18), .ext (.t 13) 0, none⟩,
     ⟨(some 19), .ext (.t 13) 1, none⟩,
     ⟨(some 9), .mv (.t 18), none⟩,
     ⟨(some 10), .mv (.t 19), none⟩])
   (.seq (.reg [⟨(some 21), .mv (.t 0), none⟩,
     ⟨(some 22), .mv (.t 2), none⟩,
     ⟨(some 23), .mv (.t 3), none⟩,
     ⟨(some 24), .call 59 [(.t 21), (.t 22), (.t 23)], none⟩,
     ⟨(some 20), .mv (.t 24), none⟩,
     ⟨(some 25), .ext (.t 20) 0, none⟩,
     ⟨(some 26), .ext (.t 20) 1, none⟩,
     ⟨(some 11), .mv (.t 25), none⟩,
     ⟨(some 12), .mv (.t 26), none⟩])
   (.seq (.seq (.reg [⟨(some 27), .mv (.t 10), none⟩,
      ⟨(some 28), .un .not (.t 27), none⟩,
      ⟨(some 29), .mv (.t 28), none⟩,
      ⟨(some 30), .mv (.t 12), (some (29, false))⟩,
      ⟨(some 31), .un .not (.t 30), (some (29, false))⟩,
      ⟨(some 32), .pick (.t 29) (.k (.s (.b true))) (.t 31), none⟩])
    (.cond (.t 32)
     (.seq (.reg [⟨(some 8), .mv (.k (.s (.i .i64 20))), none⟩])
      (.ret))
     (.skip)))
   (.seq (.reg [⟨(some 33), .mv (.t 11), none⟩,
     ⟨(some 34), .mv (.t 9), none⟩,
     ⟨(some 35), .cpy 1 (.t 33) (.t 34), none⟩])
   (.seq (.reg [⟨(some 36), .mv (.t 0), none⟩,
     ⟨(some 37), .nil (.t 36), none⟩,
     ⟨(some 38), .fa (.t 37) 1, none⟩,
     ⟨(some 39), .ld (.t 38) none, none⟩,
     ⟨(some 40), .mv (.t 3), none⟩,
     ⟨(some 41), .bin .mul (.k (.s (.i .i64 2))) (.t 40), none⟩,
     ⟨(some 42), .bin .add (.t 39) (.t 41), none⟩,
     ⟨(some 43), .nil (.t 36), none⟩,
     ⟨(some 44), .fa (.t 43) 1, none⟩,
     ⟨none, .st (.t 44) (.t 42) 1, none⟩])
   (.seq (.reg [⟨(some 8), .mv (.k (.s (.i .i64 0))), none⟩])
   (.ret))))))), [.t 8]⟩
theorem dc28 : compF Try.prog Try.f28 = some df28 := by kernel_rfl
theorem ok28 : FnOk Try.prog 28 := ⟨Try.f28, Try.func28, by kernel_rfl, by kernel_rfl⟩

/-- (*citadel/mem.Memory).Fill -/
def df29 : DF :=
  ⟨39, .seq (.reg [⟨(some 8), .mv (.k (.s (.i .i64 0))), none⟩])
   (.seq (.reg [⟨(some 13), .mv (.t 0), none⟩,
     ⟨(some 14), .mv (.t 1), none⟩,
     ⟨(some 15), .mv (.t 2), none⟩,
     ⟨(some 16), .call 59 [(.t 13), (.t 14), (.t 15)], none⟩,
     ⟨(some 12), .mv (.t 16), none⟩,
     ⟨(some 17), .ext (.t 12) 0, none⟩,
     ⟨(some 18), .ext (.t 12) 1, none⟩,
     ⟨(some 9), .mv (.t 17), none⟩,
     ⟨(some 10), .mv (.t 18), none⟩])
   (.seq (.seq (.reg [⟨(some 19), .mv (.t 10), none⟩,
      ⟨(some 20), .un .not (.t 19), none⟩])
    (.cond (.t 20)
     (.seq (.reg [⟨(some 8), .mv (.k (.s (.i .i64 20))), none⟩])
      (.ret))
     (.skip)))
   (.seq (.seq (.reg [⟨(some 21), .mv (.t 9), none⟩,
      ⟨(some 22), .len (.t 21), none⟩,
      ⟨(some 23), .mv (.k (.s (.i .i64 0))), none⟩])
    (.block 0 (.loop (.seq (.reg [⟨(some 24), .bin .lss (.t 23) (.t 22), none⟩])
      (.seq (.cond (.t 24)
        (.skip)
        (.exit 0))
      (.seq (.block 1 (.seq (.reg [⟨(some 25), .mv (.t 23), none⟩,
          ⟨(some 11), .mv (.t 25), none⟩])
        (.reg [⟨(some 26), .mv (.t 9), none⟩,
         ⟨(some 27), .mv (.t 11), none⟩,
         ⟨(some 28), .mv (.t 3), none⟩,
         ⟨(some 29), .ia none 1 (.t 26) (.t 27), none⟩,
         ⟨none, .st (.t 29) (.t 28) 1, none⟩])))
      (.reg [⟨(some 30), .bin .add (.t 23) (.k (.s (.i .i64 1))), none⟩,
       ⟨(some 23), .mv (.t 30), none⟩])))))))
   (.seq (.reg [⟨(some 31), .mv (.t 0), none⟩,
     ⟨(some 32), .nil (.t 31), none⟩,
     ⟨(some 33), .fa (.t 32) 1, none⟩,
     ⟨(some 34), .ld (.t 33) none, none⟩,
     ⟨(some 35), .mv (.t 2), none⟩,
     ⟨(some 36), .bin .add (.t 34) (.t 35), none⟩,
     ⟨(some 37), .nil (.t 31), none⟩,
     ⟨(some 38), .fa (.t 37) 1, none⟩,
     ⟨none, .st (.t 38) (.t 36) 1, none⟩])
   (.seq (.reg [⟨(some 8), .mv (.k (.s (.i .i64 0))), none⟩])
   (.ret)))))), [.t 8]⟩
theorem dc29 : compF Try.prog Try.f29 = some df29 := by kernel_rfl
theorem ok29 : FnOk Try.prog 29 := ⟨Try.f29, Try.func29, by kernel_rfl, by kernel_rfl⟩

/-- (*citadel/mem.Memory).Read -/
def df30 : DF :=
  ⟨26, .seq (.reg [⟨(some 4), .mv (.k (.s (.i .u64 0))), none⟩,
     ⟨(some 5), .mv (.k (.s (.i .i64 0))), none⟩])
   (.seq (.reg [⟨(some 9), .mv (.t 0), none⟩,
     ⟨(some 10), .mv (.t 1), none⟩,
     ⟨(some 11), .call 59 [(.t 9), (.t 10), (.k (.s (.i .i64 1)))], none⟩,
     ⟨(some 8), .mv (.t 11), none⟩,
     ⟨(some 12), .ext (.t 8) 0, none⟩,
     ⟨(some 13), .ext (.t 8) 1, none⟩,
     ⟨(some 6), .mv (.t 12), none⟩,
     ⟨(some 7), .mv (.t 13), none⟩])
   (.seq (.seq (.reg [⟨(some 14), .mv (.t 7), none⟩,
      ⟨(some 15), .un .not (.t 14), none⟩])
    (.cond (.t 15)
     (.seq (.reg [⟨(some 4), .mv (.k (.s (.i .u64 0))), none⟩,
        ⟨(some 5), .mv (.k (.s (.i .i64 20))), none⟩])
      (.ret))
     (.skip)))
   (.seq (.reg [⟨(some 16), .mv (.t 0), none⟩,
     ⟨(some 17), .nil (.t 16), none⟩,
     ⟨(some 18), .fa (.t 17) 1, none⟩,
     ⟨(some 19), .ld (.t 18) none, none⟩,
     ⟨(some 20), .bin .add (.t 19) (.k (.s (.i .i64 1))), none⟩,
     ⟨(some 21), .nil (.t 16), none⟩,
     ⟨(some 22), .fa (.t 21) 1, none⟩,
     ⟨none, .st (.t 22) (.t 20) 1, none⟩])
   (.seq (.reg [⟨(some 23), .mv (.t 6), none⟩,
     ⟨(some 24), .ia none 1 (.t 23) (.k (.s (.i .i64 0))), none⟩,
     ⟨(some 25), .ld (.t 24) none, none⟩,
     ⟨(some 4), .mv (.t 25), none⟩,
     ⟨(some 5), .mv (.k (.s (.i .i64 0))), none⟩])
   (.ret))))), [.t 4, .t 5]⟩
theorem dc30 : compF Try.prog Try.f30 = some df30 := by kernel_rfl
theorem ok30 : FnOk Try.prog 30 := ⟨Try.f30, Try.func30, by kernel_rfl, by kernel_rfl⟩

/-- citadel/citadelref02.Same -/
def df31 : DF :=
  ⟨26, .seq (.reg [⟨(some 4), .mv (.k (.s (.b false))), none⟩])
   (.seq (.seq (.reg [⟨(some 6), .mv (.t 0), none⟩,
      ⟨(some 7), .len (.t 6), none⟩,
      ⟨(some 8), .mv (.t 1), none⟩,
      ⟨(some 9), .len (.t 8), none⟩,
      ⟨(some 10), .bin .neq (.t 7) (.t 9), none⟩])
    (.cond (.t 10)
     (.seq (.reg [⟨(some 4), .mv (.k (.s (.b false))), none⟩])
      (.ret))
     (.skip)))
   (.seq (.seq (.reg [⟨(some 5), .mv (.k (.s (.i .i64 0))), none⟩])
    (.block 0 (.loop (.seq (.seq (.reg [⟨(some 11), .mv (.t 5), none⟩,
         ⟨(some 12), .mv (.t 0), none⟩,
         ⟨(some 13), .len (.t 12), none⟩,
         ⟨(some 14), .bin .lss (.t 11) (.t 13), none⟩])
       (.cond (.t 14)
        (.skip)
        (.exit 0)))
      (.seq (.block 1 (.seq (.drq [⟨(some 17), .mv (.t 0), none⟩,
          ⟨(some 18), .mv (.t 5), none⟩,
          ⟨(some 19), .ia none 1 (.t 17) (.t 18), none⟩,
          ⟨(some 20), .ld (.t 19) none, none⟩,
          ⟨(some 21), .mv (.t 1), none⟩,
          ⟨(some 22), .mv (.t 5), none⟩,
          ⟨(some 23), .ia none 1 (.t 21) (.t 22), none⟩,
          ⟨(some 24), .ld (.t 23) none, none⟩,
          ⟨(some 25), .bin .neq (.t 20) (.t 24), none⟩])
        (.cond (.t 25)
         (.seq (.reg [⟨(some 4), .mv (.k (.s (.b false))), none⟩])
          (.ret))
         (.skip))))
      (.reg [⟨(some 15), .mv (.t 5), none⟩,
       ⟨(some 16), .bin .add (.t 15) (.k (.s (.i .i64 1))), none⟩,
       ⟨(some 5), .mv (.t 16), none⟩]))))))
   (.seq (.reg [⟨(some 4), .mv (.k (.s (.b true))), none⟩])
   (.ret)))), [.t 4]⟩
theorem dc31 : compF Try.prog Try.f31 = some df31 := by kernel_rfl
theorem ok31 : FnOk Try.prog 31 := ⟨Try.f31, Try.func31, by kernel_rfl, by kernel_rfl⟩

/-- citadel/citadelref02.New -/
def df32 : DF :=
  ⟨15, .seq (.reg [⟨(some 2), .mv (.k (.s (.np))), none⟩,
     ⟨(some 3), .mv (.k (.s (.i .i64 0))), none⟩])
   (.seq (.seq (.reg [⟨(some 4), .mv (.t 0), none⟩,
      ⟨(some 5), .bin .lss (.t 4) (.k (.s (.i .i64 11))), none⟩,
      ⟨(some 6), .mv (.t 5), none⟩,
      ⟨(some 7), .mv (.t 0), (some (6, false))⟩,
      ⟨(some 8), .bin .gtr (.t 7) (.k (.s (.i .i64 16))), (some (6, false))⟩,
      ⟨(some 9), .pick (.t 6) (.k (.s (.b true))) (.t 8), none⟩])
    (.cond (.t 9)
     (.seq (.reg [⟨(some 2), .mv (.k (.s (.np))), none⟩,
        ⟨(some 3), .mv (.k (.s (.i .i64 1))), none⟩])
      (.ret))
     (.skip)))
   (.seq (.reg [⟨(some 10), .mv (.t 0), none⟩,
     ⟨(some 11), .bin .shl (.k (.s (.i .i64 1))) (.t 10), none⟩,
     ⟨(some 12), .mks 1 8 [.i .u64 0] (.t 11) (.t 11), none⟩,
     ⟨(some 13), .build [.ns, .i .i64 0] [(0, 1, (.t 12))], none⟩,
     ⟨(some 14), .box (.t 13), none⟩,
     ⟨(some 2), .mv (.t 14), none⟩,
     ⟨(some 3), .mv (.k (.s (.i .i64 0))), none⟩])
   (.ret))), [.t 2, .t 3]⟩
theorem dc32 : compF Try.prog Try.f32 = some df32 := by kernel_rfl
theorem ok32 : FnOk Try.prog 32 := ⟨Try.f32, Try.func32, by kernel_rfl, by kernel_rfl⟩

/-- citadel/citadellaw02.plays -/
def df33 : DF :=
  ⟨198, .seq (.reg [⟨(some 5), .box (.t 2), none⟩,
     ⟨(some 6), .mv (.k (.s (.b false))), none⟩])
   (.seq (.seq (.reg [⟨(some 28), .fa (.t 5) 0, none⟩,
      ⟨(some 29), .ld (.t 28) none, none⟩])
    (.block 0 (.seq (.reg [⟨(some 31), .bin .eql (.t 29) (.k (.s (.i .i64 1))), none⟩,
       ⟨(some 30), .mv (.t 31), none⟩])
     (.cond (.t 30)
      (.seq (.reg [⟨(some 33), .mv (.t 0), none⟩,
         ⟨(some 34), .fa (.t 5) 1, none⟩,
         ⟨(some 35), .ld (.t 34) none, none⟩,
         ⟨(some 36), .call 30 [(.t 33), (.t 35)], none⟩,
         ⟨(some 32), .mv (.t 36), none⟩,
         ⟨(some 37), .ext (.t 32) 0, none⟩,
         ⟨(some 38), .ext (.t 32) 1, none⟩,
         ⟨(some 7), .mv (.t 37), none⟩,
         ⟨(some 8), .mv (.t 38), none⟩])
       (.seq (.reg [⟨(some 40), .mv (.t 1), none⟩,
         ⟨(some 41), .fa (.t 5) 1, none⟩,
         ⟨(some 42), .ld (.t 41) none, none⟩,
         ⟨(some 43), .call 44 [(.t 40), (.t 42)], none⟩,
         ⟨(some 39), .mv (.t 43), none⟩,
         ⟨(some 44), .ext (.t 39) 0, none⟩,
         ⟨(some 45), .ext (.t 39) 1, none⟩,
         ⟨(some 9), .mv (.t 44), none⟩,
         ⟨(some 10), .mv (.t 45), none⟩])
       (.seq (.reg [⟨(some 46), .mv (.t 7), none⟩,
         ⟨(some 47), .mv (.t 9), none⟩,
         ⟨(some 48), .bin .eql (.t 46) (.t 47), none⟩,
         ⟨(some 49), .mv (.t 48), none⟩,
         ⟨(some 50), .mv (.t 8), (some (49, true))⟩,
         ⟨(some 51), .mv (.t 10), (some (49, true))⟩,
         ⟨(some 52), .bin .eql (.t 50) (.t 51), (some (49, true))⟩,
         ⟨(some 53), .pick (.t 49) (.t 52) (.k (.s (.b false))), none⟩,
         ⟨(some 6), .mv (.t 53), none⟩])
       (.ret))))
      (.seq (.reg [⟨(some 55), .bin .eql (.t 29) (.k (.s (.i .i64 2))), none⟩,
         ⟨(some 54), .mv (.t 55), none⟩])
       (.cond (.t 54)
        (.seq (.reg [⟨(some 56), .mv (.t 0), none⟩,
           ⟨(some 57), .fa (.t 5) 1, none⟩,
           ⟨(some 58), .ld (.t 57) none, none⟩,
           ⟨(some 59), .fa (.t 5) 4, none⟩,
           ⟨(some 60), .ld (.t 59) none, none⟩,
           ⟨(some 61), .call 24 [(.t 56), (.t 58), (.t 60)], none⟩,
           ⟨(some 11), .mv (.t 61), none⟩])
         (.seq (.reg [⟨(some 62), .mv (.t 1), none⟩,
           ⟨(some 63), .fa (.t 5) 1, none⟩,
           ⟨(some 64), .ld (.t 63) none, none⟩,
           ⟨(some 65), .fa (.t 5) 4, none⟩,
           ⟨(some 66), .ld (.t 65) none, none⟩,
           ⟨(some 67), .call 61 [(.t 62), (.t 64), (.t 66)], none⟩,
           ⟨(some 12), .mv (.t 67), none⟩])
         (.seq (.reg [⟨(some 68), .mv (.t 11), none⟩,
           ⟨(some 69), .mv (.t 12), none⟩,
           ⟨(some 70), .bin .eql (.t 68) (.t 69), none⟩,
           ⟨(some 6), .mv (.t 70), none⟩])
         (.ret))))
        (.seq (.reg [⟨(some 72), .bin .eql (.t 29) (.k (.s (.i .i64 3))), none⟩,
           ⟨(some 71), .mv (.t 72), none⟩])
         (.cond (.t 71)
          (.seq (.reg [⟨(some 73), .mv (.t 0), none⟩,
             ⟨(some 74), .fa (.t 5) 1, none⟩,
             ⟨(some 75), .ld (.t 74) none, none⟩,
             ⟨(some 76), .fa (.t 5) 3, none⟩,
             ⟨(some 77), .ld (.t 76) none, none⟩,
             ⟨(some 78), .fa (.t 5) 4, none⟩,
             ⟨(some 79), .ld (.t 78) none, none⟩,
             ⟨(some 80), .call 29 [(.t 73), (.t 75), (.t 77), (.t 79)], none⟩,
             ⟨(some 13), .mv (.t 80), none⟩])
           (.seq (.reg [⟨(some 81), .mv (.t 1), none⟩,
             ⟨(some 82), .fa (.t 5) 1, none⟩,
             ⟨(some 83), .ld (.t 82) none, none⟩,
             ⟨(some 84), .fa (.t 5) 3, none⟩,
             ⟨(some 85), .ld (.t 84) none, none⟩,
             ⟨(some 86), .fa (.t 5) 4, none⟩,
             ⟨(some 87), .ld (.t 86) none, none⟩,
             ⟨(some 88), .call 62 [(.t 81), (.t 83), (.t 85), (.t 87)], none⟩,
             ⟨(some 14), .mv (.t 88), none⟩])
           (.seq (.reg [⟨(some 89), .mv (.t 13), none⟩,
             ⟨(some 90), .mv (.t 14), none⟩,
             ⟨(some 91), .bin .eql (.t 89) (.t 90), none⟩,
             ⟨(some 6), .mv (.t 91), none⟩])
           (.ret))))
          (.seq (.reg [⟨(some 93), .bin .eql (.t 29) (.k (.s (.i .i64 4))), none⟩,
             ⟨(some 92), .mv (.t 93), none⟩])
           (.cond (.t 92)
            (.seq (.reg [⟨(some 94), .mv (.t 0), none⟩,
               ⟨(some 95), .fa (.t 5) 1, none⟩,
               ⟨(some 96), .ld (.t 95) none, none⟩,
               ⟨(some 97), .fa (.t 5) 2, none⟩,
               ⟨(some 98), .ld (.t 97) none, none⟩,
               ⟨(some 99), .fa (.t 5) 3, none⟩,
               ⟨(some 100), .ld (.t 99) none, none⟩,
               ⟨(some 101), .call 28 [(.t 94), (.t 96), (.t 98), (.t 100)], none⟩,
               ⟨(some 15), .mv (.t 101), none⟩])
             (.seq (.reg [⟨(some 102), .mv (.t 1), none⟩,
               ⟨(some 103), .fa (.t 5) 1, none⟩,
               ⟨(some 104), .ld (.t 103) none, none⟩,
               ⟨(some 105), .fa (.t 5) 2, none⟩,
               ⟨(some 106), .ld (.t 105) none, none⟩,
               ⟨(some 107), .fa (.t 5) 3, none⟩,
               ⟨(some 108), .ld (.t 107) none, none⟩,
               ⟨(some 109), .call 63 [(.t 102), (.t 104), (.t 106), (.t 108)], none⟩,
               ⟨(some 16), .mv (.t 109), none⟩])
             (.seq (.reg [⟨(some 110), .mv (.t 15), none⟩,
               ⟨(some 111), .mv (.t 16), none⟩,
               ⟨(some 112), .bin .eql (.t 110) (.t 111), none⟩,
               ⟨(some 6), .mv (.t 112), none⟩])
             (.ret))))
            (.seq (.reg [⟨(some 114), .bin .eql (.t 29) (.k (.s (.i .i64 5))), none⟩,
               ⟨(some 113), .mv (.t 114), none⟩])
             (.cond (.t 113)
              (.seq (.reg [⟨(some 116), .mv (.t 0), none⟩,
                 ⟨(some 117), .fa (.t 5) 1, none⟩,
                 ⟨(some 118), .ld (.t 117) none, none⟩,
                 ⟨(some 119), .fa (.t 5) 3, none⟩,
                 ⟨(some 120), .ld (.t 119) none, none⟩,
                 ⟨(some 121), .call 26 [(.t 116), (.t 118), (.t 120)], none⟩,
                 ⟨(some 115), .mv (.t 121), none⟩,
                 ⟨(some 122), .ext (.t 115) 0, none⟩,
                 ⟨(some 123), .ext (.t 115) 1, none⟩,
                 ⟨(some 17), .mv (.t 122), none⟩,
                 ⟨(some 18), .mv (.t 123), none⟩])
               (.seq (.reg [⟨(some 125), .mv (.t 1), none⟩,
                 ⟨(some 126), .fa (.t 5) 1, none⟩,
                 ⟨(some 127), .ld (.t 126) none, none⟩,
                 ⟨(some 128), .fa (.t 5) 3, none⟩,
                 ⟨(some 129), .ld (.t 128) none, none⟩,
                 ⟨(some 130), .call 64 [(.t 125), (.t 127), (.t 129)], none⟩,
                 ⟨(some 124), .mv (.t 130), none⟩,
                 ⟨(some 131), .ext (.t 124) 0, none⟩,
                 ⟨(some 132), .ext (.t 124) 1, none⟩,
                 ⟨(some 19), .mv (.t 131), none⟩,
                 ⟨(some 20), .mv (.t 132), none⟩])
               (.seq (.reg [⟨(some 133), .mv (.t 17), none⟩,
                 ⟨(some 134), .mv (.t 19), none⟩,
                 ⟨(some 135), .call 31 [(.t 133), (.t 134)], none⟩,
                 ⟨(some 21), .mv (.t 135), none⟩])
               (.seq (.seq (.reg [⟨(some 22), .mv (.k (.s (.i .i64 0))), none⟩])
                (.block 1 (.loop (.seq (.seq (.reg [⟨(some 136), .mv (.t 22), none⟩,
                     ⟨(some 137), .mv (.t 17), none⟩,
                     ⟨(some 138), .len (.t 137), none⟩,
                     ⟨(some 139), .bin .lss (.t 136) (.t 138), none⟩])
                   (.cond (.t 139)
                    (.skip)
                    (.exit 1)))
                  (.seq (.block 2 (.reg [⟨(some 142), .mv (.t 17), none⟩,
                     ⟨(some 143), .mv (.t 22), none⟩,
                     ⟨(some 144), .ia none 1 (.t 142) (.t 143), none⟩,
                     ⟨none, .st (.t 144) (.k (.s (.i .u64 12345))) 1, none⟩]))
                  (.reg [⟨(some 140), .mv (.t 22), none⟩,
                   ⟨(some 141), .bin .add (.t 140) (.k (.s (.i .i64 1))), none⟩,
                   ⟨(some 22), .mv (.t 141), none⟩]))))))
               (.seq (.reg [⟨(some 145), .mv (.t 21), none⟩,
                 ⟨(some 146), .mv (.t 145), none⟩,
                 ⟨(some 147), .mv (.t 18), (some (146, true))⟩,
                 ⟨(some 148), .mv (.t 20), (some (146, true))⟩,
                 ⟨(some 149), .bin .eql (.t 147) (.t 148), (some (146, true))⟩,
                 ⟨(some 150), .pick (.t 146) (.t 149) (.k (.s (.b false))), none⟩,
                 ⟨(some 6), .mv (.t 150), none⟩])
               (.ret))))))
              (.seq (.reg [⟨(some 152), .bin .eql (.t 29) (.k (.s (.i .i64 6))), none⟩,
                 ⟨(some 151), .mv (.t 152), none⟩])
               (.cond (.t 151)
                (.seq (.reg [⟨(some 153), .fa (.t 5) 5, none⟩,
                   ⟨(some 154), .ld (.t 153) none, none⟩,
                   ⟨(some 155), .len (.t 154), none⟩,
                   ⟨(some 156), .mks 1 8 [.i .u64 0] (.t 155) (.t 155), none⟩,
                   ⟨(some 23), .mv (.t 156), none⟩])
                 (.seq (.reg [⟨(some 157), .mv (.t 23), none⟩,
                   ⟨(some 158), .fa (.t 5) 5, none⟩,
                   ⟨(some 159), .ld (.t 158) none, none⟩,
                   ⟨(some 160), .cpy 1 (.t 157) (.t 159), none⟩])
                 (.seq (.reg [⟨(some 161), .mv (.t 0), none⟩,
                   ⟨(some 162), .fa (.t 5) 1, none⟩,
                   ⟨(some 163), .ld (.t 162) none, none⟩,
                   ⟨(some 164), .mv (.t 23), none⟩,
                   ⟨(some 165), .call 27 [(.t 161), (.t 163), (.t 164)], none⟩,
                   ⟨(some 24), .mv (.t 165), none⟩])
                 (.seq (.reg [⟨(some 166), .mv (.t 1), none⟩,
                   ⟨(some 167), .fa (.t 5) 1, none⟩,
                   ⟨(some 168), .ld (.t 167) none, none⟩,
                   ⟨(some 169), .fa (.t 5) 5, none⟩,
                   ⟨(some 170), .ld (.t 169) none, none⟩,
                   ⟨(some 171), .call 65 [(.t 166), (.t 168), (.t 170)], none⟩,
                   ⟨(some 25), .mv (.t 171), none⟩])
                 (.seq (.reg [⟨(some 172), .mv (.t 23), none⟩,
                   ⟨(some 173), .fa (.t 5) 5, none⟩,
                   ⟨(some 174), .ld (.t 173) none, none⟩,
                   ⟨(some 175), .call 31 [(.t 172), (.t 174)], none⟩,
                   ⟨(some 26), .mv (.t 175), none⟩])
                 (.seq (.seq (.reg [⟨(some 27), .mv (.k (.s (.i .i64 0))), none⟩])
                  (.block 3 (.loop (.seq (.seq (.reg [⟨(some 176), .mv (.t 27), none⟩,
                       ⟨(some 177), .mv (.t 23), none⟩,
                       ⟨(some 178), .len (.t 177), none⟩,
                       ⟨(some 179), .bin .lss (.t 176) (.t 178), none⟩])
                     (.cond (.t 179)
                      (.skip)
                      (.exit 3)))
                    (.seq (.block 4 (.reg [⟨(some 182), .mv (.t 23), none⟩,
                       ⟨(some 183), .mv (.t 27), none⟩,
                       ⟨(some 184), .ia none 1 (.t 182) (.t 183), none⟩,
                       ⟨none, .st (.t 184) (.k (.s (.i .u64 54321))) 1, none⟩]))
                    (.reg [⟨(some 180), .mv (.t 27), none⟩,
                     ⟨(some 181), .bin .add (.t 180) (.k (.s (.i .i64 1))), none⟩,
                     ⟨(some 27), .mv (.t 181), none⟩]))))))
                 (.seq (.reg [⟨(some 185), .mv (.t 26), none⟩,
                   ⟨(some 186), .mv (.t 185), none⟩,
                   ⟨(some 187), .mv (.t 24), (some (186, true))⟩,
                   ⟨(some 188), .mv (.t 25), (some (186, true))⟩,
                   ⟨(some 189), .bin .eql (.t 187) (.t 188), (some (186, true))⟩,
                   ⟨(some 190), .pick (.t 186) (.t 189) (.k (.s (.b false))), none⟩,
                   ⟨(some 6), .mv (.t 190), none⟩])
                 (.ret))))))))
                (.skip)))))))))))))))
   (.seq (.drm [(true, ⟨(some 191), .mv (.t 0), none⟩),
     (true, ⟨(some 193), .mv (.t 1), none⟩),
     (true, ⟨(some 194), .nil (.t 193), none⟩),
     (true, ⟨(some 195), .fa (.t 194) 1, none⟩),
     (true, ⟨(some 196), .ld (.t 195) none, none⟩),
     (true, ⟨(some 192), .call 25 [(.t 191)], none⟩),
     (true, ⟨(some 197), .bin .eql (.t 192) (.t 196), none⟩),
     (true, ⟨(some 6), .mv (.t 197), none⟩)])
   (.ret))), [.t 6]⟩
theorem dc33 : compF Try.prog Try.f33 = some df33 := by kernel_rfl
theorem ok33 : FnOk Try.prog 33 := ⟨Try.f33, Try.func33, by kernel_rfl, by kernel_rfl⟩

/-- (*citadel/mem.Memory).Words -/
def df34 : DF :=
  ⟨8, .seq (.reg [⟨(some 2), .mv (.k (.s (.i .i64 0))), none⟩])
   (.seq (.reg [⟨(some 3), .mv (.t 0), none⟩,
     ⟨(some 4), .nil (.t 3), none⟩,
     ⟨(some 5), .fa (.t 4) 0, none⟩,
     ⟨(some 6), .ld (.t 5) none, none⟩,
     ⟨(some 7), .len (.t 6), none⟩,
     ⟨(some 2), .mv (.t 7), none⟩])
   (.ret)), [.t 2]⟩
theorem dc34 : compF Try.prog Try.f34 = some df34 := by kernel_rfl
theorem ok34 : FnOk Try.prog 34 := ⟨Try.f34, Try.func34, by kernel_rfl, by kernel_rfl⟩

/-- citadel/citadellaw05.awake -/
def df35 : DF :=
  ⟨154, .seq (.reg [⟨(some 0), .mv (.k (.s (.b false))), none⟩])
   (.seq (.reg [⟨(some 27), .call 23 [(.k (.s (.i .i64 12)))], none⟩,
     ⟨(some 26), .mv (.t 27), none⟩,
     ⟨(some 28), .ext (.t 26) 0, none⟩,
     ⟨(some 29), .ext (.t 26) 1, none⟩,
     ⟨(some 1), .mv (.t 28), none⟩,
     ⟨(some 2), .mv (.t 29), none⟩])
   (.seq (.reg [⟨(some 31), .call 32 [(.k (.s (.i .i64 12)))], none⟩,
     ⟨(some 30), .mv (.t 31), none⟩,
     ⟨(some 32), .ext (.t 30) 0, none⟩,
     ⟨(some 33), .ext (.t 30) 1, none⟩,
     ⟨(some 3), .mv (.t 32), none⟩,
     ⟨(some 4), .mv (.t 33), none⟩])
   (.seq (.reg [⟨(some 34), .call 14 [], none⟩,
     ⟨(some 5), .mv (.t 34), none⟩])
   (.seq (.seq (.reg [⟨(some 35), .mv (.t 1), none⟩,
      ⟨(some 36), .eqn false false (.t 35), none⟩,
      ⟨(some 37), .mv (.t 36), none⟩,
      ⟨(some 38), .mv (.t 5), (some (37, false))⟩,
      ⟨(some 39), .eqn false false (.t 38), (some (37, false))⟩,
      ⟨(some 40), .pick (.t 37) (.k (.s (.b true))) (.t 39), none⟩,
      ⟨(some 41), .mv (.t 40), none⟩,
      ⟨(some 42), .mv (.t 2), (some (41, false))⟩,
      ⟨(some 43), .bin .neq (.t 42) (.k (.s (.i .i64 0))), (some (41, false))⟩,
      ⟨(some 44), .pick (.t 41) (.k (.s (.b true))) (.t 43), none⟩])
    (.cond (.t 44)
     (.seq (.reg [⟨(some 0), .mv (.k (.s (.b false))), none⟩])
      (.ret))
     (.skip)))
   (.seq (.reg [⟨(some 45), .mv (.t 1), none⟩,
     ⟨(some 46), .mv (.t 3), none⟩,
     ⟨(some 47), .call 66 [], none⟩,
     ⟨(some 48), .call 42 [(.t 45), (.t 46), (.t 47)], none⟩,
     ⟨(some 6), .mv (.t 48), none⟩])
   (.seq (.reg [⟨(some 50), .build [.b false, .b false, .i .i64 0, .i .i64 0] [(0, 1, (.k (.s (.b true)))), (2, 1, (.k (.s (.i .i64 1032))))], none⟩,
     ⟨(some 51), .call 36 [(.t 50)], none⟩,
     ⟨(some 49), .mv (.t 51), none⟩,
     ⟨(some 52), .ext (.t 49) 0, none⟩,
     ⟨(some 53), .ext (.t 49) 1, none⟩,
     ⟨(some 7), .mv (.t 52), none⟩,
     ⟨(some 8), .mv (.t 53), none⟩])
   (.seq (.reg [⟨(some 55), .mv (.t 7), none⟩,
     ⟨(some 56), .call 38 [(.t 55)], none⟩,
     ⟨(some 54), .mv (.t 56), none⟩,
     ⟨(some 57), .ext (.t 54) 0, none⟩,
     ⟨(some 58), .ext (.t 54) 1, none⟩,
     ⟨(some 9), .new [.b false, .b false, .i .i64 0, .i .i64 0], none⟩,
     ⟨none, .st (.t 9) (.t 57) 4, none⟩,
     ⟨(some 10), .mv (.t 58), none⟩])
   (.seq (.reg [⟨(some 60), .call 38 [(.k (.s (.i .u64 2)))], none⟩,
     ⟨(some 59), .mv (.t 60), none⟩,
     ⟨(some 61), .ext (.t 59) 0, none⟩,
     ⟨(some 62), .ext (.t 59) 1, none⟩,
     ⟨(some 11), .new [.b false, .b false, .i .i64 0, .i .i64 0], none⟩,
     ⟨none, .st (.t 11) (.t 61) 4, none⟩,
     ⟨(some 12), .mv (.t 62), none⟩])
   (.seq (.reg [⟨(some 64), .mv (.t 1), none⟩,
     ⟨(some 65), .call 43 [(.t 64), (.k (.s (.i .i64 1024))), (.k (.s (.i .i64 10693)))], none⟩,
     ⟨(some 63), .mv (.t 65), none⟩,
     ⟨(some 66), .ext (.t 63) 0, none⟩,
     ⟨(some 67), .ext (.t 63) 1, none⟩,
     ⟨(some 68), .ext (.t 63) 2, none⟩,
     ⟨(some 69), .ext (.t 63) 3, none⟩,
     ⟨(some 13), .mv (.t 66), none⟩,
     ⟨(some 14), .mv (.t 67), none⟩,
     ⟨(some 15), .mv (.t 68), none⟩,
     ⟨(some 16), .mv (.t 69), none⟩])
   (.seq (.reg [⟨(some 71), .mv (.t 1), none⟩,
     ⟨(some 72), .call 43 [(.t 71), (.k (.s (.i .i64 1024))), (.k (.s (.i .i64 11264)))], none⟩,
     ⟨(some 70), .mv (.t 72), none⟩,
     ⟨(some 73), .ext (.t 70) 0, none⟩,
     ⟨(some 74), .ext (.t 70) 1, none⟩,
     ⟨(some 75), .ext (.t 70) 2, none⟩,
     ⟨(some 76), .ext (.t 70) 3, none⟩,
     ⟨(some 17), .mv (.t 73), none⟩,
     ⟨(some 18), .mv (.t 74), none⟩,
     ⟨(some 19), .mv (.t 75), none⟩,
     ⟨(some 20), .mv (.t 76), none⟩])
   (.seq (.reg [⟨(some 78), .mv (.t 1), none⟩,
     ⟨(some 79), .mv (.t 5), none⟩,
     ⟨(some 80), .build [.i .i64 0, .i .i64 0, .b false] [(0, 1, (.k (.s (.i .i64 1)))), (1, 1, (.k (.s (.i .i64 10693))))], none⟩,
     ⟨(some 81), .call 46 [(.t 78), (.t 79), (.k (.s (.i .i64 1024))), (.t 80), (.k (.s (.i .i64 0)))], none⟩,
     ⟨(some 77), .mv (.t 81), none⟩,
     ⟨(some 82), .ext (.t 77) 0, none⟩,
     ⟨(some 83), .ext (.t 77) 1, none⟩,
     ⟨(some 21), .mv (.t 82), none⟩,
     ⟨(some 22), .mv (.t 83), none⟩])
   (.seq (.reg [⟨(some 85), .mv (.t 1), none⟩,
     ⟨(some 86), .mv (.t 5), none⟩,
     ⟨(some 87), .build [.i .i64 0, .i .i64 0, .b false] [(0, 1, (.k (.s (.i .i64 1)))), (1, 1, (.k (.s (.i .i64 10693)))), (2, 1, (.k (.s (.b true))))], none⟩,
     ⟨(some 88), .call 46 [(.t 85), (.t 86), (.k (.s (.i .i64 1024))), (.t 87), (.k (.s (.i .i64 0)))], none⟩,
     ⟨(some 84), .mv (.t 88), none⟩,
     ⟨(some 89), .ext (.t 84) 0, none⟩,
     ⟨(some 90), .ext (.t 84) 1, none⟩,
     ⟨(some 23), .mv (.t 89), none⟩,
     ⟨(some 24), .mv (.t 90), none⟩])
   (.seq (.reg [⟨(some 91), .call 40 [(.k (.s (.i .i64 10693))), (.k (.s (.i .i64 2)))], none⟩,
     ⟨(some 25), .mv (.t 91), none⟩])
   (.seq (.reg [⟨(some 92), .mv (.t 6), none⟩,
     ⟨(some 93), .mv (.t 92), none⟩,
     ⟨(some 94), .mv (.t 7), (some (93, true))⟩,
     ⟨(some 95), .bin .eql (.t 94) (.k (.s (.i .u64 67633153))), (some (93, true))⟩,
     ⟨(some 96), .pick (.t 93) (.t 95) (.k (.s (.b false))), none⟩,
     ⟨(some 97), .mv (.t 96), none⟩,
     ⟨(some 98), .mv (.t 8), (some (97, true))⟩,
     ⟨(some 99), .bin .eql (.t 98) (.k (.s (.i .i64 0))), (some (97, true))⟩,
     ⟨(some 100), .pick (.t 97) (.t 99) (.k (.s (.b false))), none⟩,
     ⟨(some 101), .mv (.t 100), none⟩,
     ⟨(some 102), .fa (.t 9) 2, (some (101, true))⟩,
     ⟨(some 103), .ld (.t 102) none, (some (101, true))⟩,
     ⟨(some 104), .bin .eql (.t 103) (.k (.s (.i .i64 1032))), (some (101, true))⟩,
     ⟨(some 105), .pick (.t 101) (.t 104) (.k (.s (.b false))), none⟩,
     ⟨(some 106), .mv (.t 105), none⟩,
     ⟨(some 107), .mv (.t 10), (some (106, true))⟩,
     ⟨(some 108), .bin .eql (.t 107) (.k (.s (.i .i64 0))), (some (106, true))⟩,
     ⟨(some 109), .pick (.t 106) (.t 108) (.k (.s (.b false))), none⟩,
     ⟨(some 110), .mv (.t 109), none⟩,
     ⟨(some 111), .mv (.t 12), (some (110, true))⟩,
     ⟨(some 112), .bin .eql (.t 111) (.k (.s (.i .i64 10))), (some (110, true))⟩,
     ⟨(some 113), .pick (.t 110) (.t 112) (.k (.s (.b false))), none⟩,
     ⟨(some 114), .mv (.t 113), none⟩,
     ⟨(some 115), .mv (.t 13), (some (114, true))⟩,
     ⟨(some 116), .bin .eql (.t 115) (.k (.s (.i .i64 2048))), (some (114, true))⟩,
     ⟨(some 117), .pick (.t 114) (.t 116) (.k (.s (.b false))), none⟩,
     ⟨(some 118), .mv (.t 117), none⟩,
     ⟨(some 119), .mv (.t 14), (some (118, true))⟩,
     ⟨(some 120), .bin .eql (.t 119) (.k (.s (.i .i64 1))), (some (118, true))⟩,
     ⟨(some 121), .pick (.t 118) (.t 120) (.k (.s (.b false))), none⟩,
     ⟨(some 122), .mv (.t 121), none⟩,
     ⟨(some 123), .mv (.t 15), (some (122, true))⟩,
     ⟨(some 124), .bin .eql (.t 123) (.k (.s (.i .i64 3))), (some (122, true))⟩,
     ⟨(some 125), .pick (.t 122) (.t 124) (.k (.s (.b false))), none⟩,
     ⟨(some 126), .mv (.t 125), none⟩,
     ⟨(some 127), .mv (.t 16), (some (126, true))⟩,
     ⟨(some 128), .bin .eql (.t 127) (.k (.s (.i .i64 0))), (some (126, true))⟩,
     ⟨(some 129), .pick (.t 126) (.t 128) (.k (.s (.b false))), none⟩,
     ⟨(some 130), .mv (.t 129), none⟩,
     ⟨(some 131), .mv (.t 19), (some (130, true))⟩,
     ⟨(some 132), .bin .eql (.t 131) (.k (.s (.i .i64 1))), (some (130, true))⟩,
     ⟨(some 133), .pick (.t 130) (.t 132) (.k (.s (.b false))), none⟩,
     ⟨(some 134), .mv (.t 133), none⟩,
     ⟨(some 135), .mv (.t 20), (some (134, true))⟩,
     ⟨(some 136), .bin .eql (.t 135) (.k (.s (.i .i64 50))), (some (134, true))⟩,
     ⟨(some 137), .pick (.t 134) (.t 136) (.k (.s (.b false))), none⟩,
     ⟨(some 138), .mv (.t 137), none⟩,
     ⟨(some 139), .mv (.t 21), (some (138, true))⟩,
     ⟨(some 140), .bin .eql (.t 139) (.k (.s (.i .i64 2053))), (some (138, true))⟩,
     ⟨(some 141), .pick (.t 138) (.t 140) (.k (.s (.b false))), none⟩,
     ⟨(some 142), .mv (.t 141), none⟩,
     ⟨(some 143), .mv (.t 22), (some (142, true))⟩,
     ⟨(some 144), .bin .eql (.t 143) (.k (.s (.i .i64 0))), (some (142, true))⟩,
     ⟨(some 145), .pick (.t 142) (.t 144) (.k (.s (.b false))), none⟩,
     ⟨(some 146), .mv (.t 145), none⟩,
     ⟨(some 147), .mv (.t 24), (some (146, true))⟩,
     ⟨(some 148), .bin .eql (.t 147) (.k (.s (.i .i64 50))), (some (146, true))⟩,
     ⟨(some 149), .pick (.t 146) (.t 148) (.k (.s (.b false))), none⟩,
     ⟨(some 150), .mv (.t 149), none⟩,
     ⟨(some 151), .mv (.t 25), (some (150, true))⟩,
     ⟨(some 152), .bin .eql (.t 151) (.k (.s (.i .i64 3))), (some (150, true))⟩,
     ⟨(some 153), .pick (.t 150) (.t 152) (.k (.s (.b false))), none⟩,
     ⟨(some 0), .mv (.t 153), none⟩])
   (.ret))))))))))))))), [.t 0]⟩
theorem dc35 : compF Try.prog Try.f35 = some df35 := by kernel_rfl
theorem ok35 : FnOk Try.prog 35 := ⟨Try.f35, Try.func35, by kernel_rfl, by kernel_rfl⟩

/-- citadel/walk.Encode -/
def df36 : DF :=
  ⟨26, .seq (.reg [⟨(some 1), .box (.t 0), none⟩,
     ⟨(some 2), .mv (.k (.s (.i .u64 0))), none⟩,
     ⟨(some 3), .mv (.k (.s (.i .i64 0))), none⟩])
   (.seq (.seq (.reg [⟨(some 5), .ld (.t 1) (some 4), none⟩,
      ⟨(some 6), .call 67 [(.t 5)], none⟩,
      ⟨(some 7), .un .not (.t 6), none⟩])
    (.cond (.t 7)
     (.seq (.reg [⟨(some 2), .mv (.k (.s (.i .u64 0))), none⟩,
        ⟨(some 3), .mv (.k (.s (.i .i64 10))), none⟩])
      (.ret))
     (.skip)))
   (.seq (.reg [⟨(some 8), .fa (.t 1) 2, none⟩,
     ⟨(some 9), .ld (.t 8) none, none⟩,
     ⟨(some 10), .conv .u64 (.t 9), none⟩,
     ⟨(some 11), .bin .shl (.t 10) (.k (.s (.i .u64 16))), none⟩,
     ⟨(some 12), .fa (.t 1) 3, none⟩,
     ⟨(some 13), .ld (.t 12) none, none⟩,
     ⟨(some 14), .conv .u64 (.t 13), none⟩,
     ⟨(some 15), .bin .shl (.t 14) (.k (.s (.i .u64 2))), none⟩,
     ⟨(some 16), .bin .or (.t 11) (.t 15), none⟩,
     ⟨(some 4), .mv (.t 16), none⟩])
   (.seq (.seq (.reg [⟨(some 17), .fa (.t 1) 0, none⟩,
      ⟨(some 18), .ld (.t 17) none, none⟩])
    (.cond (.t 18)
     (.reg [⟨(some 19), .mv (.t 4), none⟩,
       ⟨(some 20), .bin .or (.t 19) (.k (.s (.i .u64 1))), none⟩,
       ⟨(some 4), .mv (.t 20), none⟩])
     (.skip)))
   (.seq (.seq (.reg [⟨(some 21), .fa (.t 1) 1, none⟩,
      ⟨(some 22), .ld (.t 21) none, none⟩])
    (.cond (.t 22)
     (.reg [⟨(some 23), .mv (.t 4), none⟩,
       ⟨(some 24), .bin .or (.t 23) (.k (.s (.i .u64 2))), none⟩,
       ⟨(some 4), .mv (.t 24), none⟩])
     (.skip)))
   (.seq (.reg [⟨(some 25), .mv (.t 4), none⟩,
     ⟨(some 2), .mv (.t 25), none⟩,
     ⟨(some 3), .mv (.k (.s (.i .i64 0))), none⟩])
   (.ret)))))), [.t 2, .t 3]⟩
theorem dc36 : compF Try.prog Try.f36 = some df36 := by kernel_rfl
theorem ok36 : FnOk Try.prog 36 := ⟨Try.f36, Try.func36, by kernel_rfl, by kernel_rfl⟩

/-- citadel/citadelref05.Encode -/
def df37 : DF :=
  ⟨28, .seq (.reg [⟨(some 1), .box (.t 0), none⟩,
     ⟨(some 2), .mv (.k (.s (.i .u64 0))), none⟩,
     ⟨(some 3), .mv (.k (.s (.i .i64 0))), none⟩])
   (.seq (.reg [⟨(some 6), .ld (.t 1) (some 4), none⟩,
     ⟨(some 7), .call 68 [(.t 6)], none⟩,
     ⟨(some 4), .mv (.t 7), none⟩])
   (.seq (.seq (.reg [⟨(some 8), .mv (.t 4), none⟩,
      ⟨(some 9), .un .not (.t 8), none⟩])
    (.cond (.t 9)
     (.seq (.reg [⟨(some 2), .mv (.k (.s (.i .u64 0))), none⟩,
        ⟨(some 3), .mv (.k (.s (.i .i64 10))), none⟩])
      (.ret))
     (.skip)))
   (.seq (.reg [⟨(some 10), .fa (.t 1) 2, none⟩,
     ⟨(some 11), .ld (.t 10) none, none⟩,
     ⟨(some 12), .conv .u64 (.t 11), none⟩,
     ⟨(some 13), .bin .mul (.t 12) (.k (.s (.i .u64 65536))), none⟩,
     ⟨(some 14), .fa (.t 1) 3, none⟩,
     ⟨(some 15), .ld (.t 14) none, none⟩,
     ⟨(some 16), .conv .u64 (.t 15), none⟩,
     ⟨(some 17), .bin .mul (.t 16) (.k (.s (.i .u64 4))), none⟩,
     ⟨(some 18), .bin .add (.t 13) (.t 17), none⟩,
     ⟨(some 5), .mv (.t 18), none⟩])
   (.seq (.seq (.reg [⟨(some 19), .fa (.t 1) 0, none⟩,
      ⟨(some 20), .ld (.t 19) none, none⟩])
    (.cond (.t 20)
     (.reg [⟨(some 21), .mv (.t 5), none⟩,
       ⟨(some 22), .bin .add (.t 21) (.k (.s (.i .u64 1))), none⟩,
       ⟨(some 5), .mv (.t 22), none⟩])
     (.skip)))
   (.seq (.seq (.reg [⟨(some 23), .fa (.t 1) 1, none⟩,
      ⟨(some 24), .ld (.t 23) none, none⟩])
    (.cond (.t 24)
     (.reg [⟨(some 25), .mv (.t 5), none⟩,
       ⟨(some 26), .bin .add (.t 25) (.k (.s (.i .u64 2))), none⟩,
       ⟨(some 5), .mv (.t 26), none⟩])
     (.skip)))
   (.seq (.reg [⟨(some 27), .mv (.t 5), none⟩,
     ⟨(some 2), .mv (.t 27), none⟩,
     ⟨(some 3), .mv (.k (.s (.i .i64 0))), none⟩])
   (.ret))))))), [.t 2, .t 3]⟩
theorem dc37 : compF Try.prog Try.f37 = some df37 := by kernel_rfl
theorem ok37 : FnOk Try.prog 37 := ⟨Try.f37, Try.func37, by kernel_rfl, by kernel_rfl⟩

/-- citadel/walk.Decode -/
def df38 : DF :=
  ⟨36, .seq (.reg [⟨(some 2), .new [.b false, .b false, .i .i64 0, .i .i64 0], none⟩,
     ⟨(some 3), .mv (.k (.s (.i .i64 0))), none⟩])
   (.seq (.reg [⟨(some 7), .mv (.t 0), none⟩,
     ⟨(some 8), .bin .and (.t 7) (.k (.s (.i .u64 1))), none⟩,
     ⟨(some 9), .bin .neq (.t 8) (.k (.s (.i .u64 0))), none⟩,
     ⟨(some 10), .mv (.t 0), none⟩,
     ⟨(some 11), .bin .and (.t 10) (.k (.s (.i .u64 2))), none⟩,
     ⟨(some 12), .bin .neq (.t 11) (.k (.s (.i .u64 0))), none⟩,
     ⟨(some 13), .mv (.t 0), none⟩,
     ⟨(some 14), .bin .shr (.t 13) (.k (.s (.i .u64 2))), none⟩,
     ⟨(some 15), .bin .and (.t 14) (.k (.s (.i .u64 3))), none⟩,
     ⟨(some 16), .conv .i64 (.t 15), none⟩,
     ⟨(some 17), .mv (.t 0), none⟩,
     ⟨(some 18), .bin .shr (.t 17) (.k (.s (.i .u64 16))), none⟩,
     ⟨(some 19), .bin .and (.t 18) (.k (.s (.i .u64 65535))), none⟩,
     ⟨(some 20), .conv .i64 (.t 19), none⟩,
     ⟨(some 21), .build [.b false, .b false, .i .i64 0, .i .i64 0] [(0, 1, (.t 9)), (1, 1, (.t 12)), (3, 1, (.t 16)), (2, 1, (.t 20))], none⟩,
     ⟨(some 4), .new [.b false, .b false, .i .i64 0, .i .i64 0], none⟩,
     ⟨none, .st (.t 4) (.t 21) 4, none⟩])
   (.seq (.seq (.reg [⟨(some 23), .ld (.t 4) (some 4), none⟩,
      ⟨(some 24), .call 36 [(.t 23)], none⟩,
      ⟨(some 22), .mv (.t 24), none⟩,
      ⟨(some 25), .ext (.t 22) 0, none⟩,
      ⟨(some 26), .ext (.t 22) 1, none⟩,
      ⟨(some 5), .mv (.t 25), none⟩,
      ⟨(some 6), .mv (.t 26), none⟩])
    (.seq (.reg [⟨(some 27), .mv (.t 6), none⟩,
      ⟨(some 28), .bin .neq (.t 27) (.k (.s (.i .i64 0))), none⟩,
      ⟨(some 29), .mv (.t 28), none⟩,
      ⟨(some 30), .mv (.t 5), (some (29, false))⟩,
      ⟨(some 31), .mv (.t 0), (some (29, false))⟩,
      ⟨(some 32), .bin .neq (.t 30) (.t 31), (some (29, false))⟩,
      ⟨(some 33), .pick (.t 29) (.k (.s (.b true))) (.t 32), none⟩])
    (.cond (.t 33)
     (.seq (.reg [⟨(some 34), .build [.b false, .b false, .i .i64 0, .i .i64 0] [], none⟩,
        ⟨none, .st (.t 2) (.t 34) 4, none⟩,
        ⟨(some 3), .mv (.k (.s (.i .i64 10))), none⟩])
      (.ret))
     (.skip))))
   (.seq (.reg [⟨(some 35), .ld (.t 4) (some 4), none⟩,
     ⟨none, .st (.t 2) (.t 35) 4, none⟩,
     ⟨(some 3), .mv (.k (.s (.i .i64 0))), none⟩])
   (.ret)))), [.c 2 (some 4), .t 3]⟩
theorem dc38 : compF Try.prog Try.f38 = some df38 := by kernel_rfl
theorem ok38 : FnOk Try.prog 38 := ⟨Try.f38, Try.func38, by kernel_rfl, by kernel_rfl⟩

/-- citadel/citadelref05.Decode -/
def df39 : DF :=
  ⟨37, .seq (.reg [⟨(some 2), .new [.b false, .b false, .i .i64 0, .i .i64 0], none⟩,
     ⟨(some 3), .mv (.k (.s (.i .i64 0))), none⟩])
   (.seq (.reg [⟨(some 7), .mv (.t 0), none⟩,
     ⟨(some 8), .bin .rem (.t 7) (.k (.s (.i .u64 2))), none⟩,
     ⟨(some 9), .bin .eql (.t 8) (.k (.s (.i .u64 1))), none⟩,
     ⟨(some 10), .mv (.t 0), none⟩,
     ⟨(some 11), .bin .quo (.t 10) (.k (.s (.i .u64 2))), none⟩,
     ⟨(some 12), .bin .rem (.t 11) (.k (.s (.i .u64 2))), none⟩,
     ⟨(some 13), .bin .eql (.t 12) (.k (.s (.i .u64 1))), none⟩,
     ⟨(some 14), .mv (.t 0), none⟩,
     ⟨(some 15), .bin .quo (.t 14) (.k (.s (.i .u64 4))), none⟩,
     ⟨(some 16), .bin .rem (.t 15) (.k (.s (.i .u64 4))), none⟩,
     ⟨(some 17), .conv .i64 (.t 16), none⟩,
     ⟨(some 18), .mv (.t 0), none⟩,
     ⟨(some 19), .bin .quo (.t 18) (.k (.s (.i .u64 65536))), none⟩,
     ⟨(some 20), .bin .rem (.t 19) (.k (.s (.i .u64 65536))), none⟩,
     ⟨(some 21), .conv .i64 (.t 20), none⟩,
     ⟨(some 22), .build [.b false, .b false, .i .i64 0, .i .i64 0] [(0, 1, (.t 9)), (1, 1, (.t 13)), (3, 1, (.t 17)), (2, 1, (.t 21))], none⟩,
     ⟨(some 4), .new [.b false, .b false, .i .i64 0, .i .i64 0], none⟩,
     ⟨none, .st (.t 4) (.t 22) 4, none⟩])
   (.seq (.reg [⟨(some 24), .ld (.t 4) (some 4), none⟩,
     ⟨(some 25), .call 37 [(.t 24)], none⟩,
     ⟨(some 23), .mv (.t 25), none⟩,
     ⟨(some 26), .ext (.t 23) 0, none⟩,
     ⟨(some 27), .ext (.t 23) 1, none⟩,
     ⟨(some 5), .mv (.t 26), none⟩,
     ⟨(some 6), .mv (.t 27), none⟩])
   (.seq (.seq (.reg [⟨(some 28), .mv (.t 6), none⟩,
      ⟨(some 29), .bin .neq (.t 28) (.k (.s (.i .i64 0))), none⟩,
      ⟨(some 30), .mv (.t 29), none⟩,
      ⟨(some 31), .mv (.t 5), (some (30, false))⟩,
      ⟨(some 32), .mv (.t 0), (some (30, false))⟩,
      ⟨(some 33), .bin .neq (.t 31) (.t 32), (some (30, false))⟩,
      ⟨(some 34), .pick (.t 30) (.k (.s (.b true))) (.t 33), none⟩])
    (.cond (.t 34)
     (.seq (.reg [⟨(some 35), .build [.b false, .b false, .i .i64 0, .i .i64 0] [], none⟩,
        ⟨none, .st (.t 2) (.t 35) 4, none⟩,
        ⟨(some 3), .mv (.k (.s (.i .i64 10))), none⟩])
      (.ret))
     (.skip)))
   (.seq (.reg [⟨(some 36), .ld (.t 4) (some 4), none⟩,
     ⟨none, .st (.t 2) (.t 36) 4, none⟩,
     ⟨(some 3), .mv (.k (.s (.i .i64 0))), none⟩])
   (.ret))))), [.c 2 (some 4), .t 3]⟩
theorem dc39 : compF Try.prog Try.f39 = some df39 := by kernel_rfl
theorem ok39 : FnOk Try.prog 39 := ⟨Try.f39, Try.func39, by kernel_rfl, by kernel_rfl⟩

/-- citadel/walk.Index -/
def df40 : DF :=
  ⟨19, .seq (.reg [⟨(some 4), .mv (.k (.s (.i .i64 0))), none⟩])
   (.seq (.seq (.reg [⟨(some 5), .mv (.t 0), none⟩,
      ⟨(some 6), .call 69 [(.t 5)], none⟩,
      ⟨(some 7), .un .not (.t 6), none⟩,
      ⟨(some 8), .mv (.t 7), none⟩,
      ⟨(some 9), .mv (.t 1), (some (8, false))⟩,
      ⟨(some 10), .call 70 [(.t 9), (.k (.s (.i .i64 0))), (.k (.s (.i .i64 3))), (.k (.s (.i .i64 1)))], (some (8, false))⟩,
      ⟨(some 11), .un .not (.t 10), (some (8, false))⟩,
      ⟨(some 12), .pick (.t 8) (.k (.s (.b true))) (.t 11), none⟩])
    (.cond (.t 12)
     (.seq (.reg [⟨(some 4), .mv (.k (.s (.i .i64 0))), none⟩])
      (.ret))
     (.skip)))
   (.seq (.reg [⟨(some 13), .mv (.t 0), none⟩,
     ⟨(some 14), .mv (.t 1), none⟩,
     ⟨(some 15), .bin .mul (.k (.s (.i .i64 3))) (.t 14), none⟩,
     ⟨(some 16), .bin .sub (.k (.s (.i .i64 13))) (.t 15), none⟩,
     ⟨(some 17), .bin .shr (.t 13) (.t 16), none⟩,
     ⟨(some 18), .bin .and (.t 17) (.k (.s (.i .i64 7))), none⟩,
     ⟨(some 4), .mv (.t 18), none⟩])
   (.ret))), [.t 4]⟩
theorem dc40 : compF Try.prog Try.f40 = some df40 := by kernel_rfl
theorem ok40 : FnOk Try.prog 40 := ⟨Try.f40, Try.func40, by kernel_rfl, by kernel_rfl⟩

/-- citadel/citadelref05.Index -/
def df41 : DF :=
  ⟨31, .seq (.reg [⟨(some 4), .mv (.k (.s (.i .i64 0))), none⟩])
   (.seq (.reg [⟨(some 8), .mv (.t 0), none⟩,
     ⟨(some 9), .call 71 [(.t 8)], none⟩,
     ⟨(some 5), .mv (.t 9), none⟩])
   (.seq (.seq (.reg [⟨(some 10), .mv (.t 5), none⟩,
      ⟨(some 11), .un .not (.t 10), none⟩,
      ⟨(some 12), .mv (.t 11), none⟩,
      ⟨(some 13), .mv (.t 1), (some (12, false))⟩,
      ⟨(some 14), .bin .lss (.t 13) (.k (.s (.i .i64 0))), (some (12, false))⟩,
      ⟨(some 15), .pick (.t 12) (.k (.s (.b true))) (.t 14), none⟩,
      ⟨(some 16), .mv (.t 15), none⟩,
      ⟨(some 17), .mv (.t 1), (some (16, false))⟩,
      ⟨(some 18), .bin .gtr (.t 17) (.k (.s (.i .i64 3))), (some (16, false))⟩,
      ⟨(some 19), .pick (.t 16) (.k (.s (.b true))) (.t 18), none⟩])
    (.cond (.t 19)
     (.seq (.reg [⟨(some 4), .mv (.k (.s (.i .i64 0))), none⟩])
      (.ret))
     (.skip)))
   (.seq (.reg [⟨(some 20), .mv (.t 0), none⟩,
     ⟨(some 21), .bin .quo (.t 20) (.k (.s (.i .i64 16))), none⟩,
     ⟨(some 6), .mv (.t 21), none⟩])
   (.seq (.seq (.reg [⟨(some 7), .mv (.k (.s (.i .i64 3))), none⟩])
    (.block 0 (.loop (.seq (.seq (.reg [⟨(some 22), .mv (.t 7), none⟩,
         ⟨(some 23), .mv (.t 1), none⟩,
         ⟨(some 24), .bin .gtr (.t 22) (.t 23), none⟩])
       (.cond (.t 24)
        (.skip)
        (.exit 0)))
      (.seq (.block 1 (.reg [⟨(some 27), .mv (.t 6), none⟩,
         ⟨(some 28), .bin .quo (.t 27) (.k (.s (.i .i64 8))), none⟩,
         ⟨(some 6), .mv (.t 28), none⟩]))
      (.reg [⟨(some 25), .mv (.t 7), none⟩,
       ⟨(some 26), .bin .sub (.t 25) (.k (.s (.i .i64 1))), none⟩,
       ⟨(some 7), .mv (.t 26), none⟩]))))))
   (.seq (.reg [⟨(some 29), .mv (.t 6), none⟩,
     ⟨(some 30), .bin .rem (.t 29) (.k (.s (.i .i64 8))), none⟩,
     ⟨(some 4), .mv (.t 30), none⟩])
   (.ret)))))), [.t 4]⟩
theorem dc41 : compF Try.prog Try.f41 = some df41 := by kernel_rfl
theorem ok41 : FnOk Try.prog 41 := ⟨Try.f41, Try.func41, by kernel_rfl, by kernel_rfl⟩

/-- citadel/citadellaw05.laid -/
def df42 : DF :=
  ⟨63, .seq (.reg [⟨(some 6), .mv (.k (.s (.b false))), none⟩])
   (.seq (.seq (.reg [⟨(some 7), .mv (.k (.s (.i .i64 0))), none⟩])
    (.block 0 (.loop (.seq (.seq (.reg [⟨(some 13), .mv (.t 7), none⟩,
         ⟨(some 14), .mv (.t 2), none⟩,
         ⟨(some 15), .len (.t 14), none⟩,
         ⟨(some 16), .bin .lss (.t 13) (.t 15), none⟩])
       (.cond (.t 16)
        (.skip)
        (.exit 0)))
      (.seq (.block 1 (.seq (.reg [⟨(some 19), .mv (.t 2), none⟩,
          ⟨(some 20), .mv (.t 7), none⟩,
          ⟨(some 21), .ia none 7 (.t 19) (.t 20), none⟩,
          ⟨(some 22), .fa (.t 21) 6, none⟩,
          ⟨(some 23), .ld (.t 22) none, none⟩,
          ⟨(some 8), .mv (.t 23), none⟩])
        (.seq (.seq (.reg [⟨(some 24), .mv (.t 2), none⟩,
           ⟨(some 25), .mv (.t 7), none⟩,
           ⟨(some 26), .ia none 7 (.t 24) (.t 25), none⟩,
           ⟨(some 27), .fa (.t 26) 5, none⟩,
           ⟨(some 28), .ld (.t 27) none, none⟩,
           ⟨(some 29), .un .not (.t 28), none⟩])
         (.cond (.t 29)
          (.seq (.reg [⟨(some 31), .mv (.t 2), none⟩,
             ⟨(some 32), .mv (.t 7), none⟩,
             ⟨(some 33), .ia none 7 (.t 31) (.t 32), none⟩,
             ⟨(some 34), .fa (.t 33) 1, none⟩,
             ⟨(some 35), .ld (.t 34) (some 4), none⟩,
             ⟨(some 36), .call 37 [(.t 35)], none⟩,
             ⟨(some 30), .mv (.t 36), none⟩,
             ⟨(some 37), .ext (.t 30) 0, none⟩,
             ⟨(some 38), .ext (.t 30) 1, none⟩,
             ⟨(some 9), .mv (.t 37), none⟩,
             ⟨(some 10), .mv (.t 38), none⟩])
           (.seq (.seq (.reg [⟨(some 39), .mv (.t 10), none⟩,
              ⟨(some 40), .bin .neq (.t 39) (.k (.s (.i .i64 0))), none⟩])
            (.cond (.t 40)
             (.exit 1)
             (.skip)))
           (.reg [⟨(some 41), .mv (.t 9), none⟩,
            ⟨(some 8), .mv (.t 41), none⟩])))
          (.skip)))
        (.seq (.reg [⟨(some 42), .mv (.t 0), none⟩,
          ⟨(some 43), .mv (.t 2), none⟩,
          ⟨(some 44), .mv (.t 7), none⟩,
          ⟨(some 45), .ia none 7 (.t 43) (.t 44), none⟩,
          ⟨(some 46), .fa (.t 45) 0, none⟩,
          ⟨(some 47), .ld (.t 46) none, none⟩,
          ⟨(some 48), .mv (.t 8), none⟩,
          ⟨(some 49), .bsl 1 [.i .u64 0] [(0, 1, (.t 48))], none⟩,
          ⟨(some 50), .call 27 [(.t 42), (.t 47), (.t 49)], none⟩,
          ⟨(some 11), .mv (.t 50), none⟩])
        (.seq (.reg [⟨(some 51), .mv (.t 1), none⟩,
          ⟨(some 52), .mv (.t 2), none⟩,
          ⟨(some 53), .mv (.t 7), none⟩,
          ⟨(some 54), .ia none 7 (.t 52) (.t 53), none⟩,
          ⟨(some 55), .fa (.t 54) 0, none⟩,
          ⟨(some 56), .ld (.t 55) none, none⟩,
          ⟨(some 57), .mv (.t 8), none⟩,
          ⟨(some 58), .bsl 1 [.i .u64 0] [(0, 1, (.t 57))], none⟩,
          ⟨(some 59), .call 65 [(.t 51), (.t 56), (.t 58)], none⟩,
          ⟨(some 12), .mv (.t 59), none⟩])
        (.seq (.reg [⟨(some 60), .mv (.t 11), none⟩,
          ⟨(some 61), .mv (.t 12), none⟩,
          ⟨(some 62), .bin .neq (.t 60) (.t 61), none⟩])
        (.cond (.t 62)
         (.seq (.reg [⟨(some 6), .mv (.k (.s (.b false))), none⟩])
          (.ret))
         (.skip))))))))
      (.reg [⟨(some 17), .mv (.t 7), none⟩,
       ⟨(some 18), .bin .add (.t 17) (.k (.s (.i .i64 1))), none⟩,
       ⟨(some 7), .mv (.t 18), none⟩]))))))
   (.seq (.reg [⟨(some 6), .mv (.k (.s (.b true))), none⟩])
   (.ret))), [.t 6]⟩
theorem dc42 : compF Try.prog Try.f42 = some df42 := by kernel_rfl
theorem ok42 : FnOk Try.prog 42 := ⟨Try.f42, Try.func42, by kernel_rfl, by kernel_rfl⟩

/-- citadel/walk.Walk -/
def df43 : DF :=
  ⟨70, .seq (.reg [⟨(some 6), .mv (.k (.s (.i .i64 0))), none⟩,
     ⟨(some 7), .mv (.k (.s (.i .i64 0))), none⟩,
     ⟨(some 8), .mv (.k (.s (.i .i64 0))), none⟩,
     ⟨(some 9), .mv (.k (.s (.i .i64 0))), none⟩])
   (.block 1000001 (.seq (.block 1000000 (.seq (.seq (.seq (.reg [⟨(some 15), .mv (.t 2), none⟩,
          ⟨(some 16), .call 69 [(.t 15)], none⟩,
          ⟨(some 17), .un .not (.t 16), none⟩,
          ⟨(some 18), .mv (.t 17), none⟩,
          ⟨(some 19), .mv (.t 1), (some (18, false))⟩,
          ⟨(some 20), .call 70 [(.t 19), (.k (.s (.i .i64 0))), (.k (.s (.i .i64 65535))), (.k (.s (.i .i64 1)))], (some (18, false))⟩,
          ⟨(some 21), .un .not (.t 20), (some (18, false))⟩,
          ⟨(some 22), .pick (.t 18) (.k (.s (.b true))) (.t 21), none⟩])
        (.cond (.t 22)
         (.seq (.reg [⟨(some 6), .mv (.k (.s (.i .i64 0))), none⟩,
            ⟨(some 7), .mv (.k (.s (.i .i64 0))), none⟩,
            ⟨(some 8), .mv (.k (.s (.i .i64 0))), none⟩,
            ⟨(some 9), .mv (.k (.s (.i .i64 1))), none⟩])
          (.ret))
         (.skip)))
       (.seq (.reg [⟨(some 23), .mv (.t 1), none⟩,
         ⟨(some 10), .mv (.t 23), none⟩])
       (.seq (.skip)
       (.seq (.reg [⟨(some 25), .mv (.t 0), none⟩,
         ⟨(some 26), .mv (.t 10), none⟩,
         ⟨(some 27), .mv (.t 2), none⟩,
         ⟨(some 28), .mv (.t 8), none⟩,
         ⟨(some 29), .call 40 [(.t 27), (.t 28)], none⟩,
         ⟨(some 30), .bin .add (.t 26) (.t 29), none⟩,
         ⟨(some 31), .call 30 [(.t 25), (.t 30)], none⟩,
         ⟨(some 24), .mv (.t 31), none⟩,
         ⟨(some 32), .ext (.t 24) 0, none⟩,
         ⟨(some 33), .ext (.t 24) 1, none⟩,
         ⟨(some 11), .mv (.t 32), none⟩,
         ⟨(some 9), .mv (.t 33), none⟩])
       (.seq (.reg [⟨(some 35), .mv (.t 11), none⟩,
         ⟨(some 36), .call 38 [(.t 35)], none⟩,
         ⟨(some 34), .mv (.t 36), none⟩,
         ⟨(some 37), .ext (.t 34) 0, none⟩,
         ⟨(some 38), .ext (.t 34) 1, none⟩,
         ⟨(some 12), .new [.b false, .b false, .i .i64 0, .i .i64 0], none⟩,
         ⟨none, .st (.t 12) (.t 37) 4, none⟩,
         ⟨(some 13), .mv (.t 38), none⟩])
       (.seq (.reg [⟨(some 39), .mv (.t 8), none⟩,
         ⟨(some 40), .bin .eql (.t 39) (.k (.s (.i .i64 3))), none⟩,
         ⟨(some 14), .mv (.t 40), none⟩])
       (.seq (.seq (.reg [⟨(some 41), .mv (.t 9), none⟩,
          ⟨(some 42), .bin .neq (.t 41) (.k (.s (.i .i64 0))), none⟩,
          ⟨(some 43), .mv (.t 42), none⟩,
          ⟨(some 44), .mv (.t 13), (some (43, false))⟩,
          ⟨(some 45), .bin .neq (.t 44) (.k (.s (.i .i64 0))), (some (43, false))⟩,
          ⟨(some 46), .pick (.t 43) (.k (.s (.b true))) (.t 45), none⟩,
          ⟨(some 47), .mv (.t 46), none⟩,
          ⟨(some 48), .fa (.t 12) 0, (some (47, false))⟩,
          ⟨(some 49), .ld (.t 48) none, (some (47, false))⟩,
          ⟨(some 50), .un .not (.t 49), (some (47, false))⟩,
          ⟨(some 51), .pick (.t 47) (.k (.s (.b true))) (.t 50), none⟩,
          ⟨(some 52), .mv (.t 51), none⟩,
          ⟨(some 53), .fa (.t 12) 1, (some (52, false))⟩,
          ⟨(some 54), .ld (.t 53) none, (some (52, false))⟩,
          ⟨(some 55), .mv (.t 14), (some (52, false))⟩,
          ⟨(some 56), .eqb true (.t 54) (.t 55), (some (52, false))⟩,
          ⟨(some 57), .pick (.t 52) (.k (.s (.b true))) (.t 56), none⟩])
        (.cond (.t 57)
         (.seq (.reg [⟨(some 58), .mv (.t 8), none⟩,
            ⟨(some 6), .mv (.k (.s (.i .i64 0))), none⟩,
            ⟨(some 7), .mv (.k (.s (.i .i64 0))), none⟩,
            ⟨(some 8), .mv (.t 58), none⟩,
            ⟨(some 9), .mv (.k (.s (.i .i64 50))), none⟩])
          (.ret))
         (.skip)))
       (.seq (.seq (.reg [⟨(some 59), .mv (.t 14), none⟩,
          ⟨(some 60), .un .not (.t 59), none⟩])
        (.cond (.t 60)
         (.seq (.reg [⟨(some 61), .fa (.t 12) 2, none⟩,
            ⟨(some 62), .ld (.t 61) none, none⟩,
            ⟨(some 10), .mv (.t 62), none⟩])
          (.seq (.reg [⟨(some 63), .mv (.t 8), none⟩,
            ⟨(some 64), .bin .add (.t 63) (.k (.s (.i .i64 1))), none⟩,
            ⟨(some 8), .mv (.t 64), none⟩])
          (.exit 1000000)))
         (.skip)))
       (.seq (.drq [⟨(some 65), .fa (.t 12) 2, none⟩,
         ⟨(some 66), .ld (.t 65) none, none⟩,
         ⟨(some 67), .fa (.t 12) 3, none⟩,
         ⟨(some 68), .ld (.t 67) none, none⟩,
         ⟨(some 69), .mv (.t 8), none⟩,
         ⟨(some 6), .mv (.t 66), none⟩,
         ⟨(some 7), .mv (.t 68), none⟩,
         ⟨(some 8), .mv (.t 69), none⟩,
         ⟨(some 9), .mv (.k (.s (.i .i64 0))), none⟩])
       (.ret))))))))))
      (.exit 1000001)))
    (.loop (.block 1000000 (.seq (.seq (.skip)
       (.seq (.reg [⟨(some 25), .mv (.t 0), none⟩,
         ⟨(some 26), .mv (.t 10), none⟩,
         ⟨(some 27), .mv (.t 2), none⟩,
         ⟨(some 28), .mv (.t 8), none⟩,
         ⟨(some 29), .call 40 [(.t 27), (.t 28)], none⟩,
         ⟨(some 30), .bin .add (.t 26) (.t 29), none⟩,
         ⟨(some 31), .call 30 [(.t 25), (.t 30)], none⟩,
         ⟨(some 24), .mv (.t 31), none⟩,
         ⟨(some 32), .ext (.t 24) 0, none⟩,
         ⟨(some 33), .ext (.t 24) 1, none⟩,
         ⟨(some 11), .mv (.t 32), none⟩,
         ⟨(some 9), .mv (.t 33), none⟩])
       (.seq (.reg [⟨(some 35), .mv (.t 11), none⟩,
         ⟨(some 36), .call 38 [(.t 35)], none⟩,
         ⟨(some 34), .mv (.t 36), none⟩,
         ⟨(some 37), .ext (.t 34) 0, none⟩,
         ⟨(some 38), .ext (.t 34) 1, none⟩,
         ⟨(some 12), .new [.b false, .b false, .i .i64 0, .i .i64 0], none⟩,
         ⟨none, .st (.t 12) (.t 37) 4, none⟩,
         ⟨(some 13), .mv (.t 38), none⟩])
       (.seq (.reg [⟨(some 39), .mv (.t 8), none⟩,
         ⟨(some 40), .bin .eql (.t 39) (.k (.s (.i .i64 3))), none⟩,
         ⟨(some 14), .mv (.t 40), none⟩])
       (.seq (.seq (.reg [⟨(some 41), .mv (.t 9), none⟩,
          ⟨(some 42), .bin .neq (.t 41) (.k (.s (.i .i64 0))), none⟩,
          ⟨(some 43), .mv (.t 42), none⟩,
          ⟨(some 44), .mv (.t 13), (some (43, false))⟩,
          ⟨(some 45), .bin .neq (.t 44) (.k (.s (.i .i64 0))), (some (43, false))⟩,
          ⟨(some 46), .pick (.t 43) (.k (.s (.b true))) (.t 45), none⟩,
          ⟨(some 47), .mv (.t 46), none⟩,
          ⟨(some 48), .fa (.t 12) 0, (some (47, false))⟩,
          ⟨(some 49), .ld (.t 48) none, (some (47, false))⟩,
          ⟨(some 50), .un .not (.t 49), (some (47, false))⟩,
          ⟨(some 51), .pick (.t 47) (.k (.s (.b true))) (.t 50), none⟩,
          ⟨(some 52), .mv (.t 51), none⟩,
          ⟨(some 53), .fa (.t 12) 1, (some (52, false))⟩,
          ⟨(some 54), .ld (.t 53) none, (some (52, false))⟩,
          ⟨(some 55), .mv (.t 14), (some (52, false))⟩,
          ⟨(some 56), .eqb true (.t 54) (.t 55), (some (52, false))⟩,
          ⟨(some 57), .pick (.t 52) (.k (.s (.b true))) (.t 56), none⟩])
        (.cond (.t 57)
         (.seq (.reg [⟨(some 58), .mv (.t 8), none⟩,
            ⟨(some 6), .mv (.k (.s (.i .i64 0))), none⟩,
            ⟨(some 7), .mv (.k (.s (.i .i64 0))), none⟩,
            ⟨(some 8), .mv (.t 58), none⟩,
            ⟨(some 9), .mv (.k (.s (.i .i64 50))), none⟩])
          (.ret))
         (.skip)))
       (.seq (.seq (.reg [⟨(some 59), .mv (.t 14), none⟩,
          ⟨(some 60), .un .not (.t 59), none⟩])
        (.cond (.t 60)
         (.seq (.reg [⟨(some 61), .fa (.t 12) 2, none⟩,
            ⟨(some 62), .ld (.t 61) none, none⟩,
            ⟨(some 10), .mv (.t 62), none⟩])
          (.seq (.reg [⟨(some 63), .mv (.t 8), none⟩,
            ⟨(some 64), .bin .add (.t 63) (.k (.s (.i .i64 1))), none⟩,
            ⟨(some 8), .mv (.t 64), none⟩])
          (.exit 1000000)))
         (.skip)))
       (.seq (.drq [⟨(some 65), .fa (.t 12) 2, none⟩,
         ⟨(some 66), .ld (.t 65) none, none⟩,
         ⟨(some 67), .fa (.t 12) 3, none⟩,
         ⟨(some 68), .ld (.t 67) none, none⟩,
         ⟨(some 69), .mv (.t 8), none⟩,
         ⟨(some 6), .mv (.t 66), none⟩,
         ⟨(some 7), .mv (.t 68), none⟩,
         ⟨(some 8), .mv (.t 69), none⟩,
         ⟨(some 9), .mv (.k (.s (.i .i64 0))), none⟩])
       (.ret))))))))
      (.exit 1000001)))))), [.t 6, .t 7, .t 8, .t 9]⟩
theorem dc43 : compF Try.prog Try.f43 = some df43 := by kernel_rfl
theorem ok43 : FnOk Try.prog 43 := ⟨Try.f43, Try.func43, by kernel_rfl, by kernel_rfl⟩

/-- (*citadel/citadelref02.Memory).Read -/
def df44 : DF :=
  ⟨27, .seq (.reg [⟨(some 4), .mv (.k (.s (.i .u64 0))), none⟩,
     ⟨(some 5), .mv (.k (.s (.i .i64 0))), none⟩])
   (.seq (.reg [⟨(some 7), .mv (.t 0), none⟩,
     ⟨(some 8), .mv (.t 1), none⟩,
     ⟨(some 9), .call 72 [(.t 7), (.t 8), (.k (.s (.i .i64 1)))], none⟩,
     ⟨(some 6), .mv (.t 9), none⟩])
   (.seq (.seq (.reg [⟨(some 10), .mv (.t 6), none⟩,
      ⟨(some 11), .un .not (.t 10), none⟩])
    (.cond (.t 11)
     (.seq (.reg [⟨(some 4), .mv (.k (.s (.i .u64 0))), none⟩,
        ⟨(some 5), .mv (.k (.s (.i .i64 20))), none⟩])
      (.ret))
     (.skip)))
   (.seq (.reg [⟨(some 12), .mv (.t 0), none⟩,
     ⟨(some 13), .mv (.t 0), none⟩,
     ⟨(some 14), .nil (.t 13), none⟩,
     ⟨(some 15), .fa (.t 14) 1, none⟩,
     ⟨(some 16), .ld (.t 15) none, none⟩,
     ⟨(some 17), .bin .add (.t 16) (.k (.s (.i .i64 1))), none⟩,
     ⟨(some 18), .nil (.t 12), none⟩,
     ⟨(some 19), .fa (.t 18) 1, none⟩,
     ⟨none, .st (.t 19) (.t 17) 1, none⟩])
   (.seq (.reg [⟨(some 20), .mv (.t 0), none⟩,
     ⟨(some 21), .nil (.t 20), none⟩,
     ⟨(some 22), .fa (.t 21) 0, none⟩,
     ⟨(some 23), .ld (.t 22) none, none⟩,
     ⟨(some 24), .mv (.t 1), none⟩,
     ⟨(some 25), .ia none 1 (.t 23) (.t 24), none⟩,
     ⟨(some 26), .ld (.t 25) none, none⟩,
     ⟨(some 4), .mv (.t 26), none⟩,
     ⟨(some 5), .mv (.k (.s (.i .i64 0))), none⟩])
   (.ret))))), [.t 4, .t 5]⟩
theorem dc44 : compF Try.prog Try.f44 = some df44 := by kernel_rfl
theorem ok44 : FnOk Try.prog 44 := ⟨Try.f44, Try.func44, by kernel_rfl, by kernel_rfl⟩

/-- citadel/citadelref05.Walk -/
def df45 : DF :=
  ⟨77, .seq (.reg [⟨(some 6), .mv (.k (.s (.i .i64 0))), none⟩,
     ⟨(some 7), .mv (.k (.s (.i .i64 0))), none⟩,
     ⟨(some 8), .mv (.k (.s (.i .i64 0))), none⟩,
     ⟨(some 9), .mv (.k (.s (.i .i64 0))), none⟩])
   (.seq (.reg [⟨(some 17), .mv (.t 2), none⟩,
     ⟨(some 18), .call 71 [(.t 17)], none⟩,
     ⟨(some 10), .mv (.t 18), none⟩])
   (.seq (.seq (.reg [⟨(some 19), .mv (.t 10), none⟩,
      ⟨(some 20), .un .not (.t 19), none⟩,
      ⟨(some 21), .mv (.t 20), none⟩,
      ⟨(some 22), .mv (.t 1), (some (21, false))⟩,
      ⟨(some 23), .bin .lss (.t 22) (.k (.s (.i .i64 0))), (some (21, false))⟩,
      ⟨(some 24), .pick (.t 21) (.k (.s (.b true))) (.t 23), none⟩,
      ⟨(some 25), .mv (.t 24), none⟩,
      ⟨(some 26), .mv (.t 1), (some (25, false))⟩,
      ⟨(some 27), .bin .gtr (.t 26) (.k (.s (.i .i64 65535))), (some (25, false))⟩,
      ⟨(some 28), .pick (.t 25) (.k (.s (.b true))) (.t 27), none⟩])
    (.cond (.t 28)
     (.seq (.reg [⟨(some 6), .mv (.k (.s (.i .i64 0))), none⟩,
        ⟨(some 7), .mv (.k (.s (.i .i64 0))), none⟩,
        ⟨(some 8), .mv (.k (.s (.i .i64 0))), none⟩,
        ⟨(some 9), .mv (.k (.s (.i .i64 1))), none⟩])
      (.ret))
     (.skip)))
   (.seq (.reg [⟨(some 29), .mv (.t 1), none⟩,
     ⟨(some 11), .mv (.t 29), none⟩])
   (.seq (.seq (.reg [⟨(some 12), .mv (.k (.s (.i .i64 0))), none⟩])
    (.block 0 (.loop (.seq (.seq (.reg [⟨(some 30), .mv (.t 12), none⟩,
         ⟨(some 31), .bin .lss (.t 30) (.k (.s (.i .i64 4))), none⟩])
       (.cond (.t 31)
        (.skip)
        (.exit 0)))
      (.seq (.block 1 (.seq (.reg [⟨(some 35), .mv (.t 0), none⟩,
          ⟨(some 36), .mv (.t 11), none⟩,
          ⟨(some 37), .mv (.t 2), none⟩,
          ⟨(some 38), .mv (.t 12), none⟩,
          ⟨(some 39), .call 41 [(.t 37), (.t 38)], none⟩,
          ⟨(some 40), .bin .add (.t 36) (.t 39), none⟩,
          ⟨(some 41), .call 44 [(.t 35), (.t 40)], none⟩,
          ⟨(some 34), .mv (.t 41), none⟩,
          ⟨(some 42), .ext (.t 34) 0, none⟩,
          ⟨(some 43), .ext (.t 34) 1, none⟩,
          ⟨(some 13), .mv (.t 42), none⟩,
          ⟨(some 14), .mv (.t 43), none⟩])
        (.seq (.reg [⟨(some 45), .mv (.t 13), none⟩,
          ⟨(some 46), .call 39 [(.t 45)], none⟩,
          ⟨(some 44), .mv (.t 46), none⟩,
          ⟨(some 47), .ext (.t 44) 0, none⟩,
          ⟨(some 48), .ext (.t 44) 1, none⟩,
          ⟨(some 15), .new [.b false, .b false, .i .i64 0, .i .i64 0], none⟩,
          ⟨none, .st (.t 15) (.t 47) 4, none⟩,
          ⟨(some 16), .mv (.t 48), none⟩])
        (.seq (.seq (.reg [⟨(some 49), .mv (.t 14), none⟩,
           ⟨(some 50), .bin .neq (.t 49) (.k (.s (.i .i64 0))), none⟩,
           ⟨(some 51), .mv (.t 50), none⟩,
           ⟨(some 52), .mv (.t 16), (some (51, false))⟩,
           ⟨(some 53), .bin .neq (.t 52) (.k (.s (.i .i64 0))), (some (51, false))⟩,
           ⟨(some 54), .pick (.t 51) (.k (.s (.b true))) (.t 53), none⟩,
           ⟨(some 55), .mv (.t 54), none⟩,
           ⟨(some 56), .fa (.t 15) 0, (some (55, false))⟩,
           ⟨(some 57), .ld (.t 56) none, (some (55, false))⟩,
           ⟨(some 58), .un .not (.t 57), (some (55, false))⟩,
           ⟨(some 59), .pick (.t 55) (.k (.s (.b true))) (.t 58), none⟩,
           ⟨(some 60), .mv (.t 59), none⟩,
           ⟨(some 61), .fa (.t 15) 1, (some (60, false))⟩,
           ⟨(some 62), .ld (.t 61) none, (some (60, false))⟩,
           ⟨(some 63), .mv (.t 12), (some (60, false))⟩,
           ⟨(some 64), .bin .eql (.t 63) (.k (.s (.i .i64 3))), (some (60, false))⟩,
           ⟨(some 65), .eqb true (.t 62) (.t 64), (some (60, false))⟩,
           ⟨(some 66), .pick (.t 60) (.k (.s (.b true))) (.t 65), none⟩])
         (.cond (.t 66)
          (.seq (.reg [⟨(some 67), .mv (.t 12), none⟩,
             ⟨(some 6), .mv (.k (.s (.i .i64 0))), none⟩,
             ⟨(some 7), .mv (.k (.s (.i .i64 0))), none⟩,
             ⟨(some 8), .mv (.t 67), none⟩,
             ⟨(some 9), .mv (.k (.s (.i .i64 50))), none⟩])
           (.ret))
          (.skip)))
        (.seq (.seq (.reg [⟨(some 68), .fa (.t 15) 1, none⟩,
           ⟨(some 69), .ld (.t 68) none, none⟩])
         (.cond (.t 69)
          (.seq (.drq [⟨(some 70), .fa (.t 15) 2, none⟩,
             ⟨(some 71), .ld (.t 70) none, none⟩,
             ⟨(some 72), .fa (.t 15) 3, none⟩,
             ⟨(some 73), .ld (.t 72) none, none⟩,
             ⟨(some 74), .mv (.t 12), none⟩,
             ⟨(some 6), .mv (.t 71), none⟩,
             ⟨(some 7), .mv (.t 73), none⟩,
             ⟨(some 8), .mv (.t 74), none⟩,
             ⟨(some 9), .mv (.k (.s (.i .i64 0))), none⟩])
           (.ret))
          (.skip)))
        (.reg [⟨(some 75), .fa (.t 15) 2, none⟩,
         ⟨(some 76), .ld (.t 75) none, none⟩,
         ⟨(some 11), .mv (.t 76), none⟩]))))))
      (.reg [⟨(some 32), .mv (.t 12), none⟩,
       ⟨(some 33), .bin .add (.t 32) (.k (.s (.i .i64 1))), none⟩,
       ⟨(some 12), .mv (.t 33), none⟩]))))))
   (.seq (.reg [⟨(some 6), .mv (.k (.s (.i .i64 0))), none⟩,
     ⟨(some 7), .mv (.k (.s (.i .i64 0))), none⟩,
     ⟨(some 8), .mv (.k (.s (.i .i64 3))), none⟩,
     ⟨(some 9), .mv (.k (.s (.i .i64 50))), none⟩])
   (.ret)))))), [.t 6, .t 7, .t 8, .t 9]⟩
theorem dc45 : compF Try.prog Try.f45 = some df45 := by kernel_rfl
theorem ok45 : FnOk Try.prog 45 := ⟨Try.f45, Try.func45, by kernel_rfl, by kernel_rfl⟩

/-- citadel/walk.Reach -/
def df46 : DF :=
  ⟨87, .seq (.reg [⟨(some 8), .box (.t 3), none⟩,
     ⟨(some 10), .mv (.k (.s (.i .i64 0))), none⟩,
     ⟨(some 11), .mv (.k (.s (.i .i64 0))), none⟩])
   (.seq (.seq (.reg [⟨(some 19), .fa (.t 8) 1, none⟩,
      ⟨(some 20), .ld (.t 19) none, none⟩,
      ⟨(some 21), .call 69 [(.t 20)], none⟩,
      ⟨(some 22), .un .not (.t 21), none⟩,
      ⟨(some 23), .mv (.t 22), none⟩,
      ⟨(some 24), .fa (.t 8) 0, (some (23, false))⟩,
      ⟨(some 25), .ld (.t 24) none, (some (23, false))⟩,
      ⟨(some 26), .call 70 [(.t 25), (.k (.s (.i .i64 1))), (.k (.s (.i .i64 63))), (.k (.s (.i .i64 1)))], (some (23, false))⟩,
      ⟨(some 27), .un .not (.t 26), (some (23, false))⟩,
      ⟨(some 28), .pick (.t 23) (.k (.s (.b true))) (.t 27), none⟩,
      ⟨(some 29), .mv (.t 28), none⟩,
      ⟨(some 30), .mv (.t 2), (some (29, false))⟩,
      ⟨(some 31), .call 70 [(.t 30), (.k (.s (.i .i64 0))), (.k (.s (.i .i64 65535))), (.k (.s (.i .i64 1)))], (some (29, false))⟩,
      ⟨(some 32), .un .not (.t 31), (some (29, false))⟩,
      ⟨(some 33), .pick (.t 29) (.k (.s (.b true))) (.t 32), none⟩,
      ⟨(some 34), .mv (.t 33), none⟩,
      ⟨(some 35), .mv (.t 4), (some (34, false))⟩,
      ⟨(some 36), .call 70 [(.t 35), (.k (.s (.i .i64 0))), (.k (.s (.i .i64 7))), (.k (.s (.i .i64 1)))], (some (34, false))⟩,
      ⟨(some 37), .un .not (.t 36), (some (34, false))⟩,
      ⟨(some 38), .pick (.t 34) (.k (.s (.b true))) (.t 37), none⟩])
    (.cond (.t 38)
     (.seq (.reg [⟨(some 10), .mv (.k (.s (.i .i64 0))), none⟩,
        ⟨(some 11), .mv (.k (.s (.i .i64 1))), none⟩])
      (.ret))
     (.skip)))
   (.seq (.drq [⟨(some 39), .fa (.t 8) 1, none⟩,
     ⟨(some 40), .ld (.t 39) none, none⟩,
     ⟨(some 41), .bin .quo (.t 40) (.k (.s (.i .i64 16))), none⟩,
     ⟨(some 42), .fa (.t 8) 1, none⟩,
     ⟨(some 43), .ld (.t 42) none, none⟩,
     ⟨(some 44), .bin .rem (.t 43) (.k (.s (.i .i64 16))), none⟩,
     ⟨(some 12), .mv (.t 41), none⟩,
     ⟨(some 13), .mv (.t 44), none⟩])
   (.seq (.reg [⟨(some 46), .mv (.t 1), none⟩,
     ⟨(some 47), .fa (.t 8) 0, none⟩,
     ⟨(some 48), .ld (.t 47) none, none⟩,
     ⟨(some 49), .mv (.t 12), none⟩,
     ⟨(some 50), .call 52 [(.t 46), (.t 48), (.t 49)], none⟩,
     ⟨(some 45), .mv (.t 50), none⟩,
     ⟨(some 51), .ext (.t 45) 0, none⟩,
     ⟨(some 52), .ext (.t 45) 1, none⟩,
     ⟨(some 53), .ext (.t 45) 2, none⟩,
     ⟨(some 14), .mv (.t 51), none⟩,
     ⟨(some 15), .mv (.t 52), none⟩,
     ⟨(some 16), .mv (.t 53), none⟩])
   (.seq (.seq (.reg [⟨(some 54), .mv (.t 16), none⟩,
      ⟨(some 55), .un .not (.t 54), none⟩])
    (.cond (.t 55)
     (.seq (.reg [⟨(some 17), .mv (.k (.s (.i .i64 0))), none⟩])
      (.seq (.seq (.reg [⟨(some 57), .mv (.t 0), none⟩,
         ⟨(some 58), .mv (.t 2), none⟩,
         ⟨(some 59), .fa (.t 8) 1, none⟩,
         ⟨(some 60), .ld (.t 59) none, none⟩,
         ⟨(some 61), .call 43 [(.t 57), (.t 58), (.t 60)], none⟩,
         ⟨(some 56), .mv (.t 61), none⟩,
         ⟨(some 62), .ext (.t 56) 0, none⟩,
         ⟨(some 63), .ext (.t 56) 1, none⟩,
         ⟨(some 64), .ext (.t 56) 2, none⟩,
         ⟨(some 65), .ext (.t 56) 3, none⟩,
         ⟨(some 14), .mv (.t 62), none⟩,
         ⟨(some 15), .mv (.t 63), none⟩,
         ⟨(some 17), .mv (.t 65), none⟩])
       (.seq (.reg [⟨(some 66), .mv (.t 17), none⟩,
         ⟨(some 67), .bin .neq (.t 66) (.k (.s (.i .i64 0))), none⟩])
       (.cond (.t 67)
        (.seq (.reg [⟨(some 68), .mv (.t 17), none⟩,
           ⟨(some 10), .mv (.k (.s (.i .i64 0))), none⟩,
           ⟨(some 11), .mv (.t 68), none⟩])
         (.ret))
        (.skip))))
      (.reg [⟨(some 69), .mv (.t 1), none⟩,
       ⟨(some 70), .fa (.t 8) 0, none⟩,
       ⟨(some 71), .ld (.t 70) none, none⟩,
       ⟨(some 72), .mv (.t 12), none⟩,
       ⟨(some 73), .mv (.t 14), none⟩,
       ⟨(some 74), .mv (.t 15), none⟩,
       ⟨(some 75), .build [.i .i64 0, .i .i64 0, .i .i64 0, .i .i64 0] [(0, 1, (.t 71)), (1, 1, (.t 72)), (2, 1, (.t 73)), (3, 1, (.t 74))], none⟩,
       ⟨(some 76), .mv (.t 4), none⟩,
       ⟨(some 77), .call 15 [(.t 69), (.t 75), (.t 76)], none⟩])))
     (.skip)))
   (.seq (.reg [⟨(some 18), .mv (.k (.s (.i .i64 1))), none⟩])
   (.seq (.seq (.reg [⟨(some 78), .fa (.t 8) 2, none⟩,
      ⟨(some 79), .ld (.t 78) none, none⟩])
    (.cond (.t 79)
     (.reg [⟨(some 18), .mv (.k (.s (.i .i64 2))), none⟩])
     (.skip)))
   (.seq (.seq (.reg [⟨(some 80), .mv (.t 15), none⟩,
      ⟨(some 81), .mv (.t 18), none⟩,
      ⟨(some 82), .bin .and (.t 80) (.t 81), none⟩,
      ⟨(some 83), .bin .eql (.t 82) (.k (.s (.i .i64 0))), none⟩])
    (.cond (.t 83)
     (.seq (.reg [⟨(some 10), .mv (.k (.s (.i .i64 0))), none⟩,
        ⟨(some 11), .mv (.k (.s (.i .i64 50))), none⟩])
      (.ret))
     (.skip)))
   (.seq (.reg [⟨(some 84), .mv (.t 14), none⟩,
     ⟨(some 85), .mv (.t 13), none⟩,
     ⟨(some 86), .bin .add (.t 84) (.t 85), none⟩,
     ⟨(some 10), .mv (.t 86), none⟩,
     ⟨(some 11), .mv (.k (.s (.i .i64 0))), none⟩])
   (.ret))))))))), [.t 10, .t 11]⟩
theorem dc46 : compF Try.prog Try.f46 = some df46 := by kernel_rfl
theorem ok46 : FnOk Try.prog 46 := ⟨Try.f46, Try.func46, by kernel_rfl, by kernel_rfl⟩

/-- citadel/citadelref05.Allowed -/
def df47 : DF :=
  ⟨13, .seq (.reg [⟨(some 4), .mv (.k (.s (.b false))), none⟩])
   (.seq (.seq (.reg [⟨(some 5), .mv (.t 1), none⟩])
    (.cond (.t 5)
     (.seq (.reg [⟨(some 6), .mv (.t 0), none⟩,
        ⟨(some 7), .bin .quo (.t 6) (.k (.s (.i .i64 2))), none⟩,
        ⟨(some 8), .bin .rem (.t 7) (.k (.s (.i .i64 2))), none⟩,
        ⟨(some 9), .bin .eql (.t 8) (.k (.s (.i .i64 1))), none⟩,
        ⟨(some 4), .mv (.t 9), none⟩])
      (.ret))
     (.skip)))
   (.seq (.reg [⟨(some 10), .mv (.t 0), none⟩,
     ⟨(some 11), .bin .rem (.t 10) (.k (.s (.i .i64 2))), none⟩,
     ⟨(some 12), .bin .eql (.t 11) (.k (.s (.i .i64 1))), none⟩,
     ⟨(some 4), .mv (.t 12), none⟩])
   (.ret))), [.t 4]⟩
theorem dc47 : compF Try.prog Try.f47 = some df47 := by kernel_rfl
theorem ok47 : FnOk Try.prog 47 := ⟨Try.f47, Try.func47, by kernel_rfl, by kernel_rfl⟩

/-- (*citadel/citadelref04.Tlb).Evict -/
def df48 : DF :=
  ⟨17, .seq (.reg [⟨(some 4), .mv (.k (.s (.i .i64 0))), none⟩])
   (.seq (.seq (.reg [⟨(some 5), .mv (.t 1), none⟩,
      ⟨(some 6), .bin .lss (.t 5) (.k (.s (.i .i64 0))), none⟩,
      ⟨(some 7), .mv (.t 6), none⟩,
      ⟨(some 8), .mv (.t 1), (some (7, false))⟩,
      ⟨(some 9), .bin .geq (.t 8) (.k (.s (.i .i64 8))), (some (7, false))⟩,
      ⟨(some 10), .pick (.t 7) (.k (.s (.b true))) (.t 9), none⟩])
    (.cond (.t 10)
     (.seq (.reg [⟨(some 4), .mv (.k (.s (.i .i64 1))), none⟩])
      (.ret))
     (.skip)))
   (.seq (.reg [⟨(some 11), .mv (.t 0), none⟩,
     ⟨(some 12), .mv (.t 1), none⟩,
     ⟨(some 13), .build [.i .i64 0, .i .i64 0, .i .i64 0, .i .i64 0] [], none⟩,
     ⟨(some 14), .nil (.t 11), none⟩,
     ⟨(some 15), .fa (.t 14) 0, none⟩,
     ⟨(some 16), .ia (some 8) 4 (.t 15) (.t 12), none⟩,
     ⟨none, .st (.t 16) (.t 13) 4, none⟩])
   (.seq (.reg [⟨(some 4), .mv (.k (.s (.i .i64 0))), none⟩])
   (.ret)))), [.t 4]⟩
theorem dc48 : compF Try.prog Try.f48 = some df48 := by kernel_rfl
theorem ok48 : FnOk Try.prog 48 := ⟨Try.f48, Try.func48, by kernel_rfl, by kernel_rfl⟩

/-- (*citadel/citadelref04.Tlb).FlushAsid -/
def df49 : DF :=
  ⟨24, .seq (.reg [⟨(some 4), .mv (.k (.s (.i .i64 0))), none⟩])
   (.block 0 (.loop (.seq (.seq (.reg [⟨(some 5), .mv (.t 4), none⟩,
        ⟨(some 6), .bin .lss (.t 5) (.k (.s (.i .i64 8))), none⟩])
      (.cond (.t 6)
       (.skip)
       (.exit 0)))
     (.seq (.block 1 (.seq (.reg [⟨(some 9), .mv (.t 0), none⟩,
         ⟨(some 10), .mv (.t 4), none⟩,
         ⟨(some 11), .nil (.t 9), none⟩,
         ⟨(some 12), .fa (.t 11) 0, none⟩,
         ⟨(some 13), .ia (some 8) 4 (.t 12) (.t 10), none⟩,
         ⟨(some 14), .fa (.t 13) 0, none⟩,
         ⟨(some 15), .ld (.t 14) none, none⟩,
         ⟨(some 16), .mv (.t 1), none⟩,
         ⟨(some 17), .bin .eql (.t 15) (.t 16), none⟩])
       (.cond (.t 17)
        (.reg [⟨(some 18), .mv (.t 0), none⟩,
          ⟨(some 19), .mv (.t 4), none⟩,
          ⟨(some 20), .build [.i .i64 0, .i .i64 0, .i .i64 0, .i .i64 0] [], none⟩,
          ⟨(some 21), .nil (.t 18), none⟩,
          ⟨(some 22), .fa (.t 21) 0, none⟩,
          ⟨(some 23), .ia (some 8) 4 (.t 22) (.t 19), none⟩,
          ⟨none, .st (.t 23) (.t 20) 4, none⟩])
        (.skip))))
     (.reg [⟨(some 7), .mv (.t 4), none⟩,
      ⟨(some 8), .bin .add (.t 7) (.k (.s (.i .i64 1))), none⟩,
      ⟨(some 4), .mv (.t 8), none⟩]))))), []⟩
theorem dc49 : compF Try.prog Try.f49 = some df49 := by kernel_rfl
theorem ok49 : FnOk Try.prog 49 := ⟨Try.f49, Try.func49, by kernel_rfl, by kernel_rfl⟩

/-- citadel/citadelref05.Reach -/
def df50 : DF :=
  ⟨105, .seq (.reg [⟨(some 8), .box (.t 3), none⟩,
     ⟨(some 10), .mv (.k (.s (.i .i64 0))), none⟩,
     ⟨(some 11), .mv (.k (.s (.i .i64 0))), none⟩])
   (.seq (.reg [⟨(some 21), .fa (.t 8) 1, none⟩,
     ⟨(some 22), .ld (.t 21) none, none⟩,
     ⟨(some 23), .call 71 [(.t 22)], none⟩,
     ⟨(some 12), .mv (.t 23), none⟩])
   (.seq (.seq (.reg [⟨(some 24), .mv (.t 12), none⟩,
      ⟨(some 25), .un .not (.t 24), none⟩,
      ⟨(some 26), .mv (.t 25), none⟩,
      ⟨(some 27), .fa (.t 8) 0, (some (26, false))⟩,
      ⟨(some 28), .ld (.t 27) none, (some (26, false))⟩,
      ⟨(some 29), .bin .lss (.t 28) (.k (.s (.i .i64 1))), (some (26, false))⟩,
      ⟨(some 30), .pick (.t 26) (.k (.s (.b true))) (.t 29), none⟩,
      ⟨(some 31), .mv (.t 30), none⟩,
      ⟨(some 32), .fa (.t 8) 0, (some (31, false))⟩,
      ⟨(some 33), .ld (.t 32) none, (some (31, false))⟩,
      ⟨(some 34), .bin .gtr (.t 33) (.k (.s (.i .i64 63))), (some (31, false))⟩,
      ⟨(some 35), .pick (.t 31) (.k (.s (.b true))) (.t 34), none⟩,
      ⟨(some 36), .mv (.t 35), none⟩,
      ⟨(some 37), .mv (.t 2), (some (36, false))⟩,
      ⟨(some 38), .bin .lss (.t 37) (.k (.s (.i .i64 0))), (some (36, false))⟩,
      ⟨(some 39), .pick (.t 36) (.k (.s (.b true))) (.t 38), none⟩,
      ⟨(some 40), .mv (.t 39), none⟩,
      ⟨(some 41), .mv (.t 2), (some (40, false))⟩,
      ⟨(some 42), .bin .gtr (.t 41) (.k (.s (.i .i64 65535))), (some (40, false))⟩,
      ⟨(some 43), .pick (.t 40) (.k (.s (.b true))) (.t 42), none⟩,
      ⟨(some 44), .mv (.t 43), none⟩,
      ⟨(some 45), .mv (.t 4), (some (44, false))⟩,
      ⟨(some 46), .bin .lss (.t 45) (.k (.s (.i .i64 0))), (some (44, false))⟩,
      ⟨(some 47), .pick (.t 44) (.k (.s (.b true))) (.t 46), none⟩,
      ⟨(some 48), .mv (.t 47), none⟩,
      ⟨(some 49), .mv (.t 4), (some (48, false))⟩,
      ⟨(some 50), .bin .gtr (.t 49) (.k (.s (.i .i64 7))), (some (48, false))⟩,
      ⟨(some 51), .pick (.t 48) (.k (.s (.b true))) (.t 50), none⟩])
    (.cond (.t 51)
     (.seq (.reg [⟨(some 10), .mv (.k (.s (.i .i64 0))), none⟩,
        ⟨(some 11), .mv (.k (.s (.i .i64 1))), none⟩])
      (.ret))
     (.skip)))
   (.seq (.reg [⟨(some 53), .mv (.t 1), none⟩,
     ⟨(some 54), .fa (.t 8) 0, none⟩,
     ⟨(some 55), .ld (.t 54) none, none⟩,
     ⟨(some 56), .fa (.t 8) 1, none⟩,
     ⟨(some 57), .ld (.t 56) none, none⟩,
     ⟨(some 58), .bin .quo (.t 57) (.k (.s (.i .i64 16))), none⟩,
     ⟨(some 59), .call 73 [(.t 53), (.t 55), (.t 58)], none⟩,
     ⟨(some 52), .mv (.t 59), none⟩,
     ⟨(some 60), .ext (.t 52) 0, none⟩,
     ⟨(some 61), .ext (.t 52) 1, none⟩,
     ⟨(some 62), .ext (.t 52) 2, none⟩,
     ⟨(some 13), .mv (.t 60), none⟩,
     ⟨(some 14), .mv (.t 61), none⟩,
     ⟨(some 15), .mv (.t 62), none⟩])
   (.seq (.seq (.reg [⟨(some 63), .mv (.t 15), none⟩,
      ⟨(some 64), .un .not (.t 63), none⟩])
    (.cond (.t 64)
     (.seq (.reg [⟨(some 66), .mv (.t 0), none⟩,
        ⟨(some 67), .mv (.t 2), none⟩,
        ⟨(some 68), .fa (.t 8) 1, none⟩,
        ⟨(some 69), .ld (.t 68) none, none⟩,
        ⟨(some 70), .call 45 [(.t 66), (.t 67), (.t 69)], none⟩,
        ⟨(some 65), .mv (.t 70), none⟩,
        ⟨(some 71), .ext (.t 65) 0, none⟩,
        ⟨(some 72), .ext (.t 65) 1, none⟩,
        ⟨(some 73), .ext (.t 65) 2, none⟩,
        ⟨(some 74), .ext (.t 65) 3, none⟩,
        ⟨(some 16), .mv (.t 71), none⟩,
        ⟨(some 17), .mv (.t 72), none⟩,
        ⟨(some 18), .mv (.t 73), none⟩,
        ⟨(some 19), .mv (.t 74), none⟩])
      (.seq (.seq (.reg [⟨(some 75), .mv (.t 19), none⟩,
         ⟨(some 76), .bin .neq (.t 75) (.k (.s (.i .i64 0))), none⟩])
       (.cond (.t 76)
        (.seq (.reg [⟨(some 77), .mv (.t 19), none⟩,
           ⟨(some 10), .mv (.k (.s (.i .i64 0))), none⟩,
           ⟨(some 11), .mv (.t 77), none⟩])
         (.ret))
        (.skip)))
      (.seq (.reg [⟨(some 78), .mv (.t 16), none⟩,
        ⟨(some 13), .mv (.t 78), none⟩])
      (.seq (.reg [⟨(some 79), .mv (.t 17), none⟩,
        ⟨(some 14), .mv (.t 79), none⟩])
      (.seq (.reg [⟨(some 80), .mv (.t 1), none⟩,
        ⟨(some 81), .fa (.t 8) 0, none⟩,
        ⟨(some 82), .ld (.t 81) none, none⟩,
        ⟨(some 83), .fa (.t 8) 1, none⟩,
        ⟨(some 84), .ld (.t 83) none, none⟩,
        ⟨(some 85), .bin .quo (.t 84) (.k (.s (.i .i64 16))), none⟩,
        ⟨(some 86), .mv (.t 13), none⟩,
        ⟨(some 87), .mv (.t 14), none⟩,
        ⟨(some 88), .build [.i .i64 0, .i .i64 0, .i .i64 0, .i .i64 0] [(0, 1, (.t 82)), (1, 1, (.t 85)), (2, 1, (.t 86)), (3, 1, (.t 87))], none⟩,
        ⟨(some 89), .mv (.t 4), none⟩,
        ⟨(some 90), .call 74 [(.t 80), (.t 88), (.t 89)], none⟩,
        ⟨(some 19), .mv (.t 90), none⟩])
      (.seq (.reg [⟨(some 91), .mv (.t 19), none⟩,
        ⟨(some 92), .bin .neq (.t 91) (.k (.s (.i .i64 0))), none⟩])
      (.cond (.t 92)
       (.seq (.reg [⟨(some 93), .mv (.t 19), none⟩,
          ⟨(some 10), .mv (.k (.s (.i .i64 0))), none⟩,
          ⟨(some 11), .mv (.t 93), none⟩])
        (.ret))
       (.skip))))))))
     (.skip)))
   (.seq (.reg [⟨(some 94), .mv (.t 14), none⟩,
     ⟨(some 95), .fa (.t 8) 2, none⟩,
     ⟨(some 96), .ld (.t 95) none, none⟩,
     ⟨(some 97), .call 47 [(.t 94), (.t 96)], none⟩,
     ⟨(some 20), .mv (.t 97), none⟩])
   (.seq (.seq (.reg [⟨(some 98), .mv (.t 20), none⟩,
      ⟨(some 99), .un .not (.t 98), none⟩])
    (.cond (.t 99)
     (.seq (.reg [⟨(some 10), .mv (.k (.s (.i .i64 0))), none⟩,
        ⟨(some 11), .mv (.k (.s (.i .i64 50))), none⟩])
      (.ret))
     (.skip)))
   (.seq (.reg [⟨(some 100), .mv (.t 13), none⟩,
     ⟨(some 101), .fa (.t 8) 1, none⟩,
     ⟨(some 102), .ld (.t 101) none, none⟩,
     ⟨(some 103), .bin .rem (.t 102) (.k (.s (.i .i64 16))), none⟩,
     ⟨(some 104), .bin .add (.t 100) (.t 103), none⟩,
     ⟨(some 10), .mv (.t 104), none⟩,
     ⟨(some 11), .mv (.k (.s (.i .i64 0))), none⟩])
   (.ret)))))))), [.t 10, .t 11]⟩
theorem dc50 : compF Try.prog Try.f50 = some df50 := by kernel_rfl
theorem ok50 : FnOk Try.prog 50 := ⟨Try.f50, Try.func50, by kernel_rfl, by kernel_rfl⟩

/-- citadel/citadellaw05.lines -/
def df51 : DF :=
  ⟨74, .seq (.reg [⟨(some 4), .mv (.k (.s (.b false))), none⟩])
   (.seq (.reg [⟨(some 7), .mv (.t 0), none⟩,
     ⟨(some 8), .call 20 [(.t 7)], none⟩,
     ⟨(some 5), .mv (.t 8), none⟩])
   (.seq (.seq (.reg [⟨(some 9), .mv (.t 5), none⟩,
      ⟨(some 10), .len (.t 9), none⟩,
      ⟨(some 11), .bin .neq (.t 10) (.k (.s (.i .i64 8))), none⟩])
    (.cond (.t 11)
     (.seq (.reg [⟨(some 4), .mv (.k (.s (.b false))), none⟩])
      (.ret))
     (.skip)))
   (.seq (.seq (.reg [⟨(some 6), .mv (.k (.s (.i .i64 0))), none⟩])
    (.block 0 (.loop (.seq (.seq (.reg [⟨(some 12), .mv (.t 6), none⟩,
         ⟨(some 13), .bin .lss (.t 12) (.k (.s (.i .i64 8))), none⟩])
       (.cond (.t 13)
        (.skip)
        (.exit 0)))
      (.seq (.block 1 (.seq (.drq [⟨(some 16), .mv (.t 5), none⟩,
          ⟨(some 17), .mv (.t 6), none⟩,
          ⟨(some 18), .ia none 4 (.t 16) (.t 17), none⟩,
          ⟨(some 19), .fa (.t 18) 0, none⟩,
          ⟨(some 20), .ld (.t 19) none, none⟩,
          ⟨(some 21), .mv (.t 1), none⟩,
          ⟨(some 22), .mv (.t 6), none⟩,
          ⟨(some 23), .nil (.t 21), none⟩,
          ⟨(some 24), .fa (.t 23) 0, none⟩,
          ⟨(some 25), .ia (some 8) 4 (.t 24) (.t 22), none⟩,
          ⟨(some 26), .fa (.t 25) 0, none⟩,
          ⟨(some 27), .ld (.t 26) none, none⟩,
          ⟨(some 28), .bin .neq (.t 20) (.t 27), none⟩,
          ⟨(some 29), .mv (.t 28), none⟩,
          ⟨(some 30), .mv (.t 5), (some (29, false))⟩,
          ⟨(some 31), .mv (.t 6), (some (29, false))⟩,
          ⟨(some 32), .ia none 4 (.t 30) (.t 31), (some (29, false))⟩,
          ⟨(some 33), .fa (.t 32) 1, (some (29, false))⟩,
          ⟨(some 34), .ld (.t 33) none, (some (29, false))⟩,
          ⟨(some 35), .mv (.t 1), (some (29, false))⟩,
          ⟨(some 36), .mv (.t 6), (some (29, false))⟩,
          ⟨(some 37), .nil (.t 35), (some (29, false))⟩,
          ⟨(some 38), .fa (.t 37) 0, (some (29, false))⟩,
          ⟨(some 39), .ia (some 8) 4 (.t 38) (.t 36), (some (29, false))⟩,
          ⟨(some 40), .fa (.t 39) 1, (some (29, false))⟩,
          ⟨(some 41), .ld (.t 40) none, (some (29, false))⟩,
          ⟨(some 42), .bin .neq (.t 34) (.t 41), (some (29, false))⟩,
          ⟨(some 43), .pick (.t 29) (.k (.s (.b true))) (.t 42), none⟩,
          ⟨(some 44), .mv (.t 43), none⟩,
          ⟨(some 45), .mv (.t 5), (some (44, false))⟩,
          ⟨(some 46), .mv (.t 6), (some (44, false))⟩,
          ⟨(some 47), .ia none 4 (.t 45) (.t 46), (some (44, false))⟩,
          ⟨(some 48), .fa (.t 47) 2, (some (44, false))⟩,
          ⟨(some 49), .ld (.t 48) none, (some (44, false))⟩,
          ⟨(some 50), .mv (.t 1), (some (44, false))⟩,
          ⟨(some 51), .mv (.t 6), (some (44, false))⟩,
          ⟨(some 52), .nil (.t 50), (some (44, false))⟩,
          ⟨(some 53), .fa (.t 52) 0, (some (44, false))⟩,
          ⟨(some 54), .ia (some 8) 4 (.t 53) (.t 51), (some (44, false))⟩,
          ⟨(some 55), .fa (.t 54) 2, (some (44, false))⟩,
          ⟨(some 56), .ld (.t 55) none, (some (44, false))⟩,
          ⟨(some 57), .bin .neq (.t 49) (.t 56), (some (44, false))⟩,
          ⟨(some 58), .pick (.t 44) (.k (.s (.b true))) (.t 57), none⟩,
          ⟨(some 59), .mv (.t 58), none⟩,
          ⟨(some 60), .mv (.t 5), (some (59, false))⟩,
          ⟨(some 61), .mv (.t 6), (some (59, false))⟩,
          ⟨(some 62), .ia none 4 (.t 60) (.t 61), (some (59, false))⟩,
          ⟨(some 63), .fa (.t 62) 3, (some (59, false))⟩,
          ⟨(some 64), .ld (.t 63) none, (some (59, false))⟩,
          ⟨(some 65), .mv (.t 1), (some (59, false))⟩,
          ⟨(some 66), .mv (.t 6), (some (59, false))⟩,
          ⟨(some 67), .nil (.t 65), (some (59, false))⟩,
          ⟨(some 68), .fa (.t 67) 0, (some (59, false))⟩,
          ⟨(some 69), .ia (some 8) 4 (.t 68) (.t 66), (some (59, false))⟩,
          ⟨(some 70), .fa (.t 69) 3, (some (59, false))⟩,
          ⟨(some 71), .ld (.t 70) none, (some (59, false))⟩,
          ⟨(some 72), .bin .neq (.t 64) (.t 71), (some (59, false))⟩,
          ⟨(some 73), .pick (.t 59) (.k (.s (.b true))) (.t 72), none⟩])
        (.cond (.t 73)
         (.seq (.reg [⟨(some 4), .mv (.k (.s (.b false))), none⟩])
          (.ret))
         (.skip))))
      (.reg [⟨(some 14), .mv (.t 6), none⟩,
       ⟨(some 15), .bin .add (.t 14) (.k (.s (.i .i64 1))), none⟩,
       ⟨(some 6), .mv (.t 15), none⟩]))))))
   (.seq (.reg [⟨(some 4), .mv (.k (.s (.b true))), none⟩])
   (.ret))))), [.t 4]⟩
theorem dc51 : compF Try.prog Try.f51 = some df51 := by kernel_rfl
theorem ok51 : FnOk Try.prog 51 := ⟨Try.f51, Try.func51, by kernel_rfl, by kernel_rfl⟩

/-- (*citadel/tlb.Tlb).Find -/
def df52 : DF :=
  ⟨30, .seq (.reg [⟨(some 6), .mv (.k (.s (.i .i64 0))), none⟩,
     ⟨(some 7), .mv (.k (.s (.i .i64 0))), none⟩,
     ⟨(some 8), .mv (.k (.s (.b false))), none⟩])
   (.seq (.reg [⟨(some 10), .mv (.t 0), none⟩,
     ⟨(some 11), .mv (.t 1), none⟩,
     ⟨(some 12), .mv (.t 2), none⟩,
     ⟨(some 13), .call 54 [(.t 10), (.t 11), (.t 12)], none⟩,
     ⟨(some 9), .mv (.t 13), none⟩])
   (.seq (.seq (.reg [⟨(some 14), .mv (.t 9), none⟩,
      ⟨(some 15), .bin .lss (.t 14) (.k (.s (.i .i64 0))), none⟩])
    (.cond (.t 15)
     (.seq (.reg [⟨(some 6), .mv (.k (.s (.i .i64 0))), none⟩,
        ⟨(some 7), .mv (.k (.s (.i .i64 0))), none⟩,
        ⟨(some 8), .mv (.k (.s (.b false))), none⟩])
      (.ret))
     (.skip)))
   (.seq (.drq [⟨(some 16), .mv (.t 0), none⟩,
     ⟨(some 17), .mv (.t 9), none⟩,
     ⟨(some 18), .nil (.t 16), none⟩,
     ⟨(some 19), .fa (.t 18) 0, none⟩,
     ⟨(some 20), .ia (some 8) 4 (.t 19) (.t 17), none⟩,
     ⟨(some 21), .fa (.t 20) 2, none⟩,
     ⟨(some 22), .ld (.t 21) none, none⟩,
     ⟨(some 23), .mv (.t 0), none⟩,
     ⟨(some 24), .mv (.t 9), none⟩,
     ⟨(some 25), .nil (.t 23), none⟩,
     ⟨(some 26), .fa (.t 25) 0, none⟩,
     ⟨(some 27), .ia (some 8) 4 (.t 26) (.t 24), none⟩,
     ⟨(some 28), .fa (.t 27) 3, none⟩,
     ⟨(some 29), .ld (.t 28) none, none⟩,
     ⟨(some 6), .mv (.t 22), none⟩,
     ⟨(some 7), .mv (.t 29), none⟩,
     ⟨(some 8), .mv (.k (.s (.b true))), none⟩])
   (.ret)))), [.t 6, .t 7, .t 8]⟩
theorem dc52 : compF Try.prog Try.f52 = some df52 := by kernel_rfl
theorem ok52 : FnOk Try.prog 52 := ⟨Try.f52, Try.func52, by kernel_rfl, by kernel_rfl⟩

/-- citadel/tlb.in -/
def df53 : DF :=
  ⟨15, .seq (.reg [⟨(some 6), .mv (.k (.s (.b false))), none⟩])
   (.seq (.reg [⟨(some 7), .mv (.t 0), none⟩,
     ⟨(some 8), .mv (.t 1), none⟩,
     ⟨(some 9), .bin .geq (.t 7) (.t 8), none⟩,
     ⟨(some 10), .mv (.t 9), none⟩,
     ⟨(some 11), .mv (.t 0), (some (10, true))⟩,
     ⟨(some 12), .mv (.t 2), (some (10, true))⟩,
     ⟨(some 13), .bin .leq (.t 11) (.t 12), (some (10, true))⟩,
     ⟨(some 14), .pick (.t 10) (.t 13) (.k (.s (.b false))), none⟩,
     ⟨(some 6), .mv (.t 14), none⟩])
   (.ret)), [.t 6]⟩
theorem dc53 : compF Try.prog Try.f53 = some df53 := by kernel_rfl
theorem ok53 : FnOk Try.prog 53 := ⟨Try.f53, Try.func53, by kernel_rfl, by kernel_rfl⟩

/-- (*citadel/tlb.Tlb).at -/
def df54 : DF :=
  ⟨34, .seq (.reg [⟨(some 6), .mv (.k (.s (.i .i64 0))), none⟩])
   (.seq (.seq (.reg [⟨(some 9), .mv (.t 0), none⟩,
      ⟨(some 10), .nil (.t 9), none⟩,
      ⟨(some 11), .fa (.t 10) 0, none⟩,
      ⟨(some 12), .ld (.t 11) (some 32), none⟩,
      ⟨(some 13), .mv (.k (.s (.i .i64 0))), none⟩])
    (.block 0 (.loop (.seq (.reg [⟨(some 14), .bin .lss (.t 13) (.k (.s (.i .i64 8))), none⟩])
      (.seq (.cond (.t 14)
        (.skip)
        (.exit 0))
      (.seq (.block 1 (.seq (.reg [⟨(some 15), .mv (.t 13), none⟩,
          ⟨(some 16), .ix 8 4 (some 4) (.t 12) (.t 13), none⟩,
          ⟨(some 8), .new [.i .i64 0, .i .i64 0, .i .i64 0, .i .i64 0], none⟩,
          ⟨(some 7), .mv (.t 15), none⟩,
          ⟨none, .st (.t 8) (.t 16) 4, none⟩])
        (.seq (.reg [⟨(some 17), .ld (.t 8) (some 4), none⟩,
          ⟨(some 18), .build [.i .i64 0, .i .i64 0, .i .i64 0, .i .i64 0] [], none⟩,
          ⟨(some 19), .eqa true [true, true, true, true] (.t 17) (.t 18), none⟩,
          ⟨(some 20), .mv (.t 19), none⟩,
          ⟨(some 21), .fa (.t 8) 0, (some (20, true))⟩,
          ⟨(some 22), .ld (.t 21) none, (some (20, true))⟩,
          ⟨(some 23), .mv (.t 1), (some (20, true))⟩,
          ⟨(some 24), .bin .eql (.t 22) (.t 23), (some (20, true))⟩,
          ⟨(some 25), .pick (.t 20) (.t 24) (.k (.s (.b false))), none⟩,
          ⟨(some 26), .mv (.t 25), none⟩,
          ⟨(some 27), .fa (.t 8) 1, (some (26, true))⟩,
          ⟨(some 28), .ld (.t 27) none, (some (26, true))⟩,
          ⟨(some 29), .mv (.t 2), (some (26, true))⟩,
          ⟨(some 30), .bin .eql (.t 28) (.t 29), (some (26, true))⟩,
          ⟨(some 31), .pick (.t 26) (.t 30) (.k (.s (.b false))), none⟩])
        (.cond (.t 31)
         (.seq (.reg [⟨(some 32), .mv (.t 7), none⟩,
            ⟨(some 6), .mv (.t 32), none⟩])
          (.ret))
         (.skip)))))
      (.reg [⟨(some 33), .bin .add (.t 13) (.k (.s (.i .i64 1))), none⟩,
       ⟨(some 13), .mv (.t 33), none⟩])))))))
   (.seq (.reg [⟨(some 6), .mv (.k (.s (.i .i64 (-1)))), none⟩])
   (.ret))), [.t 6]⟩
theorem dc54 : compF Try.prog Try.f54 = some df54 := by kernel_rfl
theorem ok54 : FnOk Try.prog 54 := ⟨Try.f54, Try.func54, by kernel_rfl, by kernel_rfl⟩

/-- (*citadel/tlb.Tlb).forget -/
def df55 : DF :=
  ⟨33, .seq (.reg [⟨(some 4), .new [.i .i64 0, .i .i64 0, .i .i64 0, .i .i64 0, .i .i64 0, .i .i64 0, .i .i64 0, .i .i64 0, .i .i64 0, .i .i64 0, .i .i64 0, .i .i64 0, .i .i64 0, .i .i64 0, .i .i64 0, .i .i64 0, .i .i64 0, .i .i64 0, .i .i64 0, .i .i64 0, .i .i64 0, .i .i64 0, .i .i64 0, .i .i64 0, .i .i64 0, .i .i64 0, .i .i64 0, .i .i64 0, .i .i64 0, .i .i64 0, .i .i64 0, .i .i64 0], none⟩])
   (.seq (.seq (.reg [⟨(some 7), .mv (.t 0), none⟩,
      ⟨(some 8), .nil (.t 7), none⟩,
      ⟨(some 9), .fa (.t 8) 0, none⟩,
      ⟨(some 10), .ld (.t 9) (some 32), none⟩,
      ⟨(some 11), .mv (.k (.s (.i .i64 0))), none⟩])
    (.block 0 (.loop (.seq (.reg [⟨(some 12), .bin .lss (.t 11) (.k (.s (.i .i64 8))), none⟩])
      (.seq (.cond (.t 12)
        (.skip)
        (.exit 0))
      (.seq (.block 1 (.seq (.reg [⟨(some 13), .mv (.t 11), none⟩,
          ⟨(some 14), .ix 8 4 (some 4) (.t 10) (.t 11), none⟩,
          ⟨(some 6), .new [.i .i64 0, .i .i64 0, .i .i64 0, .i .i64 0], none⟩,
          ⟨(some 5), .mv (.t 13), none⟩,
          ⟨none, .st (.t 6) (.t 14) 4, none⟩])
        (.seq (.reg [⟨(some 15), .mv (.t 1), none⟩,
          ⟨(some 16), .ld (.t 6) (some 4), none⟩,
          ⟨(some 17), .callv (.t 15) [(.t 16)], none⟩,
          ⟨(some 18), .un .not (.t 17), none⟩])
        (.cond (.t 18)
         (.reg [⟨(some 19), .mv (.t 5), none⟩,
           ⟨(some 20), .ld (.t 6) (some 4), none⟩,
           ⟨(some 21), .ia (some 8) 4 (.t 4) (.t 19), none⟩,
           ⟨none, .st (.t 21) (.t 20) 4, none⟩])
         (.skip)))))
      (.reg [⟨(some 22), .bin .add (.t 11) (.k (.s (.i .i64 1))), none⟩,
       ⟨(some 11), .mv (.t 22), none⟩])))))))
   (.seq (.drq [⟨(some 23), .ld (.t 4) (some 32), none⟩,
     ⟨(some 24), .mv (.t 0), none⟩,
     ⟨(some 25), .nil (.t 24), none⟩,
     ⟨(some 26), .fa (.t 25) 0, none⟩,
     ⟨(some 27), .ld (.t 26) (some 32), none⟩,
     ⟨(some 28), .eqa true [true, true, true, true, true, true, true, true, true, true, true, true, true, true, true, true, true, true, true, true, true, true, true, true, true, true, true, true, true, true, true, true] (.t 23) (.t 27), none⟩])
   (.cond (.t 28)
    (.reg [⟨(some 29), .mv (.t 0), none⟩,
      ⟨(some 30), .ld (.t 4) (some 32), none⟩,
      ⟨(some 31), .nil (.t 29), none⟩,
      ⟨(some 32), .fa (.t 31) 0, none⟩,
      ⟨none, .st (.t 32) (.t 30) 32, none⟩])
    (.skip)))), []⟩
theorem dc55 : compF Try.prog Try.f55 = some df55 := by kernel_rfl
theorem ok55 : FnOk Try.prog 55 := ⟨Try.f55, Try.func55, by kernel_rfl, by kernel_rfl⟩

/-- (*citadel/tlb.Tlb).FlushPage$1 -/
def df56 : DF :=
  ⟨15, .seq (.reg [⟨(some 3), .box (.t 0), none⟩,
     ⟨(some 4), .mv (.k (.s (.b false))), none⟩])
   (.seq (.reg [⟨(some 5), .fa (.t 3) 0, none⟩,
     ⟨(some 6), .ld (.t 5) none, none⟩,
     ⟨(some 7), .ld (.t 1) none, none⟩,
     ⟨(some 8), .bin .eql (.t 6) (.t 7), none⟩,
     ⟨(some 9), .mv (.t 8), none⟩,
     ⟨(some 10), .fa (.t 3) 1, (some (9, true))⟩,
     ⟨(some 11), .ld (.t 10) none, (some (9, true))⟩,
     ⟨(some 12), .ld (.t 2) none, (some (9, true))⟩,
     ⟨(some 13), .bin .eql (.t 11) (.t 12), (some (9, true))⟩,
     ⟨(some 14), .pick (.t 9) (.t 13) (.k (.s (.b false))), none⟩,
     ⟨(some 4), .mv (.t 14), none⟩])
   (.ret)), [.t 4]⟩
theorem dc56 : compF Try.prog Try.f56 = some df56 := by kernel_rfl
theorem ok56 : FnOk Try.prog 56 := ⟨Try.f56, Try.func56, by kernel_rfl, by kernel_rfl⟩

/-- (*citadel/tlb.Tlb).FlushAsid$1 -/
def df57 : DF :=
  ⟨8, .seq (.reg [⟨(some 2), .box (.t 0), none⟩,
     ⟨(some 3), .mv (.k (.s (.b false))), none⟩])
   (.seq (.reg [⟨(some 4), .fa (.t 2) 0, none⟩,
     ⟨(some 5), .ld (.t 4) none, none⟩,
     ⟨(some 6), .ld (.t 1) none, none⟩,
     ⟨(some 7), .bin .eql (.t 5) (.t 6), none⟩,
     ⟨(some 3), .mv (.t 7), none⟩])
   (.ret)), [.t 3]⟩
theorem dc57 : compF Try.prog Try.f57 = some df57 := by kernel_rfl
theorem ok57 : FnOk Try.prog 57 := ⟨Try.f57, Try.func57, by kernel_rfl, by kernel_rfl⟩

/-- (*citadel/tlb.Tlb).FlushAll$1 -/
def df58 : DF :=
  ⟨3, .seq (.reg [⟨(some 1), .box (.t 0), none⟩,
     ⟨(some 2), .mv (.k (.s (.b false))), none⟩])
   (.seq (.reg [⟨(some 2), .mv (.k (.s (.b true))), none⟩])
   (.ret)), [.t 2]⟩
theorem dc58 : compF Try.prog Try.f58 = some df58 := by kernel_rfl
theorem ok58 : FnOk Try.prog 58 := ⟨Try.f58, Try.func58, by kernel_rfl, by kernel_rfl⟩

/-- (*citadel/mem.Memory).span -/
def df59 : DF :=
  ⟨43, .seq (.reg [⟨(some 6), .mv (.k (.s (.ns))), none⟩,
     ⟨(some 7), .mv (.k (.s (.b false))), none⟩])
   (.seq (.seq (.reg [⟨(some 8), .mv (.t 1), none⟩,
      ⟨(some 9), .bin .lss (.t 8) (.k (.s (.i .i64 0))), none⟩,
      ⟨(some 10), .mv (.t 9), none⟩,
      ⟨(some 11), .mv (.t 2), (some (10, false))⟩,
      ⟨(some 12), .bin .lss (.t 11) (.k (.s (.i .i64 0))), (some (10, false))⟩,
      ⟨(some 13), .pick (.t 10) (.k (.s (.b true))) (.t 12), none⟩,
      ⟨(some 14), .mv (.t 13), none⟩,
      ⟨(some 15), .mv (.t 1), (some (14, false))⟩,
      ⟨(some 16), .mv (.t 0), (some (14, false))⟩,
      ⟨(some 17), .nil (.t 16), (some (14, false))⟩,
      ⟨(some 18), .fa (.t 17) 0, (some (14, false))⟩,
      ⟨(some 19), .ld (.t 18) none, (some (14, false))⟩,
      ⟨(some 20), .len (.t 19), (some (14, false))⟩,
      ⟨(some 21), .bin .gtr (.t 15) (.t 20), (some (14, false))⟩,
      ⟨(some 22), .pick (.t 14) (.k (.s (.b true))) (.t 21), none⟩,
      ⟨(some 23), .mv (.t 22), none⟩,
      ⟨(some 24), .mv (.t 2), (some (23, false))⟩,
      ⟨(some 25), .mv (.t 0), (some (23, false))⟩,
      ⟨(some 26), .nil (.t 25), (some (23, false))⟩,
      ⟨(some 27), .fa (.t 26) 0, (some (23, false))⟩,
      ⟨(some 28), .ld (.t 27) none, (some (23, false))⟩,
      ⟨(some 29), .len (.t 28), (some (23, false))⟩,
      ⟨(some 30), .mv (.t 1), (some (23, false))⟩,
      ⟨(some 31), .bin .sub (.t 29) (.t 30), (some (23, false))⟩,
      ⟨(some 32), .bin .gtr (.t 24) (.t 31), (some (23, false))⟩,
      ⟨(some 33), .pick (.t 23) (.k (.s (.b true))) (.t 32), none⟩])
    (.cond (.t 33)
     (.seq (.reg [⟨(some 6), .mv (.k (.s (.ns))), none⟩,
        ⟨(some 7), .mv (.k (.s (.b false))), none⟩])
      (.ret))
     (.skip)))
   (.seq (.reg [⟨(some 34), .mv (.t 0), none⟩,
     ⟨(some 35), .nil (.t 34), none⟩,
     ⟨(some 36), .fa (.t 35) 0, none⟩,
     ⟨(some 37), .ld (.t 36) none, none⟩,
     ⟨(some 38), .mv (.t 1), none⟩,
     ⟨(some 39), .mv (.t 1), none⟩,
     ⟨(some 40), .mv (.t 2), none⟩,
     ⟨(some 41), .bin .add (.t 39) (.t 40), none⟩,
     ⟨(some 42), .slc none 1 (.t 37) (some (.t 38)) (some (.t 41)), none⟩,
     ⟨(some 6), .mv (.t 42), none⟩,
     ⟨(some 7), .mv (.k (.s (.b true))), none⟩])
   (.ret))), [.t 6, .t 7]⟩
theorem dc59 : compF Try.prog Try.f59 = some df59 := by kernel_rfl
theorem ok59 : FnOk Try.prog 59 := ⟨Try.f59, Try.func59, by kernel_rfl, by kernel_rfl⟩

/-- slices.Clone[[]uint64,uint64] -/
def df60 : DF :=
  ⟨8, .seq (.reg [⟨(some 2), .mv (.k (.s (.ns))), none⟩])
   (.seq (.seq (.reg [⟨(some 3), .mv (.t 0), none⟩,
      ⟨(some 4), .eqn true false (.t 3), none⟩])
    (.cond (.t 4)
     (.seq (.reg [⟨(some 2), .mv (.k (.s (.ns))), none⟩])
      (.ret))
     (.skip)))
   (.seq (.reg [⟨(some 5), .bsl 0 [] [], none⟩,
     ⟨(some 6), .mv (.t 0), none⟩,
     ⟨(some 7), .app 1 8 (.t 5) (.t 6), none⟩,
     ⟨(some 2), .mv (.t 7), none⟩])
   (.ret))), [.t 2]⟩
theorem dc60 : compF Try.prog Try.f60 = some df60 := by kernel_rfl
theorem ok60 : FnOk Try.prog 60 := ⟨Try.f60, Try.func60, by kernel_rfl, by kernel_rfl⟩

/-- (*citadel/citadelref02.Memory).Write -/
def df61 : DF :=
  ⟨28, .seq (.reg [⟨(some 6), .mv (.k (.s (.i .i64 0))), none⟩])
   (.seq (.reg [⟨(some 8), .mv (.t 0), none⟩,
     ⟨(some 9), .mv (.t 1), none⟩,
     ⟨(some 10), .call 72 [(.t 8), (.t 9), (.k (.s (.i .i64 1)))], none⟩,
     ⟨(some 7), .mv (.t 10), none⟩])
   (.seq (.seq (.reg [⟨(some 11), .mv (.t 7), none⟩,
      ⟨(some 12), .un .not (.t 11), none⟩])
    (.cond (.t 12)
     (.seq (.reg [⟨(some 6), .mv (.k (.s (.i .i64 20))), none⟩])
      (.ret))
     (.skip)))
   (.seq (.reg [⟨(some 13), .mv (.t 0), none⟩,
     ⟨(some 14), .mv (.t 0), none⟩,
     ⟨(some 15), .nil (.t 14), none⟩,
     ⟨(some 16), .fa (.t 15) 1, none⟩,
     ⟨(some 17), .ld (.t 16) none, none⟩,
     ⟨(some 18), .bin .add (.t 17) (.k (.s (.i .i64 1))), none⟩,
     ⟨(some 19), .nil (.t 13), none⟩,
     ⟨(some 20), .fa (.t 19) 1, none⟩,
     ⟨none, .st (.t 20) (.t 18) 1, none⟩])
   (.seq (.reg [⟨(some 21), .mv (.t 0), none⟩,
     ⟨(some 22), .nil (.t 21), none⟩,
     ⟨(some 23), .fa (.t 22) 0, none⟩,
     ⟨(some 24), .ld (.t 23) none, none⟩,
     ⟨(some 25), .mv (.t 1), none⟩,
     ⟨(some 26), .mv (.t 2), none⟩,
     ⟨(some 27), .ia none 1 (.t 24) (.t 25), none⟩,
     ⟨none, .st (.t 27) (.t 26) 1, none⟩])
   (.seq (.reg [⟨(some 6), .mv (.k (.s (.i .i64 0))), none⟩])
   (.ret)))))), [.t 6]⟩
theorem dc61 : compF Try.prog Try.f61 = some df61 := by kernel_rfl
theorem ok61 : FnOk Try.prog 61 := ⟨Try.f61, Try.func61, by kernel_rfl, by kernel_rfl⟩

/-- (*citadel/citadelref02.Memory).Fill -/
def df62 : DF :=
  ⟨40, .seq (.reg [⟨(some 8), .mv (.k (.s (.i .i64 0))), none⟩])
   (.seq (.reg [⟨(some 11), .mv (.t 0), none⟩,
     ⟨(some 12), .mv (.t 1), none⟩,
     ⟨(some 13), .mv (.t 2), none⟩,
     ⟨(some 14), .call 72 [(.t 11), (.t 12), (.t 13)], none⟩,
     ⟨(some 9), .mv (.t 14), none⟩])
   (.seq (.seq (.reg [⟨(some 15), .mv (.t 9), none⟩,
      ⟨(some 16), .un .not (.t 15), none⟩])
    (.cond (.t 16)
     (.seq (.reg [⟨(some 8), .mv (.k (.s (.i .i64 20))), none⟩])
      (.ret))
     (.skip)))
   (.seq (.seq (.reg [⟨(some 10), .mv (.k (.s (.i .i64 0))), none⟩])
    (.block 0 (.loop (.seq (.seq (.reg [⟨(some 17), .mv (.t 10), none⟩,
         ⟨(some 18), .mv (.t 2), none⟩,
         ⟨(some 19), .bin .lss (.t 17) (.t 18), none⟩])
       (.cond (.t 19)
        (.skip)
        (.exit 0)))
      (.seq (.block 1 (.reg [⟨(some 22), .mv (.t 0), none⟩,
         ⟨(some 23), .nil (.t 22), none⟩,
         ⟨(some 24), .fa (.t 23) 0, none⟩,
         ⟨(some 25), .ld (.t 24) none, none⟩,
         ⟨(some 26), .mv (.t 1), none⟩,
         ⟨(some 27), .mv (.t 10), none⟩,
         ⟨(some 28), .bin .add (.t 26) (.t 27), none⟩,
         ⟨(some 29), .mv (.t 3), none⟩,
         ⟨(some 30), .ia none 1 (.t 25) (.t 28), none⟩,
         ⟨none, .st (.t 30) (.t 29) 1, none⟩]))
      (.reg [⟨(some 20), .mv (.t 10), none⟩,
       ⟨(some 21), .bin .add (.t 20) (.k (.s (.i .i64 1))), none⟩,
       ⟨(some 10), .mv (.t 21), none⟩]))))))
   (.seq (.reg [⟨(some 31), .mv (.t 0), none⟩,
     ⟨(some 32), .mv (.t 0), none⟩,
     ⟨(some 33), .nil (.t 32), none⟩,
     ⟨(some 34), .fa (.t 33) 1, none⟩,
     ⟨(some 35), .ld (.t 34) none, none⟩,
     ⟨(some 36), .mv (.t 2), none⟩,
     ⟨(some 37), .bin .add (.t 35) (.t 36), none⟩,
     ⟨(some 38), .nil (.t 31), none⟩,
     ⟨(some 39), .fa (.t 38) 1, none⟩,
     ⟨none, .st (.t 39) (.t 37) 1, none⟩])
   (.seq (.reg [⟨(some 8), .mv (.k (.s (.i .i64 0))), none⟩])
   (.ret)))))), [.t 8]⟩
theorem dc62 : compF Try.prog Try.f62 = some df62 := by kernel_rfl
theorem ok62 : FnOk Try.prog 62 := ⟨Try.f62, Try.func62, by kernel_rfl, by kernel_rfl⟩

/-- (*citadel/citadelref02.Memory).Copy -/
def df63 : DF :=
  ⟨74, .seq (.reg [⟨(some 8), .mv (.k (.s (.i .i64 0))), none⟩])
   (.seq (.reg [⟨(some 14), .mv (.t 0), none⟩,
     ⟨(some 15), .mv (.t 1), none⟩,
     ⟨(some 16), .mv (.t 3), none⟩,
     ⟨(some 17), .call 72 [(.t 14), (.t 15), (.t 16)], none⟩,
     ⟨(some 9), .mv (.t 17), none⟩])
   (.seq (.reg [⟨(some 18), .mv (.t 0), none⟩,
     ⟨(some 19), .mv (.t 2), none⟩,
     ⟨(some 20), .mv (.t 3), none⟩,
     ⟨(some 21), .call 72 [(.t 18), (.t 19), (.t 20)], none⟩,
     ⟨(some 10), .mv (.t 21), none⟩])
   (.seq (.seq (.reg [⟨(some 22), .mv (.t 9), none⟩,
      ⟨(some 23), .un .not (.t 22), none⟩,
      ⟨(some 24), .mv (.t 23), none⟩,
      ⟨(some 25), .mv (.t 10), (some (24, false))⟩,
      ⟨(some 26), .un .not (.t 25), (some (24, false))⟩,
      ⟨(some 27), .pick (.t 24) (.k (.s (.b true))) (.t 26), none⟩])
    (.cond (.t 27)
     (.seq (.reg [⟨(some 8), .mv (.k (.s (.i .i64 20))), none⟩])
      (.ret))
     (.skip)))
   (.seq (.reg [⟨(some 28), .mv (.t 3), none⟩,
     ⟨(some 29), .mks 1 8 [.i .u64 0] (.t 28) (.t 28), none⟩,
     ⟨(some 11), .mv (.t 29), none⟩])
   (.seq (.seq (.reg [⟨(some 12), .mv (.k (.s (.i .i64 0))), none⟩])
    (.block 0 (.loop (.seq (.seq (.reg [⟨(some 30), .mv (.t 12), none⟩,
         ⟨(some 31), .mv (.t 3), none⟩,
         ⟨(some 32), .bin .lss (.t 30) (.t 31), none⟩])
       (.cond (.t 32)
        (.skip)
        (.exit 0)))
      (.seq (.block 1 (.reg [⟨(some 35), .mv (.t 11), none⟩,
         ⟨(some 36), .mv (.t 12), none⟩,
         ⟨(some 37), .mv (.t 0), none⟩,
         ⟨(some 38), .nil (.t 37), none⟩,
         ⟨(some 39), .fa (.t 38) 0, none⟩,
         ⟨(some 40), .ld (.t 39) none, none⟩,
         ⟨(some 41), .mv (.t 1), none⟩,
         ⟨(some 42), .mv (.t 12), none⟩,
         ⟨(some 43), .bin .add (.t 41) (.t 42), none⟩,
         ⟨(some 44), .ia none 1 (.t 40) (.t 43), none⟩,
         ⟨(some 45), .ld (.t 44) none, none⟩,
         ⟨(some 46), .ia none 1 (.t 35) (.t 36), none⟩,
         ⟨none, .st (.t 46) (.t 45) 1, none⟩]))
      (.reg [⟨(some 33), .mv (.t 12), none⟩,
       ⟨(some 34), .bin .add (.t 33) (.k (.s (.i .i64 1))), none⟩,
       ⟨(some 12), .mv (.t 34), none⟩]))))))
   (.seq (.seq (.reg [⟨(some 13), .mv (.k (.s (.i .i64 0))), none⟩])
    (.block 2 (.loop (.seq (.seq (.reg [⟨(some 47), .mv (.t 13), none⟩,
         ⟨(some 48), .mv (.t 3), none⟩,
         ⟨(some 49), .bin .lss (.t 47) (.t 48), none⟩])
       (.cond (.t 49)
        (.skip)
        (.exit 2)))
      (.seq (.block 3 (.drt 12 [⟨(some 52), .mv (.t 0), none⟩,
         ⟨(some 53), .nil (.t 52), none⟩,
         ⟨(some 54), .fa (.t 53) 0, none⟩,
         ⟨(some 55), .ld (.t 54) none, none⟩,
         ⟨(some 56), .mv (.t 2), none⟩,
         ⟨(some 57), .mv (.t 13), none⟩,
         ⟨(some 58), .bin .add (.t 56) (.t 57), none⟩,
         ⟨(some 59), .mv (.t 11), none⟩,
         ⟨(some 60), .mv (.t 13), none⟩,
         ⟨(some 61), .ia none 1 (.t 59) (.t 60), none⟩,
         ⟨(some 62), .ld (.t 61) none, none⟩,
         ⟨(some 63), .ia none 1 (.t 55) (.t 58), none⟩,
         ⟨none, .st (.t 63) (.t 62) 1, none⟩]))
      (.reg [⟨(some 50), .mv (.t 13), none⟩,
       ⟨(some 51), .bin .add (.t 50) (.k (.s (.i .i64 1))), none⟩,
       ⟨(some 13), .mv (.t 51), none⟩]))))))
   (.seq (.reg [⟨(some 64), .mv (.t 0), none⟩,
     ⟨(some 65), .mv (.t 0), none⟩,
     ⟨(some 66), .nil (.t 65), none⟩,
     ⟨(some 67), .fa (.t 66) 1, none⟩,
     ⟨(some 68), .ld (.t 67) none, none⟩,
     ⟨(some 69), .mv (.t 3), none⟩,
     ⟨(some 70), .bin .mul (.k (.s (.i .i64 2))) (.t 69), none⟩,
     ⟨(some 71), .bin .add (.t 68) (.t 70), none⟩,
     ⟨(some 72), .nil (.t 64), none⟩,
     ⟨(some 73), .fa (.t 72) 1, none⟩,
     ⟨none, .st (.t 73) (.t 71) 1, none⟩])
   (.seq (.reg [⟨(some 8), .mv (.k (.s (.i .i64 0))), none⟩])
   (.ret))))))))), [.t 8]⟩
theorem dc63 : compF Try.prog Try.f63 = some df63 := by kernel_rfl
theorem ok63 : FnOk Try.prog 63 := ⟨Try.f63, Try.func63, by kernel_rfl, by kernel_rfl⟩

/-- (*citadel/citadelref02.Memory).Dump -/
def df64 : DF :=
  ⟨37, .seq (.reg [⟨(some 6), .mv (.k (.s (.ns))), none⟩,
     ⟨(some 7), .mv (.k (.s (.i .i64 0))), none⟩])
   (.seq (.reg [⟨(some 11), .mv (.t 0), none⟩,
     ⟨(some 12), .mv (.t 1), none⟩,
     ⟨(some 13), .mv (.t 2), none⟩,
     ⟨(some 14), .call 72 [(.t 11), (.t 12), (.t 13)], none⟩,
     ⟨(some 8), .mv (.t 14), none⟩])
   (.seq (.seq (.reg [⟨(some 15), .mv (.t 8), none⟩,
      ⟨(some 16), .un .not (.t 15), none⟩])
    (.cond (.t 16)
     (.seq (.reg [⟨(some 6), .mv (.k (.s (.ns))), none⟩,
        ⟨(some 7), .mv (.k (.s (.i .i64 20))), none⟩])
      (.ret))
     (.skip)))
   (.seq (.reg [⟨(some 17), .mv (.t 2), none⟩,
     ⟨(some 18), .mks 1 8 [.i .u64 0] (.t 17) (.t 17), none⟩,
     ⟨(some 9), .mv (.t 18), none⟩])
   (.seq (.seq (.reg [⟨(some 10), .mv (.k (.s (.i .i64 0))), none⟩])
    (.block 0 (.loop (.seq (.seq (.reg [⟨(some 19), .mv (.t 10), none⟩,
         ⟨(some 20), .mv (.t 2), none⟩,
         ⟨(some 21), .bin .lss (.t 19) (.t 20), none⟩])
       (.cond (.t 21)
        (.skip)
        (.exit 0)))
      (.seq (.block 1 (.reg [⟨(some 24), .mv (.t 9), none⟩,
         ⟨(some 25), .mv (.t 10), none⟩,
         ⟨(some 26), .mv (.t 0), none⟩,
         ⟨(some 27), .nil (.t 26), none⟩,
         ⟨(some 28), .fa (.t 27) 0, none⟩,
         ⟨(some 29), .ld (.t 28) none, none⟩,
         ⟨(some 30), .mv (.t 1), none⟩,
         ⟨(some 31), .mv (.t 10), none⟩,
         ⟨(some 32), .bin .add (.t 30) (.t 31), none⟩,
         ⟨(some 33), .ia none 1 (.t 29) (.t 32), none⟩,
         ⟨(some 34), .ld (.t 33) none, none⟩,
         ⟨(some 35), .ia none 1 (.t 24) (.t 25), none⟩,
         ⟨none, .st (.t 35) (.t 34) 1, none⟩]))
      (.reg [⟨(some 22), .mv (.t 10), none⟩,
       ⟨(some 23), .bin .add (.t 22) (.k (.s (.i .i64 1))), none⟩,
       ⟨(some 10), .mv (.t 23), none⟩]))))))
   (.seq (.reg [⟨(some 36), .mv (.t 9), none⟩,
     ⟨(some 6), .mv (.t 36), none⟩,
     ⟨(some 7), .mv (.k (.s (.i .i64 0))), none⟩])
   (.ret)))))), [.t 6, .t 7]⟩
theorem dc64 : compF Try.prog Try.f64 = some df64 := by kernel_rfl
theorem ok64 : FnOk Try.prog 64 := ⟨Try.f64, Try.func64, by kernel_rfl, by kernel_rfl⟩

/-- (*citadel/citadelref02.Memory).Load -/
def df65 : DF :=
  ⟨34, .seq (.reg [⟨(some 6), .mv (.k (.s (.i .i64 0))), none⟩])
   (.seq (.reg [⟨(some 9), .mv (.t 0), none⟩,
     ⟨(some 10), .mv (.t 1), none⟩,
     ⟨(some 11), .mv (.t 2), none⟩,
     ⟨(some 12), .len (.t 11), none⟩,
     ⟨(some 13), .call 72 [(.t 9), (.t 10), (.t 12)], none⟩,
     ⟨(some 7), .mv (.t 13), none⟩])
   (.seq (.seq (.reg [⟨(some 14), .mv (.t 7), none⟩,
      ⟨(some 15), .un .not (.t 14), none⟩])
    (.cond (.t 15)
     (.seq (.reg [⟨(some 6), .mv (.k (.s (.i .i64 20))), none⟩])
      (.ret))
     (.skip)))
   (.seq (.seq (.reg [⟨(some 8), .mv (.k (.s (.i .i64 0))), none⟩])
    (.block 0 (.loop (.seq (.seq (.reg [⟨(some 16), .mv (.t 8), none⟩,
         ⟨(some 17), .mv (.t 2), none⟩,
         ⟨(some 18), .len (.t 17), none⟩,
         ⟨(some 19), .bin .lss (.t 16) (.t 18), none⟩])
       (.cond (.t 19)
        (.skip)
        (.exit 0)))
      (.seq (.block 1 (.drt 12 [⟨(some 22), .mv (.t 0), none⟩,
         ⟨(some 23), .nil (.t 22), none⟩,
         ⟨(some 24), .fa (.t 23) 0, none⟩,
         ⟨(some 25), .ld (.t 24) none, none⟩,
         ⟨(some 26), .mv (.t 1), none⟩,
         ⟨(some 27), .mv (.t 8), none⟩,
         ⟨(some 28), .bin .add (.t 26) (.t 27), none⟩,
         ⟨(some 29), .mv (.t 2), none⟩,
         ⟨(some 30), .mv (.t 8), none⟩,
         ⟨(some 31), .ia none 1 (.t 29) (.t 30), none⟩,
         ⟨(some 32), .ld (.t 31) none, none⟩,
         ⟨(some 33), .ia none 1 (.t 25) (.t 28), none⟩,
         ⟨none, .st (.t 33) (.t 32) 1, none⟩]))
      (.reg [⟨(some 20), .mv (.t 8), none⟩,
       ⟨(some 21), .bin .add (.t 20) (.k (.s (.i .i64 1))), none⟩,
       ⟨(some 8), .mv (.t 21), none⟩]))))))
   (.seq (.reg [⟨(some 6), .mv (.k (.s (.i .i64 0))), none⟩])
   (.ret))))), [.t 6]⟩
theorem dc65 : compF Try.prog Try.f65 = some df65 := by kernel_rfl
theorem ok65 : FnOk Try.prog 65 := ⟨Try.f65, Try.func65, by kernel_rfl, by kernel_rfl⟩

/-- citadel/citadellaw05.chapter -/
def df66 : DF :=
  ⟨10, .seq (.reg [⟨(some 0), .mv (.k (.s (.ns))), none⟩])
   (.seq (.reg [⟨(some 1), .build [.b false, .b false, .i .i64 0, .i .i64 0] [(0, 1, (.k (.s (.b true)))), (2, 1, (.k (.s (.i .i64 1032))))], none⟩,
     ⟨(some 2), .build [.i .i64 0, .b false, .b false, .i .i64 0, .i .i64 0, .b false, .i .u64 0] [(0, 1, (.k (.s (.i .i64 1025)))), (1, 4, (.t 1))], none⟩,
     ⟨(some 3), .build [.b false, .b false, .i .i64 0, .i .i64 0] [(0, 1, (.k (.s (.b true)))), (2, 1, (.k (.s (.i .i64 1040))))], none⟩,
     ⟨(some 4), .build [.i .i64 0, .b false, .b false, .i .i64 0, .i .i64 0, .b false, .i .u64 0] [(0, 1, (.k (.s (.i .i64 1034)))), (1, 4, (.t 3))], none⟩,
     ⟨(some 5), .build [.b false, .b false, .i .i64 0, .i .i64 0] [(0, 1, (.k (.s (.b true)))), (2, 1, (.k (.s (.i .i64 1048))))], none⟩,
     ⟨(some 6), .build [.i .i64 0, .b false, .b false, .i .i64 0, .i .i64 0, .b false, .i .u64 0] [(0, 1, (.k (.s (.i .i64 1043)))), (1, 4, (.t 5))], none⟩,
     ⟨(some 7), .build [.b false, .b false, .i .i64 0, .i .i64 0] [(0, 1, (.k (.s (.b true)))), (1, 1, (.k (.s (.b true)))), (2, 1, (.k (.s (.i .i64 2048)))), (3, 1, (.k (.s (.i .i64 1))))], none⟩,
     ⟨(some 8), .build [.i .i64 0, .b false, .b false, .i .i64 0, .i .i64 0, .b false, .i .u64 0] [(0, 1, (.k (.s (.i .i64 1052)))), (1, 4, (.t 7))], none⟩,
     ⟨(some 9), .bsl 4 [.i .i64 0, .b false, .b false, .i .i64 0, .i .i64 0, .b false, .i .u64 0, .i .i64 0, .b false, .b false, .i .i64 0, .i .i64 0, .b false, .i .u64 0, .i .i64 0, .b false, .b false, .i .i64 0, .i .i64 0, .b false, .i .u64 0, .i .i64 0, .b false, .b false, .i .i64 0, .i .i64 0, .b false, .i .u64 0] [(0, 7, (.t 2)), (7, 7, (.t 4)), (14, 7, (.t 6)), (21, 7, (.t 8))], none⟩,
     ⟨(some 0), .mv (.t 9), none⟩])
   (.ret)), [.t 0]⟩
theorem dc66 : compF Try.prog Try.f66 = some df66 := by kernel_rfl
theorem ok66 : FnOk Try.prog 66 := ⟨Try.f66, Try.func66, by kernel_rfl, by kernel_rfl⟩

/-- citadel/walk.may -/
def df67 : DF :=
  ⟨29, .seq (.reg [⟨(some 1), .box (.t 0), none⟩,
     ⟨(some 2), .mv (.k (.s (.b false))), none⟩])
   (.seq (.block 0 (.seq (.reg [⟨(some 4), .fa (.t 1) 0, none⟩,
       ⟨(some 5), .ld (.t 4) none, none⟩,
       ⟨(some 6), .un .not (.t 5), none⟩,
       ⟨(some 3), .mv (.t 6), none⟩])
     (.cond (.t 3)
      (.seq (.reg [⟨(some 7), .ld (.t 1) (some 4), none⟩,
         ⟨(some 8), .build [.b false, .b false, .i .i64 0, .i .i64 0] [], none⟩,
         ⟨(some 9), .eqa false [false, false, true, true] (.t 7) (.t 8), none⟩,
         ⟨(some 2), .mv (.t 9), none⟩])
       (.ret))
      (.seq (.reg [⟨(some 11), .fa (.t 1) 1, none⟩,
         ⟨(some 12), .ld (.t 11) none, none⟩,
         ⟨(some 10), .mv (.t 12), none⟩])
       (.cond (.t 10)
        (.seq (.reg [⟨(some 13), .fa (.t 1) 2, none⟩,
           ⟨(some 14), .ld (.t 13) none, none⟩,
           ⟨(some 15), .call 70 [(.t 14), (.k (.s (.i .i64 16))), (.k (.s (.i .i64 65520))), (.k (.s (.i .i64 16)))], none⟩,
           ⟨(some 16), .mv (.t 15), none⟩,
           ⟨(some 17), .fa (.t 1) 3, (some (16, true))⟩,
           ⟨(some 18), .ld (.t 17) none, (some (16, true))⟩,
           ⟨(some 19), .call 70 [(.t 18), (.k (.s (.i .i64 0))), (.k (.s (.i .i64 3))), (.k (.s (.i .i64 1)))], (some (16, true))⟩,
           ⟨(some 20), .pick (.t 16) (.t 19) (.k (.s (.b false))), none⟩,
           ⟨(some 2), .mv (.t 20), none⟩])
         (.ret))
        (.skip))))))
   (.seq (.reg [⟨(some 21), .fa (.t 1) 2, none⟩,
     ⟨(some 22), .ld (.t 21) none, none⟩,
     ⟨(some 23), .call 70 [(.t 22), (.k (.s (.i .i64 8))), (.k (.s (.i .i64 65528))), (.k (.s (.i .i64 8)))], none⟩,
     ⟨(some 24), .mv (.t 23), none⟩,
     ⟨(some 25), .fa (.t 1) 3, (some (24, true))⟩,
     ⟨(some 26), .ld (.t 25) none, (some (24, true))⟩,
     ⟨(some 27), .bin .eql (.t 26) (.k (.s (.i .i64 0))), (some (24, true))⟩,
     ⟨(some 28), .pick (.t 24) (.t 27) (.k (.s (.b false))), none⟩,
     ⟨(some 2), .mv (.t 28), none⟩])
   (.ret))), [.t 2]⟩
theorem dc67 : compF Try.prog Try.f67 = some df67 := by kernel_rfl
theorem ok67 : FnOk Try.prog 67 := ⟨Try.f67, Try.func67, by kernel_rfl, by kernel_rfl⟩

/-- citadel/citadelref05.May -/
def df68 : DF :=
  ⟨54, .seq (.reg [⟨(some 1), .box (.t 0), none⟩,
     ⟨(some 2), .mv (.k (.s (.b false))), none⟩])
   (.seq (.seq (.reg [⟨(some 3), .fa (.t 1) 0, none⟩,
      ⟨(some 4), .ld (.t 3) none, none⟩,
      ⟨(some 5), .un .not (.t 4), none⟩])
    (.cond (.t 5)
     (.seq (.reg [⟨(some 6), .ld (.t 1) (some 4), none⟩,
        ⟨(some 7), .build [.b false, .b false, .i .i64 0, .i .i64 0] [], none⟩,
        ⟨(some 8), .eqa false [false, false, true, true] (.t 6) (.t 7), none⟩,
        ⟨(some 2), .mv (.t 8), none⟩])
      (.ret))
     (.skip)))
   (.seq (.seq (.reg [⟨(some 9), .fa (.t 1) 1, none⟩,
      ⟨(some 10), .ld (.t 9) none, none⟩])
    (.cond (.t 10)
     (.seq (.reg [⟨(some 11), .fa (.t 1) 2, none⟩,
        ⟨(some 12), .ld (.t 11) none, none⟩,
        ⟨(some 13), .bin .geq (.t 12) (.k (.s (.i .i64 16))), none⟩,
        ⟨(some 14), .mv (.t 13), none⟩,
        ⟨(some 15), .fa (.t 1) 2, (some (14, true))⟩,
        ⟨(some 16), .ld (.t 15) none, (some (14, true))⟩,
        ⟨(some 17), .bin .leq (.t 16) (.k (.s (.i .i64 65520))), (some (14, true))⟩,
        ⟨(some 18), .pick (.t 14) (.t 17) (.k (.s (.b false))), none⟩,
        ⟨(some 19), .mv (.t 18), none⟩,
        ⟨(some 20), .fa (.t 1) 2, (some (19, true))⟩,
        ⟨(some 21), .ld (.t 20) none, (some (19, true))⟩,
        ⟨(some 22), .bin .rem (.t 21) (.k (.s (.i .i64 16))), (some (19, true))⟩,
        ⟨(some 23), .bin .eql (.t 22) (.k (.s (.i .i64 0))), (some (19, true))⟩,
        ⟨(some 24), .pick (.t 19) (.t 23) (.k (.s (.b false))), none⟩,
        ⟨(some 25), .mv (.t 24), none⟩,
        ⟨(some 26), .fa (.t 1) 3, (some (25, true))⟩,
        ⟨(some 27), .ld (.t 26) none, (some (25, true))⟩,
        ⟨(some 28), .bin .geq (.t 27) (.k (.s (.i .i64 0))), (some (25, true))⟩,
        ⟨(some 29), .pick (.t 25) (.t 28) (.k (.s (.b false))), none⟩,
        ⟨(some 30), .mv (.t 29), none⟩,
        ⟨(some 31), .fa (.t 1) 3, (some (30, true))⟩,
        ⟨(some 32), .ld (.t 31) none, (some (30, true))⟩,
        ⟨(some 33), .bin .leq (.t 32) (.k (.s (.i .i64 3))), (some (30, true))⟩,
        ⟨(some 34), .pick (.t 30) (.t 33) (.k (.s (.b false))), none⟩,
        ⟨(some 2), .mv (.t 34), none⟩])
      (.ret))
     (.skip)))
   (.seq (.reg [⟨(some 35), .fa (.t 1) 2, none⟩,
     ⟨(some 36), .ld (.t 35) none, none⟩,
     ⟨(some 37), .bin .geq (.t 36) (.k (.s (.i .i64 8))), none⟩,
     ⟨(some 38), .mv (.t 37), none⟩,
     ⟨(some 39), .fa (.t 1) 2, (some (38, true))⟩,
     ⟨(some 40), .ld (.t 39) none, (some (38, true))⟩,
     ⟨(some 41), .bin .leq (.t 40) (.k (.s (.i .i64 65528))), (some (38, true))⟩,
     ⟨(some 42), .pick (.t 38) (.t 41) (.k (.s (.b false))), none⟩,
     ⟨(some 43), .mv (.t 42), none⟩,
     ⟨(some 44), .fa (.t 1) 2, (some (43, true))⟩,
     ⟨(some 45), .ld (.t 44) none, (some (43, true))⟩,
     ⟨(some 46), .bin .rem (.t 45) (.k (.s (.i .i64 8))), (some (43, true))⟩,
     ⟨(some 47), .bin .eql (.t 46) (.k (.s (.i .i64 0))), (some (43, true))⟩,
     ⟨(some 48), .pick (.t 43) (.t 47) (.k (.s (.b false))), none⟩,
     ⟨(some 49), .mv (.t 48), none⟩,
     ⟨(some 50), .fa (.t 1) 3, (some (49, true))⟩,
     ⟨(some 51), .ld (.t 50) none, (some (49, true))⟩,
     ⟨(some 52), .bin .eql (.t 51) (.k (.s (.i .i64 0))), (some (49, true))⟩,
     ⟨(some 53), .pick (.t 49) (.t 52) (.k (.s (.b false))), none⟩,
     ⟨(some 2), .mv (.t 53), none⟩])
   (.ret)))), [.t 2]⟩
theorem dc68 : compF Try.prog Try.f68 = some df68 := by kernel_rfl
theorem ok68 : FnOk Try.prog 68 := ⟨Try.f68, Try.func68, by kernel_rfl, by kernel_rfl⟩

/-- citadel/walk.virtual -/
def df69 : DF :=
  ⟨5, .seq (.reg [⟨(some 2), .mv (.k (.s (.b false))), none⟩])
   (.seq (.reg [⟨(some 3), .mv (.t 0), none⟩,
     ⟨(some 4), .call 70 [(.t 3), (.k (.s (.i .i64 0))), (.k (.s (.i .i64 65535))), (.k (.s (.i .i64 1)))], none⟩,
     ⟨(some 2), .mv (.t 4), none⟩])
   (.ret)), [.t 2]⟩
theorem dc69 : compF Try.prog Try.f69 = some df69 := by kernel_rfl
theorem ok69 : FnOk Try.prog 69 := ⟨Try.f69, Try.func69, by kernel_rfl, by kernel_rfl⟩

/-- citadel/walk.in -/
def df70 : DF :=
  ⟨23, .seq (.reg [⟨(some 8), .mv (.k (.s (.b false))), none⟩])
   (.seq (.reg [⟨(some 9), .mv (.t 0), none⟩,
     ⟨(some 10), .mv (.t 1), none⟩,
     ⟨(some 11), .bin .geq (.t 9) (.t 10), none⟩,
     ⟨(some 12), .mv (.t 11), none⟩,
     ⟨(some 13), .mv (.t 0), (some (12, true))⟩,
     ⟨(some 14), .mv (.t 2), (some (12, true))⟩,
     ⟨(some 15), .bin .leq (.t 13) (.t 14), (some (12, true))⟩,
     ⟨(some 16), .pick (.t 12) (.t 15) (.k (.s (.b false))), none⟩,
     ⟨(some 17), .mv (.t 16), none⟩,
     ⟨(some 18), .mv (.t 0), (some (17, true))⟩,
     ⟨(some 19), .mv (.t 3), (some (17, true))⟩,
     ⟨(some 20), .bin .rem (.t 18) (.t 19), (some (17, true))⟩,
     ⟨(some 21), .bin .eql (.t 20) (.k (.s (.i .i64 0))), (some (17, true))⟩,
     ⟨(some 22), .pick (.t 17) (.t 21) (.k (.s (.b false))), none⟩,
     ⟨(some 8), .mv (.t 22), none⟩])
   (.ret)), [.t 8]⟩
theorem dc70 : compF Try.prog Try.f70 = some df70 := by kernel_rfl
theorem ok70 : FnOk Try.prog 70 := ⟨Try.f70, Try.func70, by kernel_rfl, by kernel_rfl⟩

/-- citadel/citadelref05.virtual -/
def df71 : DF :=
  ⟨9, .seq (.reg [⟨(some 2), .mv (.k (.s (.b false))), none⟩])
   (.seq (.reg [⟨(some 3), .mv (.t 0), none⟩,
     ⟨(some 4), .bin .geq (.t 3) (.k (.s (.i .i64 0))), none⟩,
     ⟨(some 5), .mv (.t 4), none⟩,
     ⟨(some 6), .mv (.t 0), (some (5, true))⟩,
     ⟨(some 7), .bin .leq (.t 6) (.k (.s (.i .i64 65535))), (some (5, true))⟩,
     ⟨(some 8), .pick (.t 5) (.t 7) (.k (.s (.b false))), none⟩,
     ⟨(some 2), .mv (.t 8), none⟩])
   (.ret)), [.t 2]⟩
theorem dc71 : compF Try.prog Try.f71 = some df71 := by kernel_rfl
theorem ok71 : FnOk Try.prog 71 := ⟨Try.f71, Try.func71, by kernel_rfl, by kernel_rfl⟩

/-- (*citadel/citadelref02.Memory).There -/
def df72 : DF :=
  ⟨33, .seq (.reg [⟨(some 6), .mv (.k (.s (.b false))), none⟩])
   (.seq (.reg [⟨(some 7), .mv (.t 1), none⟩,
     ⟨(some 8), .bin .geq (.t 7) (.k (.s (.i .i64 0))), none⟩,
     ⟨(some 9), .mv (.t 8), none⟩,
     ⟨(some 10), .mv (.t 2), (some (9, true))⟩,
     ⟨(some 11), .bin .geq (.t 10) (.k (.s (.i .i64 0))), (some (9, true))⟩,
     ⟨(some 12), .pick (.t 9) (.t 11) (.k (.s (.b false))), none⟩,
     ⟨(some 13), .mv (.t 12), none⟩,
     ⟨(some 14), .mv (.t 1), (some (13, true))⟩,
     ⟨(some 15), .mv (.t 0), (some (13, true))⟩,
     ⟨(some 16), .nil (.t 15), (some (13, true))⟩,
     ⟨(some 17), .fa (.t 16) 0, (some (13, true))⟩,
     ⟨(some 18), .ld (.t 17) none, (some (13, true))⟩,
     ⟨(some 19), .len (.t 18), (some (13, true))⟩,
     ⟨(some 20), .bin .leq (.t 14) (.t 19), (some (13, true))⟩,
     ⟨(some 21), .pick (.t 13) (.t 20) (.k (.s (.b false))), none⟩,
     ⟨(some 22), .mv (.t 21), none⟩,
     ⟨(some 23), .mv (.t 2), (some (22, true))⟩,
     ⟨(some 24), .mv (.t 0), (some (22, true))⟩,
     ⟨(some 25), .nil (.t 24), (some (22, true))⟩,
     ⟨(some 26), .fa (.t 25) 0, (some (22, true))⟩,
     ⟨(some 27), .ld (.t 26) none, (some (22, true))⟩,
     ⟨(some 28), .len (.t 27), (some (22, true))⟩,
     ⟨(some 29), .mv (.t 1), (some (22, true))⟩,
     ⟨(some 30), .bin .sub (.t 28) (.t 29), (some (22, true))⟩,
     ⟨(some 31), .bin .leq (.t 23) (.t 30), (some (22, true))⟩,
     ⟨(some 32), .pick (.t 22) (.t 31) (.k (.s (.b false))), none⟩,
     ⟨(some 6), .mv (.t 32), none⟩])
   (.ret)), [.t 6]⟩
theorem dc72 : compF Try.prog Try.f72 = some df72 := by kernel_rfl
theorem ok72 : FnOk Try.prog 72 := ⟨Try.f72, Try.func72, by kernel_rfl, by kernel_rfl⟩

/-- (*citadel/citadelref04.Tlb).Find -/
def df73 : DF :=
  ⟨30, .seq (.reg [⟨(some 6), .mv (.k (.s (.i .i64 0))), none⟩,
     ⟨(some 7), .mv (.k (.s (.i .i64 0))), none⟩,
     ⟨(some 8), .mv (.k (.s (.b false))), none⟩])
   (.seq (.reg [⟨(some 10), .mv (.t 0), none⟩,
     ⟨(some 11), .mv (.t 1), none⟩,
     ⟨(some 12), .mv (.t 2), none⟩,
     ⟨(some 13), .call 75 [(.t 10), (.t 11), (.t 12)], none⟩,
     ⟨(some 9), .mv (.t 13), none⟩])
   (.seq (.seq (.reg [⟨(some 14), .mv (.t 9), none⟩,
      ⟨(some 15), .bin .lss (.t 14) (.k (.s (.i .i64 0))), none⟩])
    (.cond (.t 15)
     (.seq (.reg [⟨(some 6), .mv (.k (.s (.i .i64 0))), none⟩,
        ⟨(some 7), .mv (.k (.s (.i .i64 0))), none⟩,
        ⟨(some 8), .mv (.k (.s (.b false))), none⟩])
      (.ret))
     (.skip)))
   (.seq (.drq [⟨(some 16), .mv (.t 0), none⟩,
     ⟨(some 17), .mv (.t 9), none⟩,
     ⟨(some 18), .nil (.t 16), none⟩,
     ⟨(some 19), .fa (.t 18) 0, none⟩,
     ⟨(some 20), .ia (some 8) 4 (.t 19) (.t 17), none⟩,
     ⟨(some 21), .fa (.t 20) 2, none⟩,
     ⟨(some 22), .ld (.t 21) none, none⟩,
     ⟨(some 23), .mv (.t 0), none⟩,
     ⟨(some 24), .mv (.t 9), none⟩,
     ⟨(some 25), .nil (.t 23), none⟩,
     ⟨(some 26), .fa (.t 25) 0, none⟩,
     ⟨(some 27), .ia (some 8) 4 (.t 26) (.t 24), none⟩,
     ⟨(some 28), .fa (.t 27) 3, none⟩,
     ⟨(some 29), .ld (.t 28) none, none⟩,
     ⟨(some 6), .mv (.t 22), none⟩,
     ⟨(some 7), .mv (.t 29), none⟩,
     ⟨(some 8), .mv (.k (.s (.b true))), none⟩])
   (.ret)))), [.t 6, .t 7, .t 8]⟩
theorem dc73 : compF Try.prog Try.f73 = some df73 := by kernel_rfl
theorem ok73 : FnOk Try.prog 73 := ⟨Try.f73, Try.func73, by kernel_rfl, by kernel_rfl⟩

/-- (*citadel/citadelref04.Tlb).Fill -/
def df74 : DF :=
  ⟨36, .seq (.reg [⟨(some 4), .box (.t 1), none⟩,
     ⟨(some 6), .mv (.k (.s (.i .i64 0))), none⟩])
   (.seq (.reg [⟨(some 9), .ld (.t 4) (some 4), none⟩,
     ⟨(some 10), .call 76 [(.t 9)], none⟩,
     ⟨(some 7), .mv (.t 10), none⟩])
   (.seq (.seq (.reg [⟨(some 11), .mv (.t 7), none⟩,
      ⟨(some 12), .un .not (.t 11), none⟩,
      ⟨(some 13), .mv (.t 12), none⟩,
      ⟨(some 14), .mv (.t 2), (some (13, false))⟩,
      ⟨(some 15), .bin .lss (.t 14) (.k (.s (.i .i64 0))), (some (13, false))⟩,
      ⟨(some 16), .pick (.t 13) (.k (.s (.b true))) (.t 15), none⟩,
      ⟨(some 17), .mv (.t 16), none⟩,
      ⟨(some 18), .mv (.t 2), (some (17, false))⟩,
      ⟨(some 19), .bin .geq (.t 18) (.k (.s (.i .i64 8))), (some (17, false))⟩,
      ⟨(some 20), .pick (.t 17) (.k (.s (.b true))) (.t 19), none⟩])
    (.cond (.t 20)
     (.seq (.reg [⟨(some 6), .mv (.k (.s (.i .i64 1))), none⟩])
      (.ret))
     (.skip)))
   (.seq (.reg [⟨(some 21), .mv (.t 0), none⟩,
     ⟨(some 22), .fa (.t 4) 0, none⟩,
     ⟨(some 23), .ld (.t 22) none, none⟩,
     ⟨(some 24), .fa (.t 4) 1, none⟩,
     ⟨(some 25), .ld (.t 24) none, none⟩,
     ⟨(some 26), .call 75 [(.t 21), (.t 23), (.t 25)], none⟩,
     ⟨(some 8), .mv (.t 26), none⟩])
   (.seq (.seq (.reg [⟨(some 27), .mv (.t 8), none⟩,
      ⟨(some 28), .bin .lss (.t 27) (.k (.s (.i .i64 0))), none⟩])
    (.cond (.t 28)
     (.reg [⟨(some 29), .mv (.t 2), none⟩,
       ⟨(some 8), .mv (.t 29), none⟩])
     (.skip)))
   (.seq (.drt 6 [⟨(some 30), .mv (.t 0), none⟩,
     ⟨(some 31), .mv (.t 8), none⟩,
     ⟨(some 32), .ld (.t 4) (some 4), none⟩,
     ⟨(some 33), .nil (.t 30), none⟩,
     ⟨(some 34), .fa (.t 33) 0, none⟩,
     ⟨(some 35), .ia (some 8) 4 (.t 34) (.t 31), none⟩,
     ⟨none, .st (.t 35) (.t 32) 4, none⟩])
   (.seq (.reg [⟨(some 6), .mv (.k (.s (.i .i64 0))), none⟩])
   (.ret))))))), [.t 6]⟩
theorem dc74 : compF Try.prog Try.f74 = some df74 := by kernel_rfl
theorem ok74 : FnOk Try.prog 74 := ⟨Try.f74, Try.func74, by kernel_rfl, by kernel_rfl⟩

/-- (*citadel/citadelref04.Tlb).at -/
def df75 : DF :=
  ⟨43, .seq (.reg [⟨(some 6), .mv (.k (.s (.i .i64 0))), none⟩])
   (.seq (.seq (.reg [⟨(some 7), .mv (.k (.s (.i .i64 0))), none⟩])
    (.block 0 (.loop (.seq (.seq (.reg [⟨(some 8), .mv (.t 7), none⟩,
         ⟨(some 9), .bin .lss (.t 8) (.k (.s (.i .i64 8))), none⟩])
       (.cond (.t 9)
        (.skip)
        (.exit 0)))
      (.seq (.block 1 (.seq (.reg [⟨(some 12), .mv (.t 0), none⟩,
          ⟨(some 13), .mv (.t 7), none⟩,
          ⟨(some 14), .nil (.t 12), none⟩,
          ⟨(some 15), .fa (.t 14) 0, none⟩,
          ⟨(some 16), .ia (some 8) 4 (.t 15) (.t 13), none⟩,
          ⟨(some 17), .fa (.t 16) 0, none⟩,
          ⟨(some 18), .ld (.t 17) none, none⟩,
          ⟨(some 19), .bin .neq (.t 18) (.k (.s (.i .i64 0))), none⟩,
          ⟨(some 20), .mv (.t 19), none⟩,
          ⟨(some 21), .mv (.t 0), (some (20, true))⟩,
          ⟨(some 22), .mv (.t 7), (some (20, true))⟩,
          ⟨(some 23), .nil (.t 21), (some (20, true))⟩,
          ⟨(some 24), .fa (.t 23) 0, (some (20, true))⟩,
          ⟨(some 25), .ia (some 8) 4 (.t 24) (.t 22), (some (20, true))⟩,
          ⟨(some 26), .fa (.t 25) 0, (some (20, true))⟩,
          ⟨(some 27), .ld (.t 26) none, (some (20, true))⟩,
          ⟨(some 28), .mv (.t 1), (some (20, true))⟩,
          ⟨(some 29), .bin .eql (.t 27) (.t 28), (some (20, true))⟩,
          ⟨(some 30), .pick (.t 20) (.t 29) (.k (.s (.b false))), none⟩,
          ⟨(some 31), .mv (.t 30), none⟩,
          ⟨(some 32), .mv (.t 0), (some (31, true))⟩,
          ⟨(some 33), .mv (.t 7), (some (31, true))⟩,
          ⟨(some 34), .nil (.t 32), (some (31, true))⟩,
          ⟨(some 35), .fa (.t 34) 0, (some (31, true))⟩,
          ⟨(some 36), .ia (some 8) 4 (.t 35) (.t 33), (some (31, true))⟩,
          ⟨(some 37), .fa (.t 36) 1, (some (31, true))⟩,
          ⟨(some 38), .ld (.t 37) none, (some (31, true))⟩,
          ⟨(some 39), .mv (.t 2), (some (31, true))⟩,
          ⟨(some 40), .bin .eql (.t 38) (.t 39), (some (31, true))⟩,
          ⟨(some 41), .pick (.t 31) (.t 40) (.k (.s (.b false))), none⟩])
        (.cond (.t 41)
         (.seq (.reg [⟨(some 42), .mv (.t 7), none⟩,
            ⟨(some 6), .mv (.t 42), none⟩])
          (.ret))
         (.skip))))
      (.reg [⟨(some 10), .mv (.t 7), none⟩,
       ⟨(some 11), .bin .add (.t 10) (.k (.s (.i .i64 1))), none⟩,
       ⟨(some 7), .mv (.t 11), none⟩]))))))
   (.seq (.reg [⟨(some 6), .mv (.k (.s (.i .i64 (-1)))), none⟩])
   (.ret))), [.t 6]⟩
theorem dc75 : compF Try.prog Try.f75 = some df75 := by kernel_rfl
theorem ok75 : FnOk Try.prog 75 := ⟨Try.f75, Try.func75, by kernel_rfl, by kernel_rfl⟩

/-- citadel/citadelref04.May -/
def df76 : DF :=
  ⟨47, .seq (.reg [⟨(some 1), .box (.t 0), none⟩,
     ⟨(some 2), .mv (.k (.s (.b false))), none⟩])
   (.seq (.reg [⟨(some 3), .fa (.t 1) 0, none⟩,
     ⟨(some 4), .ld (.t 3) none, none⟩,
     ⟨(some 5), .bin .geq (.t 4) (.k (.s (.i .i64 1))), none⟩,
     ⟨(some 6), .mv (.t 5), none⟩,
     ⟨(some 7), .fa (.t 1) 0, (some (6, true))⟩,
     ⟨(some 8), .ld (.t 7) none, (some (6, true))⟩,
     ⟨(some 9), .bin .lss (.t 8) (.k (.s (.i .i64 64))), (some (6, true))⟩,
     ⟨(some 10), .pick (.t 6) (.t 9) (.k (.s (.b false))), none⟩,
     ⟨(some 11), .mv (.t 10), none⟩,
     ⟨(some 12), .fa (.t 1) 1, (some (11, true))⟩,
     ⟨(some 13), .ld (.t 12) none, (some (11, true))⟩,
     ⟨(some 14), .bin .geq (.t 13) (.k (.s (.i .i64 0))), (some (11, true))⟩,
     ⟨(some 15), .pick (.t 11) (.t 14) (.k (.s (.b false))), none⟩,
     ⟨(some 16), .mv (.t 15), none⟩,
     ⟨(some 17), .fa (.t 1) 1, (some (16, true))⟩,
     ⟨(some 18), .ld (.t 17) none, (some (16, true))⟩,
     ⟨(some 19), .bin .lss (.t 18) (.k (.s (.i .i64 4096))), (some (16, true))⟩,
     ⟨(some 20), .pick (.t 16) (.t 19) (.k (.s (.b false))), none⟩,
     ⟨(some 21), .mv (.t 20), none⟩,
     ⟨(some 22), .fa (.t 1) 2, (some (21, true))⟩,
     ⟨(some 23), .ld (.t 22) none, (some (21, true))⟩,
     ⟨(some 24), .bin .geq (.t 23) (.k (.s (.i .i64 16))), (some (21, true))⟩,
     ⟨(some 25), .pick (.t 21) (.t 24) (.k (.s (.b false))), none⟩,
     ⟨(some 26), .mv (.t 25), none⟩,
     ⟨(some 27), .fa (.t 1) 2, (some (26, true))⟩,
     ⟨(some 28), .ld (.t 27) none, (some (26, true))⟩,
     ⟨(some 29), .bin .leq (.t 28) (.k (.s (.i .i64 65520))), (some (26, true))⟩,
     ⟨(some 30), .pick (.t 26) (.t 29) (.k (.s (.b false))), none⟩,
     ⟨(some 31), .mv (.t 30), none⟩,
     ⟨(some 32), .fa (.t 1) 2, (some (31, true))⟩,
     ⟨(some 33), .ld (.t 32) none, (some (31, true))⟩,
     ⟨(some 34), .bin .rem (.t 33) (.k (.s (.i .i64 16))), (some (31, true))⟩,
     ⟨(some 35), .bin .eql (.t 34) (.k (.s (.i .i64 0))), (some (31, true))⟩,
     ⟨(some 36), .pick (.t 31) (.t 35) (.k (.s (.b false))), none⟩,
     ⟨(some 37), .mv (.t 36), none⟩,
     ⟨(some 38), .fa (.t 1) 3, (some (37, true))⟩,
     ⟨(some 39), .ld (.t 38) none, (some (37, true))⟩,
     ⟨(some 40), .bin .geq (.t 39) (.k (.s (.i .i64 0))), (some (37, true))⟩,
     ⟨(some 41), .pick (.t 37) (.t 40) (.k (.s (.b false))), none⟩,
     ⟨(some 42), .mv (.t 41), none⟩,
     ⟨(some 43), .fa (.t 1) 3, (some (42, true))⟩,
     ⟨(some 44), .ld (.t 43) none, (some (42, true))⟩,
     ⟨(some 45), .bin .leq (.t 44) (.k (.s (.i .i64 3))), (some (42, true))⟩,
     ⟨(some 46), .pick (.t 42) (.t 45) (.k (.s (.b false))), none⟩,
     ⟨(some 2), .mv (.t 46), none⟩])
   (.ret)), [.t 2]⟩
theorem dc76 : compF Try.prog Try.f76 = some df76 := by kernel_rfl
theorem ok76 : FnOk Try.prog 76 := ⟨Try.f76, Try.func76, by kernel_rfl, by kernel_rfl⟩

theorem mixed : Try.prog.follows .mixedOrders = true := by kernel_rfl
end Go.Proofs.Yteeeidldknlblaa

