/- The small code of the functions of this seat, printed by a program, and that the model's code compiles to it. -/
import Derived.Test.YtkdamkfkgnnbeaaProg
import Derived.Test.YtkdamkfkgnnbeaaDQ
import Derived.KernelRfl
namespace Go.Proofs.Ytkdamkfkgnnbeaa
open Go.D
set_option maxRecDepth 100000

/-- citadel/citadellaw04.TlbFull -/
def df3 : DF :=
  ⟨209, .seq (.reg [⟨(some 4), .box (.t 1), none⟩,
     ⟨(some 6), .mv (.k (.s (.b false))), none⟩])
   (.seq (.reg [⟨(some 24), .call 7 [], none⟩,
     ⟨(some 7), .mv (.t 24), none⟩])
   (.seq (.reg [⟨(some 25), .call 8 [], none⟩,
     ⟨(some 8), .mv (.t 25), none⟩])
   (.seq (.seq (.reg [⟨(some 26), .mv (.t 8), none⟩,
      ⟨(some 27), .eqn false false (.t 26), none⟩])
    (.cond (.t 27)
     (.seq (.reg [⟨(some 6), .mv (.k (.s (.b false))), none⟩])
      (.ret))
     (.skip)))
   (.seq (.reg [⟨(some 9), .mv (.k (.s (.ns))), none⟩])
   (.seq (.seq (.reg [⟨(some 10), .mv (.k (.s (.i .i64 0))), none⟩])
    (.block 0 (.loop (.seq (.seq (.reg [⟨(some 28), .mv (.t 10), none⟩,
         ⟨(some 29), .mv (.t 0), none⟩,
         ⟨(some 30), .len (.t 29), none⟩,
         ⟨(some 31), .bin .lss (.t 28) (.t 30), none⟩,
         ⟨(some 32), .mv (.t 31), none⟩,
         ⟨(some 33), .mv (.t 9), (some (32, true))⟩,
         ⟨(some 34), .len (.t 33), (some (32, true))⟩,
         ⟨(some 35), .bin .lss (.t 34) (.k (.s (.i .i64 8))), (some (32, true))⟩,
         ⟨(some 36), .pick (.t 32) (.t 35) (.k (.s (.b false))), none⟩])
       (.cond (.t 36)
        (.skip)
        (.exit 0)))
      (.seq (.block 1 (.seq (.drq [⟨(some 39), .mv (.t 0), none⟩,
          ⟨(some 40), .mv (.t 10), none⟩,
          ⟨(some 41), .ia none 4 (.t 39) (.t 40), none⟩,
          ⟨(some 42), .fa (.t 41) 0, none⟩,
          ⟨(some 43), .ld (.t 42) none, none⟩,
          ⟨(some 44), .fa (.t 4) 0, none⟩,
          ⟨(some 45), .ld (.t 44) none, none⟩,
          ⟨(some 46), .bin .neq (.t 43) (.t 45), none⟩,
          ⟨(some 47), .mv (.t 46), none⟩,
          ⟨(some 48), .mv (.t 0), (some (47, false))⟩,
          ⟨(some 49), .mv (.t 10), (some (47, false))⟩,
          ⟨(some 50), .ia none 4 (.t 48) (.t 49), (some (47, false))⟩,
          ⟨(some 51), .fa (.t 50) 1, (some (47, false))⟩,
          ⟨(some 52), .ld (.t 51) none, (some (47, false))⟩,
          ⟨(some 53), .fa (.t 4) 1, (some (47, false))⟩,
          ⟨(some 54), .ld (.t 53) none, (some (47, false))⟩,
          ⟨(some 55), .bin .neq (.t 52) (.t 54), (some (47, false))⟩,
          ⟨(some 56), .pick (.t 47) (.k (.s (.b true))) (.t 55), none⟩,
          ⟨(some 11), .mv (.t 56), none⟩])
        (.seq (.seq (.reg [⟨(some 12), .mv (.k (.s (.i .i64 0))), none⟩])
         (.block 2 (.loop (.seq (.seq (.reg [⟨(some 57), .mv (.t 12), none⟩,
              ⟨(some 58), .mv (.t 9), none⟩,
              ⟨(some 59), .len (.t 58), none⟩,
              ⟨(some 60), .bin .lss (.t 57) (.t 59), none⟩])
            (.cond (.t 60)
             (.skip)
             (.exit 2)))
           (.seq (.block 3 (.drq [⟨(some 63), .mv (.t 11), none⟩,
              ⟨(some 64), .mv (.t 63), none⟩,
              ⟨(some 65), .mv (.t 9), (some (64, true))⟩,
              ⟨(some 66), .mv (.t 12), (some (64, true))⟩,
              ⟨(some 67), .ia none 4 (.t 65) (.t 66), (some (64, true))⟩,
              ⟨(some 68), .fa (.t 67) 0, (some (64, true))⟩,
              ⟨(some 69), .ld (.t 68) none, (some (64, true))⟩,
              ⟨(some 70), .mv (.t 0), (some (64, true))⟩,
              ⟨(some 71), .mv (.t 10), (some (64, true))⟩,
              ⟨(some 72), .ia none 4 (.t 70) (.t 71), (some (64, true))⟩,
              ⟨(some 73), .fa (.t 72) 0, (some (64, true))⟩,
              ⟨(some 74), .ld (.t 73) none, (some (64, true))⟩,
              ⟨(some 75), .bin .neq (.t 69) (.t 74), (some (64, true))⟩,
              ⟨(some 76), .mv (.t 75), (some (64, true))⟩,
              ⟨(some 77), .mv (.t 9), (some (76, false))⟩,
              ⟨(some 78), .mv (.t 12), (some (76, false))⟩,
              ⟨(some 79), .ia none 4 (.t 77) (.t 78), (some (76, false))⟩,
              ⟨(some 80), .fa (.t 79) 1, (some (76, false))⟩,
              ⟨(some 81), .ld (.t 80) none, (some (76, false))⟩,
              ⟨(some 82), .mv (.t 0), (some (76, false))⟩,
              ⟨(some 83), .mv (.t 10), (some (76, false))⟩,
              ⟨(some 84), .ia none 4 (.t 82) (.t 83), (some (76, false))⟩,
              ⟨(some 85), .fa (.t 84) 1, (some (76, false))⟩,
              ⟨(some 86), .ld (.t 85) none, (some (76, false))⟩,
              ⟨(some 87), .bin .neq (.t 81) (.t 86), (some (76, false))⟩,
              ⟨(some 88), .pick (.t 76) (.k (.s (.b true))) (.t 87), (some (64, true))⟩,
              ⟨(some 89), .pick (.t 64) (.t 88) (.k (.s (.b false))), none⟩,
              ⟨(some 11), .mv (.t 89), none⟩]))
           (.reg [⟨(some 61), .mv (.t 12), none⟩,
            ⟨(some 62), .bin .add (.t 61) (.k (.s (.i .i64 1))), none⟩,
            ⟨(some 12), .mv (.t 62), none⟩]))))))
        (.seq (.seq (.reg [⟨(some 90), .mv (.t 11), none⟩,
           ⟨(some 91), .un .not (.t 90), none⟩])
         (.cond (.t 91)
          (.exit 1)
          (.skip)))
        (.seq (.reg [⟨(some 92), .mv (.t 8), none⟩,
          ⟨(some 93), .mv (.t 0), none⟩,
          ⟨(some 94), .mv (.t 10), none⟩,
          ⟨(some 95), .ia none 4 (.t 93) (.t 94), none⟩,
          ⟨(some 96), .ld (.t 95) (some 4), none⟩,
          ⟨(some 97), .mv (.t 9), none⟩,
          ⟨(some 98), .len (.t 97), none⟩,
          ⟨(some 99), .call 9 [(.t 92), (.t 96), (.t 98)], none⟩,
          ⟨(some 13), .mv (.t 99), none⟩])
        (.seq (.reg [⟨(some 100), .mv (.t 13), none⟩,
          ⟨(some 101), .bin .eql (.t 100) (.k (.s (.i .i64 0))), none⟩])
        (.cond (.t 101)
         (.reg [⟨(some 102), .mv (.t 9), none⟩,
           ⟨(some 103), .mv (.t 0), none⟩,
           ⟨(some 104), .mv (.t 10), none⟩,
           ⟨(some 105), .ia none 4 (.t 103) (.t 104), none⟩,
           ⟨(some 106), .ld (.t 105) (some 4), none⟩,
           ⟨(some 107), .bsl 1 [.i .i64 0, .i .i64 0, .i .i64 0, .i .i64 0] [(0, 4, (.t 106))], none⟩,
           ⟨(some 108), .app 4 32 (.t 102) (.t 107), none⟩,
           ⟨(some 9), .mv (.t 108), none⟩])
         (.skip))))))))
      (.reg [⟨(some 37), .mv (.t 10), none⟩,
       ⟨(some 38), .bin .add (.t 37) (.k (.s (.i .i64 1))), none⟩,
       ⟨(some 10), .mv (.t 38), none⟩]))))))
   (.seq (.seq (.reg [⟨(some 14), .mv (.k (.s (.i .i64 0))), none⟩])
    (.block 4 (.loop (.seq (.seq (.reg [⟨(some 109), .mv (.t 14), none⟩,
         ⟨(some 110), .mv (.t 9), none⟩,
         ⟨(some 111), .len (.t 110), none⟩,
         ⟨(some 112), .bin .lss (.t 109) (.t 111), none⟩])
       (.cond (.t 112)
        (.skip)
        (.exit 4)))
      (.seq (.block 5 (.seq (.drm [(true, ⟨(some 116), .mv (.t 8), none⟩),
          (true, ⟨(some 117), .mv (.t 9), none⟩),
          (true, ⟨(some 118), .mv (.t 14), none⟩),
          (true, ⟨(some 119), .ia none 4 (.t 117) (.t 118), none⟩),
          (true, ⟨(some 120), .fa (.t 119) 0, none⟩),
          (true, ⟨(some 121), .ld (.t 120) none, none⟩),
          (true, ⟨(some 122), .mv (.t 9), none⟩),
          (true, ⟨(some 123), .mv (.t 14), none⟩),
          (true, ⟨(some 124), .ia none 4 (.t 122) (.t 123), none⟩),
          (true, ⟨(some 125), .fa (.t 124) 1, none⟩),
          (true, ⟨(some 126), .ld (.t 125) none, none⟩),
          (false, ⟨(some 127), .call 10 [(.t 116), (.t 121), (.t 126)], none⟩),
          (true, ⟨(some 115), .mv (.t 127), none⟩),
          (true, ⟨(some 128), .ext (.t 115) 0, none⟩),
          (true, ⟨(some 129), .ext (.t 115) 1, none⟩),
          (true, ⟨(some 130), .ext (.t 115) 2, none⟩),
          (true, ⟨(some 15), .mv (.t 128), none⟩),
          (true, ⟨(some 16), .mv (.t 129), none⟩),
          (true, ⟨(some 17), .mv (.t 130), none⟩)])
        (.seq (.reg [⟨(some 131), .mv (.t 17), none⟩,
          ⟨(some 132), .un .not (.t 131), none⟩,
          ⟨(some 133), .mv (.t 132), none⟩,
          ⟨(some 134), .mv (.t 15), (some (133, false))⟩,
          ⟨(some 135), .mv (.t 9), (some (133, false))⟩,
          ⟨(some 136), .mv (.t 14), (some (133, false))⟩,
          ⟨(some 137), .ia none 4 (.t 135) (.t 136), (some (133, false))⟩,
          ⟨(some 138), .fa (.t 137) 2, (some (133, false))⟩,
          ⟨(some 139), .ld (.t 138) none, (some (133, false))⟩,
          ⟨(some 140), .bin .neq (.t 134) (.t 139), (some (133, false))⟩,
          ⟨(some 141), .pick (.t 133) (.k (.s (.b true))) (.t 140), none⟩,
          ⟨(some 142), .mv (.t 141), none⟩,
          ⟨(some 143), .mv (.t 16), (some (142, false))⟩,
          ⟨(some 144), .mv (.t 9), (some (142, false))⟩,
          ⟨(some 145), .mv (.t 14), (some (142, false))⟩,
          ⟨(some 146), .ia none 4 (.t 144) (.t 145), (some (142, false))⟩,
          ⟨(some 147), .fa (.t 146) 3, (some (142, false))⟩,
          ⟨(some 148), .ld (.t 147) none, (some (142, false))⟩,
          ⟨(some 149), .bin .neq (.t 143) (.t 148), (some (142, false))⟩,
          ⟨(some 150), .pick (.t 142) (.k (.s (.b true))) (.t 149), none⟩])
        (.cond (.t 150)
         (.seq (.reg [⟨(some 6), .mv (.k (.s (.b false))), none⟩])
          (.ret))
         (.skip)))))
      (.reg [⟨(some 113), .mv (.t 14), none⟩,
       ⟨(some 114), .bin .add (.t 113) (.k (.s (.i .i64 1))), none⟩,
       ⟨(some 14), .mv (.t 114), none⟩]))))))
   (.seq (.reg [⟨(some 151), .mv (.t 8), none⟩,
     ⟨(some 152), .ld (.t 4) (some 4), none⟩,
     ⟨(some 153), .mv (.t 2), none⟩,
     ⟨(some 154), .call 9 [(.t 151), (.t 152), (.t 153)], none⟩,
     ⟨(some 18), .mv (.t 154), none⟩])
   (.seq (.seq (.reg [⟨(some 19), .mv (.k (.s (.i .i64 0))), none⟩])
    (.block 6 (.loop (.seq (.seq (.reg [⟨(some 155), .mv (.t 19), none⟩,
         ⟨(some 156), .mv (.t 9), none⟩,
         ⟨(some 157), .len (.t 156), none⟩,
         ⟨(some 158), .bin .lss (.t 155) (.t 157), none⟩])
       (.cond (.t 158)
        (.skip)
        (.exit 6)))
      (.seq (.block 7 (.seq (.drm [(true, ⟨(some 162), .mv (.t 8), none⟩),
          (true, ⟨(some 163), .mv (.t 9), none⟩),
          (true, ⟨(some 164), .mv (.t 19), none⟩),
          (true, ⟨(some 165), .ia none 4 (.t 163) (.t 164), none⟩),
          (true, ⟨(some 166), .fa (.t 165) 0, none⟩),
          (true, ⟨(some 167), .ld (.t 166) none, none⟩),
          (true, ⟨(some 168), .mv (.t 9), none⟩),
          (true, ⟨(some 169), .mv (.t 19), none⟩),
          (true, ⟨(some 170), .ia none 4 (.t 168) (.t 169), none⟩),
          (true, ⟨(some 171), .fa (.t 170) 1, none⟩),
          (true, ⟨(some 172), .ld (.t 171) none, none⟩),
          (false, ⟨(some 173), .call 10 [(.t 162), (.t 167), (.t 172)], none⟩),
          (true, ⟨(some 161), .mv (.t 173), none⟩),
          (true, ⟨(some 174), .ext (.t 161) 0, none⟩),
          (true, ⟨(some 175), .ext (.t 161) 1, none⟩),
          (true, ⟨(some 176), .ext (.t 161) 2, none⟩),
          (true, ⟨(some 20), .mv (.t 174), none⟩),
          (true, ⟨(some 21), .mv (.t 175), none⟩),
          (true, ⟨(some 22), .mv (.t 176), none⟩)])
        (.seq (.reg [⟨(some 177), .mv (.t 18), none⟩,
          ⟨(some 178), .bin .eql (.t 177) (.k (.s (.i .i64 0))), none⟩,
          ⟨(some 179), .mv (.t 178), none⟩,
          ⟨(some 180), .mv (.t 19), (some (179, true))⟩,
          ⟨(some 181), .mv (.t 2), (some (179, true))⟩,
          ⟨(some 182), .bin .eql (.t 180) (.t 181), (some (179, true))⟩,
          ⟨(some 183), .pick (.t 179) (.t 182) (.k (.s (.b false))), none⟩,
          ⟨(some 23), .mv (.t 183), none⟩])
        (.seq (.reg [⟨(some 184), .mv (.t 22), none⟩,
          ⟨(some 185), .mv (.t 23), none⟩,
          ⟨(some 186), .eqb false (.t 184) (.t 185), none⟩,
          ⟨(some 187), .mv (.t 186), none⟩,
          ⟨(some 188), .mv (.t 22), (some (187, false))⟩,
          ⟨(some 189), .mv (.t 188), (some (187, false))⟩,
          ⟨(some 190), .mv (.t 20), (some (189, true))⟩,
          ⟨(some 191), .mv (.t 9), (some (189, true))⟩,
          ⟨(some 192), .mv (.t 19), (some (189, true))⟩,
          ⟨(some 193), .ia none 4 (.t 191) (.t 192), (some (189, true))⟩,
          ⟨(some 194), .fa (.t 193) 2, (some (189, true))⟩,
          ⟨(some 195), .ld (.t 194) none, (some (189, true))⟩,
          ⟨(some 196), .bin .neq (.t 190) (.t 195), (some (189, true))⟩,
          ⟨(some 197), .mv (.t 196), (some (189, true))⟩,
          ⟨(some 198), .mv (.t 21), (some (197, false))⟩,
          ⟨(some 199), .mv (.t 9), (some (197, false))⟩,
          ⟨(some 200), .mv (.t 19), (some (197, false))⟩,
          ⟨(some 201), .ia none 4 (.t 199) (.t 200), (some (197, false))⟩,
          ⟨(some 202), .fa (.t 201) 3, (some (197, false))⟩,
          ⟨(some 203), .ld (.t 202) none, (some (197, false))⟩,
          ⟨(some 204), .bin .neq (.t 198) (.t 203), (some (197, false))⟩,
          ⟨(some 205), .pick (.t 197) (.k (.s (.b true))) (.t 204), (some (189, true))⟩,
          ⟨(some 206), .pick (.t 189) (.t 205) (.k (.s (.b false))), (some (187, false))⟩,
          ⟨(some 207), .pick (.t 187) (.k (.s (.b true))) (.t 206), none⟩])
        (.cond (.t 207)
         (.seq (.reg [⟨(some 6), .mv (.k (.s (.b false))), none⟩])
          (.ret))
         (.skip))))))
      (.reg [⟨(some 159), .mv (.t 19), none⟩,
       ⟨(some 160), .bin .add (.t 159) (.k (.s (.i .i64 1))), none⟩,
       ⟨(some 19), .mv (.t 160), none⟩]))))))
   (.seq (.reg [⟨(some 208), .mv (.t 7), none⟩,
     ⟨(some 6), .mv (.t 208), none⟩])
   (.ret)))))))))), [.t 6]⟩
theorem dc3 : compF Try.prog Try.f3 = some df3 := by kernel_rfl
theorem ok3 : FnOk Try.prog 3 := ⟨Try.f3, Try.func3, by kernel_rfl, by kernel_rfl⟩

/-- citadel/citadellaw04.TlbFlushed -/
def df4 : DF :=
  ⟨134, .seq (.reg [⟨(some 1), .box (.t 0), none⟩,
     ⟨(some 2), .mv (.k (.s (.b false))), none⟩])
   (.seq (.reg [⟨(some 17), .fa (.t 1) 0, none⟩,
     ⟨(some 18), .ld (.t 17) none, none⟩,
     ⟨(some 3), .mv (.t 18), none⟩])
   (.seq (.reg [⟨(some 19), .fa (.t 1) 1, none⟩,
     ⟨(some 20), .ld (.t 19) (some 6), none⟩,
     ⟨(some 4), .new [.i .i64 0, .i .i64 0, .i .i64 0, .i .i64 0, .i .i64 0, .i .i64 0], none⟩,
     ⟨none, .st (.t 4) (.t 20) 6, none⟩])
   (.seq (.reg [⟨(some 21), .fa (.t 1) 7, none⟩,
     ⟨(some 22), .ld (.t 21) none, none⟩,
     ⟨(some 5), .mv (.t 22), none⟩])
   (.seq (.reg [⟨(some 23), .fa (.t 1) 8, none⟩,
     ⟨(some 24), .ld (.t 23) none, none⟩,
     ⟨(some 6), .mv (.t 24), none⟩])
   (.seq (.seq (.reg [⟨(some 25), .mv (.t 3), none⟩,
      ⟨(some 26), .len (.t 25), none⟩,
      ⟨(some 27), .bin .gtr (.t 26) (.k (.s (.i .i64 2147483647))), none⟩])
    (.cond (.t 27)
     (.seq (.reg [⟨(some 2), .mv (.k (.s (.b true))), none⟩])
      (.ret))
     (.skip)))
   (.seq (.reg [⟨(some 28), .call 7 [], none⟩,
     ⟨(some 7), .mv (.t 28), none⟩])
   (.seq (.reg [⟨(some 29), .call 8 [], none⟩,
     ⟨(some 8), .mv (.t 29), none⟩])
   (.seq (.seq (.reg [⟨(some 30), .mv (.t 8), none⟩,
      ⟨(some 31), .eqn false false (.t 30), none⟩])
    (.cond (.t 31)
     (.seq (.reg [⟨(some 2), .mv (.k (.s (.b false))), none⟩])
      (.ret))
     (.skip)))
   (.seq (.seq (.reg [⟨(some 9), .mv (.k (.s (.i .i64 0))), none⟩])
    (.block 0 (.loop (.seq (.seq (.reg [⟨(some 32), .mv (.t 9), none⟩,
         ⟨(some 33), .mv (.t 3), none⟩,
         ⟨(some 34), .len (.t 33), none⟩,
         ⟨(some 35), .bin .lss (.t 32) (.t 34), none⟩])
       (.cond (.t 35)
        (.skip)
        (.exit 0)))
      (.seq (.block 1 (.drt 11 [⟨(some 38), .mv (.t 8), none⟩,
         ⟨(some 39), .mv (.t 3), none⟩,
         ⟨(some 40), .mv (.t 9), none⟩,
         ⟨(some 41), .ia none 6 (.t 39) (.t 40), none⟩,
         ⟨(some 42), .fa (.t 41) 1, none⟩,
         ⟨(some 43), .ld (.t 42) (some 4), none⟩,
         ⟨(some 44), .mv (.t 3), none⟩,
         ⟨(some 45), .mv (.t 9), none⟩,
         ⟨(some 46), .ia none 6 (.t 44) (.t 45), none⟩,
         ⟨(some 47), .fa (.t 46) 5, none⟩,
         ⟨(some 48), .ld (.t 47) none, none⟩,
         ⟨(some 49), .call 9 [(.t 38), (.t 43), (.t 48)], none⟩]))
      (.reg [⟨(some 36), .mv (.t 9), none⟩,
       ⟨(some 37), .bin .add (.t 36) (.k (.s (.i .i64 1))), none⟩,
       ⟨(some 9), .mv (.t 37), none⟩]))))))
   (.seq (.reg [⟨(some 51), .mv (.t 8), none⟩,
     ⟨(some 52), .mv (.t 5), none⟩,
     ⟨(some 53), .mv (.t 6), none⟩,
     ⟨(some 54), .call 10 [(.t 51), (.t 52), (.t 53)], none⟩,
     ⟨(some 50), .mv (.t 54), none⟩,
     ⟨(some 55), .ext (.t 50) 0, none⟩,
     ⟨(some 56), .ext (.t 50) 1, none⟩,
     ⟨(some 57), .ext (.t 50) 2, none⟩,
     ⟨(some 10), .mv (.t 55), none⟩,
     ⟨(some 11), .mv (.t 56), none⟩,
     ⟨(some 12), .mv (.t 57), none⟩])
   (.seq (.reg [⟨(some 13), .mv (.k (.s (.b true))), none⟩])
   (.seq (.seq (.reg [⟨(some 58), .fa (.t 4) 0, none⟩,
      ⟨(some 59), .ld (.t 58) none, none⟩])
    (.block 2 (.seq (.reg [⟨(some 63), .bin .eql (.t 59) (.k (.s (.i .i64 4))), none⟩,
       ⟨(some 62), .mv (.t 63), none⟩])
     (.cond (.t 62)
      (.seq (.reg [⟨(some 64), .mv (.t 8), none⟩,
         ⟨(some 65), .fa (.t 4) 1, none⟩,
         ⟨(some 66), .fa (.t 65) 0, none⟩,
         ⟨(some 67), .ld (.t 66) none, none⟩,
         ⟨(some 68), .fa (.t 4) 1, none⟩,
         ⟨(some 69), .fa (.t 68) 1, none⟩,
         ⟨(some 70), .ld (.t 69) none, none⟩,
         ⟨(some 71), .call 11 [(.t 64), (.t 67), (.t 70)], none⟩])
       (.reg [⟨(some 72), .fa (.t 4) 1, none⟩,
        ⟨(some 73), .fa (.t 72) 0, none⟩,
        ⟨(some 74), .ld (.t 73) none, none⟩,
        ⟨(some 75), .mv (.t 5), none⟩,
        ⟨(some 76), .bin .eql (.t 74) (.t 75), none⟩,
        ⟨(some 77), .mv (.t 76), none⟩,
        ⟨(some 78), .fa (.t 4) 1, (some (77, true))⟩,
        ⟨(some 79), .fa (.t 78) 1, (some (77, true))⟩,
        ⟨(some 80), .ld (.t 79) none, (some (77, true))⟩,
        ⟨(some 81), .mv (.t 6), (some (77, true))⟩,
        ⟨(some 82), .bin .eql (.t 80) (.t 81), (some (77, true))⟩,
        ⟨(some 83), .pick (.t 77) (.t 82) (.k (.s (.b false))), none⟩,
        ⟨(some 13), .mv (.t 83), none⟩]))
      (.seq (.reg [⟨(some 85), .bin .eql (.t 59) (.k (.s (.i .i64 5))), none⟩,
         ⟨(some 84), .mv (.t 85), none⟩])
       (.cond (.t 84)
        (.seq (.reg [⟨(some 86), .mv (.t 8), none⟩,
           ⟨(some 87), .fa (.t 4) 1, none⟩,
           ⟨(some 88), .fa (.t 87) 0, none⟩,
           ⟨(some 89), .ld (.t 88) none, none⟩,
           ⟨(some 90), .call 12 [(.t 86), (.t 89)], none⟩])
         (.reg [⟨(some 91), .fa (.t 4) 1, none⟩,
          ⟨(some 92), .fa (.t 91) 0, none⟩,
          ⟨(some 93), .ld (.t 92) none, none⟩,
          ⟨(some 94), .mv (.t 5), none⟩,
          ⟨(some 95), .bin .eql (.t 93) (.t 94), none⟩,
          ⟨(some 13), .mv (.t 95), none⟩]))
        (.reg [⟨(some 60), .mv (.t 8), none⟩,
          ⟨(some 61), .call 13 [(.t 60)], none⟩])))))))
   (.seq (.reg [⟨(some 97), .mv (.t 8), none⟩,
     ⟨(some 98), .mv (.t 5), none⟩,
     ⟨(some 99), .mv (.t 6), none⟩,
     ⟨(some 100), .call 10 [(.t 97), (.t 98), (.t 99)], none⟩,
     ⟨(some 96), .mv (.t 100), none⟩,
     ⟨(some 101), .ext (.t 96) 0, none⟩,
     ⟨(some 102), .ext (.t 96) 1, none⟩,
     ⟨(some 103), .ext (.t 96) 2, none⟩,
     ⟨(some 14), .mv (.t 101), none⟩,
     ⟨(some 15), .mv (.t 102), none⟩,
     ⟨(some 16), .mv (.t 103), none⟩])
   (.seq (.seq (.reg [⟨(some 104), .mv (.t 13), none⟩])
    (.cond (.t 104)
     (.seq (.reg [⟨(some 105), .mv (.t 7), none⟩,
        ⟨(some 106), .mv (.t 105), none⟩,
        ⟨(some 107), .mv (.t 16), (some (106, true))⟩,
        ⟨(some 108), .un .not (.t 107), (some (106, true))⟩,
        ⟨(some 109), .pick (.t 106) (.t 108) (.k (.s (.b false))), none⟩,
        ⟨(some 110), .mv (.t 109), none⟩,
        ⟨(some 111), .mv (.t 14), (some (110, true))⟩,
        ⟨(some 112), .bin .eql (.t 111) (.k (.s (.i .i64 0))), (some (110, true))⟩,
        ⟨(some 113), .pick (.t 110) (.t 112) (.k (.s (.b false))), none⟩,
        ⟨(some 114), .mv (.t 113), none⟩,
        ⟨(some 115), .mv (.t 15), (some (114, true))⟩,
        ⟨(some 116), .bin .eql (.t 115) (.k (.s (.i .i64 0))), (some (114, true))⟩,
        ⟨(some 117), .pick (.t 114) (.t 116) (.k (.s (.b false))), none⟩,
        ⟨(some 2), .mv (.t 117), none⟩])
      (.ret))
     (.skip)))
   (.seq (.reg [⟨(some 118), .mv (.t 7), none⟩,
     ⟨(some 119), .mv (.t 118), none⟩,
     ⟨(some 120), .mv (.t 16), (some (119, true))⟩,
     ⟨(some 121), .mv (.t 12), (some (119, true))⟩,
     ⟨(some 122), .eqb false (.t 120) (.t 121), (some (119, true))⟩,
     ⟨(some 123), .pick (.t 119) (.t 122) (.k (.s (.b false))), none⟩,
     ⟨(some 124), .mv (.t 123), none⟩,
     ⟨(some 125), .mv (.t 14), (some (124, true))⟩,
     ⟨(some 126), .mv (.t 10), (some (124, true))⟩,
     ⟨(some 127), .bin .eql (.t 125) (.t 126), (some (124, true))⟩,
     ⟨(some 128), .pick (.t 124) (.t 127) (.k (.s (.b false))), none⟩,
     ⟨(some 129), .mv (.t 128), none⟩,
     ⟨(some 130), .mv (.t 15), (some (129, true))⟩,
     ⟨(some 131), .mv (.t 11), (some (129, true))⟩,
     ⟨(some 132), .bin .eql (.t 130) (.t 131), (some (129, true))⟩,
     ⟨(some 133), .pick (.t 129) (.t 132) (.k (.s (.b false))), none⟩,
     ⟨(some 2), .mv (.t 133), none⟩])
   (.ret)))))))))))))))), [.t 2]⟩
theorem dc4 : compF Try.prog Try.f4 = some df4 := by kernel_rfl
theorem ok4 : FnOk Try.prog 4 := ⟨Try.f4, Try.func4, by kernel_rfl, by kernel_rfl⟩

/-- citadel/citadellaw04.TlbPlays -/
def df5 : DF :=
  ⟨48, .seq (.reg [⟨(some 2), .mv (.k (.s (.b false))), none⟩])
   (.seq (.seq (.reg [⟨(some 10), .mv (.t 0), none⟩,
      ⟨(some 11), .len (.t 10), none⟩,
      ⟨(some 12), .bin .gtr (.t 11) (.k (.s (.i .i64 2147483647))), none⟩])
    (.cond (.t 12)
     (.seq (.reg [⟨(some 2), .mv (.k (.s (.b true))), none⟩])
      (.ret))
     (.skip)))
   (.seq (.reg [⟨(some 13), .call 7 [], none⟩,
     ⟨(some 3), .mv (.t 13), none⟩])
   (.seq (.reg [⟨(some 14), .call 8 [], none⟩,
     ⟨(some 4), .mv (.t 14), none⟩])
   (.seq (.reg [⟨(some 15), .build [.i .i64 0, .i .i64 0, .i .i64 0, .i .i64 0, .i .i64 0, .i .i64 0, .i .i64 0, .i .i64 0, .i .i64 0, .i .i64 0, .i .i64 0, .i .i64 0, .i .i64 0, .i .i64 0, .i .i64 0, .i .i64 0, .i .i64 0, .i .i64 0, .i .i64 0, .i .i64 0, .i .i64 0, .i .i64 0, .i .i64 0, .i .i64 0, .i .i64 0, .i .i64 0, .i .i64 0, .i .i64 0, .i .i64 0, .i .i64 0, .i .i64 0, .i .i64 0] [], none⟩,
     ⟨(some 16), .box (.t 15), none⟩,
     ⟨(some 5), .mv (.t 16), none⟩])
   (.seq (.seq (.reg [⟨(some 17), .mv (.t 4), none⟩,
      ⟨(some 18), .eqn false false (.t 17), none⟩])
    (.cond (.t 18)
     (.seq (.reg [⟨(some 2), .mv (.k (.s (.b false))), none⟩])
      (.ret))
     (.skip)))
   (.seq (.seq (.reg [⟨(some 6), .mv (.k (.s (.i .i64 0))), none⟩])
    (.block 0 (.loop (.seq (.seq (.reg [⟨(some 19), .mv (.t 6), none⟩,
         ⟨(some 20), .mv (.t 0), none⟩,
         ⟨(some 21), .len (.t 20), none⟩,
         ⟨(some 22), .bin .lss (.t 19) (.t 21), none⟩])
       (.cond (.t 22)
        (.skip)
        (.exit 0)))
      (.seq (.block 1 (.seq (.reg [⟨(some 25), .mv (.t 4), none⟩,
          ⟨(some 26), .mv (.t 5), none⟩,
          ⟨(some 27), .mv (.t 0), none⟩,
          ⟨(some 28), .mv (.t 6), none⟩,
          ⟨(some 29), .ia none 6 (.t 27) (.t 28), none⟩,
          ⟨(some 30), .ld (.t 29) (some 6), none⟩,
          ⟨(some 31), .call 14 [(.t 25), (.t 26), (.t 30)], none⟩,
          ⟨(some 7), .mv (.t 31), none⟩])
        (.seq (.reg [⟨(some 32), .mv (.t 4), none⟩,
          ⟨(some 33), .mv (.t 5), none⟩,
          ⟨(some 34), .call 15 [(.t 32), (.t 33)], none⟩,
          ⟨(some 8), .mv (.t 34), none⟩])
        (.seq (.reg [⟨(some 35), .mv (.t 7), none⟩,
          ⟨(some 36), .un .not (.t 35), none⟩,
          ⟨(some 37), .mv (.t 36), none⟩,
          ⟨(some 38), .mv (.t 8), (some (37, false))⟩,
          ⟨(some 39), .un .not (.t 38), (some (37, false))⟩,
          ⟨(some 40), .pick (.t 37) (.k (.s (.b true))) (.t 39), none⟩])
        (.cond (.t 40)
         (.seq (.reg [⟨(some 2), .mv (.k (.s (.b false))), none⟩])
          (.ret))
         (.skip))))))
      (.reg [⟨(some 23), .mv (.t 6), none⟩,
       ⟨(some 24), .bin .add (.t 23) (.k (.s (.i .i64 1))), none⟩,
       ⟨(some 6), .mv (.t 24), none⟩]))))))
   (.seq (.reg [⟨(some 41), .mv (.t 4), none⟩,
     ⟨(some 42), .mv (.t 5), none⟩,
     ⟨(some 43), .call 15 [(.t 41), (.t 42)], none⟩,
     ⟨(some 9), .mv (.t 43), none⟩])
   (.seq (.reg [⟨(some 44), .mv (.t 3), none⟩,
     ⟨(some 45), .mv (.t 44), none⟩,
     ⟨(some 46), .mv (.t 9), (some (45, true))⟩,
     ⟨(some 47), .pick (.t 45) (.t 46) (.k (.s (.b false))), none⟩,
     ⟨(some 2), .mv (.t 47), none⟩])
   (.ret))))))))), [.t 2]⟩
theorem dc5 : compF Try.prog Try.f5 = some df5 := by kernel_rfl
theorem ok5 : FnOk Try.prog 5 := ⟨Try.f5, Try.func5, by kernel_rfl, by kernel_rfl⟩

/-- citadel/citadellaw04.TlbHonest -/
def df6 : DF :=
  ⟨226, .seq (.reg [⟨(some 2), .mv (.k (.s (.b false))), none⟩])
   (.seq (.seq (.reg [⟨(some 18), .mv (.t 0), none⟩,
      ⟨(some 19), .len (.t 18), none⟩,
      ⟨(some 20), .bin .gtr (.t 19) (.k (.s (.i .i64 2147483647))), none⟩])
    (.cond (.t 20)
     (.seq (.reg [⟨(some 2), .mv (.k (.s (.b true))), none⟩])
      (.ret))
     (.skip)))
   (.seq (.reg [⟨(some 21), .call 7 [], none⟩,
     ⟨(some 3), .mv (.t 21), none⟩])
   (.seq (.reg [⟨(some 22), .call 8 [], none⟩,
     ⟨(some 4), .mv (.t 22), none⟩])
   (.seq (.seq (.reg [⟨(some 23), .mv (.t 4), none⟩,
      ⟨(some 24), .eqn false false (.t 23), none⟩])
    (.cond (.t 24)
     (.seq (.reg [⟨(some 2), .mv (.k (.s (.b false))), none⟩])
      (.ret))
     (.skip)))
   (.seq (.reg [⟨(some 5), .mv (.k (.s (.ns))), none⟩])
   (.seq (.seq (.reg [⟨(some 6), .mv (.k (.s (.i .i64 0))), none⟩])
    (.block 0 (.loop (.seq (.seq (.reg [⟨(some 25), .mv (.t 6), none⟩,
         ⟨(some 26), .mv (.t 0), none⟩,
         ⟨(some 27), .len (.t 26), none⟩,
         ⟨(some 28), .bin .lss (.t 25) (.t 27), none⟩])
       (.cond (.t 28)
        (.skip)
        (.exit 0)))
      (.seq (.block 1 (.seq (.reg [⟨(some 31), .mv (.t 0), none⟩,
          ⟨(some 32), .mv (.t 6), none⟩,
          ⟨(some 33), .ia none 6 (.t 31) (.t 32), none⟩,
          ⟨(some 34), .ld (.t 33) (some 6), none⟩,
          ⟨(some 7), .new [.i .i64 0, .i .i64 0, .i .i64 0, .i .i64 0, .i .i64 0, .i .i64 0], none⟩,
          ⟨none, .st (.t 7) (.t 34) 6, none⟩])
        (.seq (.reg [⟨(some 8), .mv (.k (.s (.ns))), none⟩])
        (.seq (.reg [⟨(some 9), .mv (.k (.s (.i .i64 0))), none⟩])
        (.seq (.seq (.reg [⟨(some 35), .fa (.t 7) 0, none⟩,
           ⟨(some 36), .ld (.t 35) none, none⟩])
         (.block 2 (.seq (.reg [⟨(some 38), .bin .eql (.t 36) (.k (.s (.i .i64 2))), none⟩,
            ⟨(some 37), .mv (.t 38), none⟩])
          (.cond (.t 37)
           (.reg [⟨(some 39), .mv (.t 4), none⟩,
             ⟨(some 40), .fa (.t 7) 1, none⟩,
             ⟨(some 41), .ld (.t 40) (some 4), none⟩,
             ⟨(some 42), .fa (.t 7) 5, none⟩,
             ⟨(some 43), .ld (.t 42) none, none⟩,
             ⟨(some 44), .call 9 [(.t 39), (.t 41), (.t 43)], none⟩,
             ⟨(some 9), .mv (.t 44), none⟩])
           (.seq (.reg [⟨(some 46), .bin .eql (.t 36) (.k (.s (.i .i64 3))), none⟩,
              ⟨(some 45), .mv (.t 46), none⟩])
            (.cond (.t 45)
             (.reg [⟨(some 47), .mv (.t 4), none⟩,
               ⟨(some 48), .fa (.t 7) 5, none⟩,
               ⟨(some 49), .ld (.t 48) none, none⟩,
               ⟨(some 50), .call 16 [(.t 47), (.t 49)], none⟩])
             (.seq (.reg [⟨(some 52), .bin .eql (.t 36) (.k (.s (.i .i64 4))), none⟩,
                ⟨(some 51), .mv (.t 52), none⟩])
              (.cond (.t 51)
               (.reg [⟨(some 53), .mv (.t 4), none⟩,
                 ⟨(some 54), .fa (.t 7) 1, none⟩,
                 ⟨(some 55), .fa (.t 54) 0, none⟩,
                 ⟨(some 56), .ld (.t 55) none, none⟩,
                 ⟨(some 57), .fa (.t 7) 1, none⟩,
                 ⟨(some 58), .fa (.t 57) 1, none⟩,
                 ⟨(some 59), .ld (.t 58) none, none⟩,
                 ⟨(some 60), .call 11 [(.t 53), (.t 56), (.t 59)], none⟩])
               (.seq (.reg [⟨(some 62), .bin .eql (.t 36) (.k (.s (.i .i64 5))), none⟩,
                  ⟨(some 61), .mv (.t 62), none⟩])
                (.cond (.t 61)
                 (.reg [⟨(some 63), .mv (.t 4), none⟩,
                   ⟨(some 64), .fa (.t 7) 1, none⟩,
                   ⟨(some 65), .fa (.t 64) 0, none⟩,
                   ⟨(some 66), .ld (.t 65) none, none⟩,
                   ⟨(some 67), .call 12 [(.t 63), (.t 66)], none⟩])
                 (.seq (.reg [⟨(some 69), .bin .eql (.t 36) (.k (.s (.i .i64 6))), none⟩,
                    ⟨(some 68), .mv (.t 69), none⟩])
                  (.cond (.t 68)
                   (.reg [⟨(some 70), .mv (.t 4), none⟩,
                     ⟨(some 71), .call 13 [(.t 70)], none⟩])
                   (.skip)))))))))))))
        (.seq (.seq (.reg [⟨(some 10), .mv (.k (.s (.i .i64 0))), none⟩])
         (.block 3 (.loop (.seq (.seq (.reg [⟨(some 72), .mv (.t 10), none⟩,
              ⟨(some 73), .mv (.t 5), none⟩,
              ⟨(some 74), .len (.t 73), none⟩,
              ⟨(some 75), .bin .lss (.t 72) (.t 74), none⟩])
            (.cond (.t 75)
             (.skip)
             (.exit 3)))
           (.seq (.block 4 (.seq (.drq [⟨(some 78), .mv (.t 5), none⟩,
               ⟨(some 79), .mv (.t 10), none⟩,
               ⟨(some 80), .ia none 4 (.t 78) (.t 79), none⟩,
               ⟨(some 81), .fa (.t 80) 0, none⟩,
               ⟨(some 82), .ld (.t 81) none, none⟩,
               ⟨(some 83), .fa (.t 7) 1, none⟩,
               ⟨(some 84), .fa (.t 83) 0, none⟩,
               ⟨(some 85), .ld (.t 84) none, none⟩,
               ⟨(some 86), .bin .eql (.t 82) (.t 85), none⟩,
               ⟨(some 87), .mv (.t 86), none⟩,
               ⟨(some 88), .mv (.t 5), (some (87, true))⟩,
               ⟨(some 89), .mv (.t 10), (some (87, true))⟩,
               ⟨(some 90), .ia none 4 (.t 88) (.t 89), (some (87, true))⟩,
               ⟨(some 91), .fa (.t 90) 1, (some (87, true))⟩,
               ⟨(some 92), .ld (.t 91) none, (some (87, true))⟩,
               ⟨(some 93), .fa (.t 7) 1, (some (87, true))⟩,
               ⟨(some 94), .fa (.t 93) 1, (some (87, true))⟩,
               ⟨(some 95), .ld (.t 94) none, (some (87, true))⟩,
               ⟨(some 96), .bin .eql (.t 92) (.t 95), (some (87, true))⟩,
               ⟨(some 97), .pick (.t 87) (.t 96) (.k (.s (.b false))), none⟩,
               ⟨(some 11), .mv (.t 97), none⟩])
             (.seq (.drq [⟨(some 98), .fa (.t 7) 0, none⟩,
               ⟨(some 99), .ld (.t 98) none, none⟩,
               ⟨(some 100), .bin .eql (.t 99) (.k (.s (.i .i64 2))), none⟩,
               ⟨(some 101), .mv (.t 100), none⟩,
               ⟨(some 102), .mv (.t 9), (some (101, true))⟩,
               ⟨(some 103), .bin .eql (.t 102) (.k (.s (.i .i64 0))), (some (101, true))⟩,
               ⟨(some 104), .pick (.t 101) (.t 103) (.k (.s (.b false))), none⟩,
               ⟨(some 105), .mv (.t 104), none⟩,
               ⟨(some 106), .mv (.t 11), (some (105, true))⟩,
               ⟨(some 107), .pick (.t 105) (.t 106) (.k (.s (.b false))), none⟩,
               ⟨(some 108), .mv (.t 107), none⟩,
               ⟨(some 109), .fa (.t 7) 0, (some (108, false))⟩,
               ⟨(some 110), .ld (.t 109) none, (some (108, false))⟩,
               ⟨(some 111), .bin .eql (.t 110) (.k (.s (.i .i64 4))), (some (108, false))⟩,
               ⟨(some 112), .mv (.t 111), (some (108, false))⟩,
               ⟨(some 113), .mv (.t 11), (some (112, true))⟩,
               ⟨(some 114), .pick (.t 112) (.t 113) (.k (.s (.b false))), (some (108, false))⟩,
               ⟨(some 115), .pick (.t 108) (.k (.s (.b true))) (.t 114), none⟩,
               ⟨(some 116), .mv (.t 115), none⟩,
               ⟨(some 117), .fa (.t 7) 0, (some (116, false))⟩,
               ⟨(some 118), .ld (.t 117) none, (some (116, false))⟩,
               ⟨(some 119), .bin .eql (.t 118) (.k (.s (.i .i64 5))), (some (116, false))⟩,
               ⟨(some 120), .mv (.t 119), (some (116, false))⟩,
               ⟨(some 121), .mv (.t 5), (some (120, true))⟩,
               ⟨(some 122), .mv (.t 10), (some (120, true))⟩,
               ⟨(some 123), .ia none 4 (.t 121) (.t 122), (some (120, true))⟩,
               ⟨(some 124), .fa (.t 123) 0, (some (120, true))⟩,
               ⟨(some 125), .ld (.t 124) none, (some (120, true))⟩,
               ⟨(some 126), .fa (.t 7) 1, (some (120, true))⟩,
               ⟨(some 127), .fa (.t 126) 0, (some (120, true))⟩,
               ⟨(some 128), .ld (.t 127) none, (some (120, true))⟩,
               ⟨(some 129), .bin .eql (.t 125) (.t 128), (some (120, true))⟩,
               ⟨(some 130), .pick (.t 120) (.t 129) (.k (.s (.b false))), (some (116, false))⟩,
               ⟨(some 131), .pick (.t 116) (.k (.s (.b true))) (.t 130), none⟩,
               ⟨(some 132), .mv (.t 131), none⟩,
               ⟨(some 133), .fa (.t 7) 0, (some (132, false))⟩,
               ⟨(some 134), .ld (.t 133) none, (some (132, false))⟩,
               ⟨(some 135), .bin .eql (.t 134) (.k (.s (.i .i64 6))), (some (132, false))⟩,
               ⟨(some 136), .pick (.t 132) (.k (.s (.b true))) (.t 135), none⟩,
               ⟨(some 12), .mv (.t 136), none⟩])
             (.seq (.reg [⟨(some 137), .mv (.t 12), none⟩,
               ⟨(some 138), .un .not (.t 137), none⟩])
             (.cond (.t 138)
              (.reg [⟨(some 139), .mv (.t 8), none⟩,
                ⟨(some 140), .mv (.t 5), none⟩,
                ⟨(some 141), .mv (.t 10), none⟩,
                ⟨(some 142), .ia none 4 (.t 140) (.t 141), none⟩,
                ⟨(some 143), .ld (.t 142) (some 4), none⟩,
                ⟨(some 144), .bsl 1 [.i .i64 0, .i .i64 0, .i .i64 0, .i .i64 0] [(0, 4, (.t 143))], none⟩,
                ⟨(some 145), .app 4 32 (.t 139) (.t 144), none⟩,
                ⟨(some 8), .mv (.t 145), none⟩])
              (.skip))))))
           (.reg [⟨(some 76), .mv (.t 10), none⟩,
            ⟨(some 77), .bin .add (.t 76) (.k (.s (.i .i64 1))), none⟩,
            ⟨(some 10), .mv (.t 77), none⟩]))))))
        (.seq (.seq (.reg [⟨(some 146), .fa (.t 7) 0, none⟩,
           ⟨(some 147), .ld (.t 146) none, none⟩,
           ⟨(some 148), .bin .eql (.t 147) (.k (.s (.i .i64 2))), none⟩,
           ⟨(some 149), .mv (.t 148), none⟩,
           ⟨(some 150), .mv (.t 9), (some (149, true))⟩,
           ⟨(some 151), .bin .eql (.t 150) (.k (.s (.i .i64 0))), (some (149, true))⟩,
           ⟨(some 152), .pick (.t 149) (.t 151) (.k (.s (.b false))), none⟩])
         (.cond (.t 152)
          (.reg [⟨(some 153), .mv (.t 8), none⟩,
            ⟨(some 154), .fa (.t 7) 1, none⟩,
            ⟨(some 155), .ld (.t 154) (some 4), none⟩,
            ⟨(some 156), .bsl 1 [.i .i64 0, .i .i64 0, .i .i64 0, .i .i64 0] [(0, 4, (.t 155))], none⟩,
            ⟨(some 157), .app 4 32 (.t 153) (.t 156), none⟩,
            ⟨(some 8), .mv (.t 157), none⟩])
          (.skip)))
        (.seq (.reg [⟨(some 158), .mv (.t 8), none⟩,
          ⟨(some 5), .mv (.t 158), none⟩])
        (.seq (.reg [⟨(some 159), .mv (.t 4), none⟩,
          ⟨(some 160), .call 17 [(.t 159)], none⟩,
          ⟨(some 13), .mv (.t 160), none⟩])
        (.seq (.reg [⟨(some 14), .mv (.k (.s (.i .i64 0))), none⟩])
        (.block 5 (.loop (.seq (.seq (.reg [⟨(some 161), .mv (.t 14), none⟩,
             ⟨(some 162), .mv (.t 13), none⟩,
             ⟨(some 163), .len (.t 162), none⟩,
             ⟨(some 164), .bin .lss (.t 161) (.t 163), none⟩])
           (.cond (.t 164)
            (.skip)
            (.exit 5)))
          (.seq (.block 6 (.seq (.seq (.reg [⟨(some 167), .mv (.t 13), none⟩,
               ⟨(some 168), .mv (.t 14), none⟩,
               ⟨(some 169), .ia none 4 (.t 167) (.t 168), none⟩,
               ⟨(some 170), .ld (.t 169) (some 4), none⟩,
               ⟨(some 171), .build [.i .i64 0, .i .i64 0, .i .i64 0, .i .i64 0] [], none⟩,
               ⟨(some 172), .eqa false [true, true, true, true] (.t 170) (.t 171), none⟩])
             (.cond (.t 172)
              (.exit 6)
              (.skip)))
            (.seq (.reg [⟨(some 15), .mv (.k (.s (.b false))), none⟩])
            (.seq (.seq (.reg [⟨(some 16), .mv (.k (.s (.i .i64 0))), none⟩])
             (.block 7 (.loop (.seq (.seq (.reg [⟨(some 173), .mv (.t 16), none⟩,
                  ⟨(some 174), .mv (.t 5), none⟩,
                  ⟨(some 175), .len (.t 174), none⟩,
                  ⟨(some 176), .bin .lss (.t 173) (.t 175), none⟩])
                (.cond (.t 176)
                 (.skip)
                 (.exit 7)))
               (.seq (.block 8 (.drq [⟨(some 179), .mv (.t 15), none⟩,
                  ⟨(some 180), .mv (.t 179), none⟩,
                  ⟨(some 181), .mv (.t 5), (some (180, false))⟩,
                  ⟨(some 182), .mv (.t 16), (some (180, false))⟩,
                  ⟨(some 183), .ia none 4 (.t 181) (.t 182), (some (180, false))⟩,
                  ⟨(some 184), .ld (.t 183) (some 4), (some (180, false))⟩,
                  ⟨(some 185), .mv (.t 13), (some (180, false))⟩,
                  ⟨(some 186), .mv (.t 14), (some (180, false))⟩,
                  ⟨(some 187), .ia none 4 (.t 185) (.t 186), (some (180, false))⟩,
                  ⟨(some 188), .ld (.t 187) (some 4), (some (180, false))⟩,
                  ⟨(some 189), .eqa false [true, true, true, true] (.t 184) (.t 188), (some (180, false))⟩,
                  ⟨(some 190), .pick (.t 180) (.k (.s (.b true))) (.t 189), none⟩,
                  ⟨(some 15), .mv (.t 190), none⟩]))
               (.reg [⟨(some 177), .mv (.t 16), none⟩,
                ⟨(some 178), .bin .add (.t 177) (.k (.s (.i .i64 1))), none⟩,
                ⟨(some 16), .mv (.t 178), none⟩]))))))
            (.seq (.seq (.reg [⟨(some 17), .mv (.k (.s (.i .i64 0))), none⟩])
             (.block 9 (.loop (.seq (.seq (.reg [⟨(some 191), .mv (.t 17), none⟩,
                  ⟨(some 192), .mv (.t 14), none⟩,
                  ⟨(some 193), .bin .lss (.t 191) (.t 192), none⟩])
                (.cond (.t 193)
                 (.skip)
                 (.exit 9)))
               (.seq (.block 10 (.drq [⟨(some 196), .mv (.t 15), none⟩,
                  ⟨(some 197), .mv (.t 196), none⟩,
                  ⟨(some 198), .mv (.t 13), (some (197, true))⟩,
                  ⟨(some 199), .mv (.t 17), (some (197, true))⟩,
                  ⟨(some 200), .ia none 4 (.t 198) (.t 199), (some (197, true))⟩,
                  ⟨(some 201), .fa (.t 200) 0, (some (197, true))⟩,
                  ⟨(some 202), .ld (.t 201) none, (some (197, true))⟩,
                  ⟨(some 203), .mv (.t 13), (some (197, true))⟩,
                  ⟨(some 204), .mv (.t 14), (some (197, true))⟩,
                  ⟨(some 205), .ia none 4 (.t 203) (.t 204), (some (197, true))⟩,
                  ⟨(some 206), .fa (.t 205) 0, (some (197, true))⟩,
                  ⟨(some 207), .ld (.t 206) none, (some (197, true))⟩,
                  ⟨(some 208), .bin .neq (.t 202) (.t 207), (some (197, true))⟩,
                  ⟨(some 209), .mv (.t 208), (some (197, true))⟩,
                  ⟨(some 210), .mv (.t 13), (some (209, false))⟩,
                  ⟨(some 211), .mv (.t 17), (some (209, false))⟩,
                  ⟨(some 212), .ia none 4 (.t 210) (.t 211), (some (209, false))⟩,
                  ⟨(some 213), .fa (.t 212) 1, (some (209, false))⟩,
                  ⟨(some 214), .ld (.t 213) none, (some (209, false))⟩,
                  ⟨(some 215), .mv (.t 13), (some (209, false))⟩,
                  ⟨(some 216), .mv (.t 14), (some (209, false))⟩,
                  ⟨(some 217), .ia none 4 (.t 215) (.t 216), (some (209, false))⟩,
                  ⟨(some 218), .fa (.t 217) 1, (some (209, false))⟩,
                  ⟨(some 219), .ld (.t 218) none, (some (209, false))⟩,
                  ⟨(some 220), .bin .neq (.t 214) (.t 219), (some (209, false))⟩,
                  ⟨(some 221), .pick (.t 209) (.k (.s (.b true))) (.t 220), (some (197, true))⟩,
                  ⟨(some 222), .pick (.t 197) (.t 221) (.k (.s (.b false))), none⟩,
                  ⟨(some 15), .mv (.t 222), none⟩]))
               (.reg [⟨(some 194), .mv (.t 17), none⟩,
                ⟨(some 195), .bin .add (.t 194) (.k (.s (.i .i64 1))), none⟩,
                ⟨(some 17), .mv (.t 195), none⟩]))))))
            (.seq (.reg [⟨(some 223), .mv (.t 15), none⟩,
              ⟨(some 224), .un .not (.t 223), none⟩])
            (.cond (.t 224)
             (.seq (.reg [⟨(some 2), .mv (.k (.s (.b false))), none⟩])
              (.ret))
             (.skip))))))))
          (.reg [⟨(some 165), .mv (.t 14), none⟩,
           ⟨(some 166), .bin .add (.t 165) (.k (.s (.i .i64 1))), none⟩,
           ⟨(some 14), .mv (.t 166), none⟩])))))))))))))))
      (.reg [⟨(some 29), .mv (.t 6), none⟩,
       ⟨(some 30), .bin .add (.t 29) (.k (.s (.i .i64 1))), none⟩,
       ⟨(some 6), .mv (.t 30), none⟩]))))))
   (.seq (.reg [⟨(some 225), .mv (.t 3), none⟩,
     ⟨(some 2), .mv (.t 225), none⟩])
   (.ret)))))))), [.t 2]⟩
theorem dc6 : compF Try.prog Try.f6 = some df6 := by kernel_rfl
theorem ok6 : FnOk Try.prog 6 := ⟨Try.f6, Try.func6, by kernel_rfl, by kernel_rfl⟩

/-- citadel/citadellaw04.awake -/
def df7 : DF :=
  ⟨82, .seq (.reg [⟨(some 0), .mv (.k (.s (.b false))), none⟩])
   (.seq (.reg [⟨(some 12), .call 8 [], none⟩,
     ⟨(some 1), .mv (.t 12), none⟩])
   (.seq (.seq (.reg [⟨(some 13), .mv (.t 1), none⟩,
      ⟨(some 14), .eqn false false (.t 13), none⟩])
    (.cond (.t 14)
     (.seq (.reg [⟨(some 0), .mv (.k (.s (.b false))), none⟩])
      (.ret))
     (.skip)))
   (.seq (.reg [⟨(some 15), .mv (.t 1), none⟩,
     ⟨(some 16), .build [.i .i64 0, .i .i64 0, .i .i64 0, .i .i64 0] [(0, 1, (.k (.s (.i .i64 1)))), (1, 1, (.k (.s (.i .i64 7)))), (2, 1, (.k (.s (.i .i64 2048)))), (3, 1, (.k (.s (.i .i64 3))))], none⟩,
     ⟨(some 17), .call 9 [(.t 15), (.t 16), (.k (.s (.i .i64 0)))], none⟩,
     ⟨(some 2), .mv (.t 17), none⟩])
   (.seq (.reg [⟨(some 19), .mv (.t 1), none⟩,
     ⟨(some 20), .call 10 [(.t 19), (.k (.s (.i .i64 1))), (.k (.s (.i .i64 7)))], none⟩,
     ⟨(some 18), .mv (.t 20), none⟩,
     ⟨(some 21), .ext (.t 18) 0, none⟩,
     ⟨(some 22), .ext (.t 18) 1, none⟩,
     ⟨(some 23), .ext (.t 18) 2, none⟩,
     ⟨(some 3), .mv (.t 21), none⟩,
     ⟨(some 4), .mv (.t 22), none⟩,
     ⟨(some 5), .mv (.t 23), none⟩])
   (.seq (.reg [⟨(some 25), .mv (.t 1), none⟩,
     ⟨(some 26), .call 10 [(.t 25), (.k (.s (.i .i64 2))), (.k (.s (.i .i64 7)))], none⟩,
     ⟨(some 24), .mv (.t 26), none⟩,
     ⟨(some 27), .ext (.t 24) 0, none⟩,
     ⟨(some 28), .ext (.t 24) 1, none⟩,
     ⟨(some 29), .ext (.t 24) 2, none⟩,
     ⟨(some 6), .mv (.t 27), none⟩,
     ⟨(some 7), .mv (.t 28), none⟩,
     ⟨(some 8), .mv (.t 29), none⟩])
   (.seq (.reg [⟨(some 30), .mv (.t 1), none⟩,
     ⟨(some 31), .build [.i .i64 0, .i .i64 0, .i .i64 0, .i .i64 0] [(0, 1, (.k (.s (.i .i64 1)))), (1, 1, (.k (.s (.i .i64 7)))), (2, 1, (.k (.s (.i .i64 2064)))), (3, 1, (.k (.s (.i .i64 1))))], none⟩,
     ⟨(some 32), .call 9 [(.t 30), (.t 31), (.k (.s (.i .i64 5)))], none⟩,
     ⟨(some 9), .mv (.t 32), none⟩])
   (.seq (.reg [⟨(some 33), .mv (.t 1), none⟩,
     ⟨(some 34), .call 17 [(.t 33)], none⟩,
     ⟨(some 10), .mv (.t 34), none⟩])
   (.seq (.reg [⟨(some 35), .mv (.t 1), none⟩,
     ⟨(some 36), .build [.i .i64 0, .i .i64 0, .i .i64 0, .i .i64 0] [(0, 1, (.k (.s (.i .i64 1)))), (1, 1, (.k (.s (.i .i64 7)))), (2, 1, (.k (.s (.i .i64 2049)))), (3, 1, (.k (.s (.i .i64 1))))], none⟩,
     ⟨(some 37), .call 9 [(.t 35), (.t 36), (.k (.s (.i .i64 5)))], none⟩,
     ⟨(some 11), .mv (.t 37), none⟩])
   (.seq (.reg [⟨(some 38), .mv (.t 2), none⟩,
     ⟨(some 39), .bin .eql (.t 38) (.k (.s (.i .i64 0))), none⟩,
     ⟨(some 40), .mv (.t 39), none⟩,
     ⟨(some 41), .mv (.t 3), (some (40, true))⟩,
     ⟨(some 42), .bin .eql (.t 41) (.k (.s (.i .i64 2048))), (some (40, true))⟩,
     ⟨(some 43), .pick (.t 40) (.t 42) (.k (.s (.b false))), none⟩,
     ⟨(some 44), .mv (.t 43), none⟩,
     ⟨(some 45), .mv (.t 4), (some (44, true))⟩,
     ⟨(some 46), .bin .eql (.t 45) (.k (.s (.i .i64 3))), (some (44, true))⟩,
     ⟨(some 47), .pick (.t 44) (.t 46) (.k (.s (.b false))), none⟩,
     ⟨(some 48), .mv (.t 47), none⟩,
     ⟨(some 49), .mv (.t 5), (some (48, true))⟩,
     ⟨(some 50), .pick (.t 48) (.t 49) (.k (.s (.b false))), none⟩,
     ⟨(some 51), .mv (.t 50), none⟩,
     ⟨(some 52), .mv (.t 8), (some (51, true))⟩,
     ⟨(some 53), .un .not (.t 52), (some (51, true))⟩,
     ⟨(some 54), .pick (.t 51) (.t 53) (.k (.s (.b false))), none⟩,
     ⟨(some 55), .mv (.t 54), none⟩,
     ⟨(some 56), .mv (.t 9), (some (55, true))⟩,
     ⟨(some 57), .bin .eql (.t 56) (.k (.s (.i .i64 0))), (some (55, true))⟩,
     ⟨(some 58), .pick (.t 55) (.t 57) (.k (.s (.b false))), none⟩,
     ⟨(some 59), .mv (.t 58), none⟩,
     ⟨(some 60), .mv (.t 10), (some (59, true))⟩,
     ⟨(some 61), .len (.t 60), (some (59, true))⟩,
     ⟨(some 62), .bin .eql (.t 61) (.k (.s (.i .i64 8))), (some (59, true))⟩,
     ⟨(some 63), .pick (.t 59) (.t 62) (.k (.s (.b false))), none⟩,
     ⟨(some 64), .mv (.t 63), none⟩,
     ⟨(some 65), .mv (.t 10), (some (64, true))⟩,
     ⟨(some 66), .ia none 4 (.t 65) (.k (.s (.i .i64 0))), (some (64, true))⟩,
     ⟨(some 67), .fa (.t 66) 2, (some (64, true))⟩,
     ⟨(some 68), .ld (.t 67) none, (some (64, true))⟩,
     ⟨(some 69), .bin .eql (.t 68) (.k (.s (.i .i64 2064))), (some (64, true))⟩,
     ⟨(some 70), .pick (.t 64) (.t 69) (.k (.s (.b false))), none⟩,
     ⟨(some 71), .mv (.t 70), none⟩,
     ⟨(some 72), .mv (.t 10), (some (71, true))⟩,
     ⟨(some 73), .ia none 4 (.t 72) (.k (.s (.i .i64 5))), (some (71, true))⟩,
     ⟨(some 74), .ld (.t 73) (some 4), (some (71, true))⟩,
     ⟨(some 75), .build [.i .i64 0, .i .i64 0, .i .i64 0, .i .i64 0] [], (some (71, true))⟩,
     ⟨(some 76), .eqa false [true, true, true, true] (.t 74) (.t 75), (some (71, true))⟩,
     ⟨(some 77), .pick (.t 71) (.t 76) (.k (.s (.b false))), none⟩,
     ⟨(some 78), .mv (.t 77), none⟩,
     ⟨(some 79), .mv (.t 11), (some (78, true))⟩,
     ⟨(some 80), .bin .eql (.t 79) (.k (.s (.i .i64 1))), (some (78, true))⟩,
     ⟨(some 81), .pick (.t 78) (.t 80) (.k (.s (.b false))), none⟩,
     ⟨(some 0), .mv (.t 81), none⟩])
   (.ret)))))))))), [.t 0]⟩
theorem dc7 : compF Try.prog Try.f7 = some df7 := by kernel_rfl
theorem ok7 : FnOk Try.prog 7 := ⟨Try.f7, Try.func7, by kernel_rfl, by kernel_rfl⟩

/-- citadel/tlb.New -/
def df8 : DF :=
  ⟨3, .seq (.reg [⟨(some 0), .mv (.k (.s (.np))), none⟩])
   (.seq (.reg [⟨(some 1), .build [.i .i64 0, .i .i64 0, .i .i64 0, .i .i64 0, .i .i64 0, .i .i64 0, .i .i64 0, .i .i64 0, .i .i64 0, .i .i64 0, .i .i64 0, .i .i64 0, .i .i64 0, .i .i64 0, .i .i64 0, .i .i64 0, .i .i64 0, .i .i64 0, .i .i64 0, .i .i64 0, .i .i64 0, .i .i64 0, .i .i64 0, .i .i64 0, .i .i64 0, .i .i64 0, .i .i64 0, .i .i64 0, .i .i64 0, .i .i64 0, .i .i64 0, .i .i64 0] [], none⟩,
     ⟨(some 2), .box (.t 1), none⟩,
     ⟨(some 0), .mv (.t 2), none⟩])
   (.ret)), [.t 0]⟩
theorem dc8 : compF Try.prog Try.f8 = some df8 := by kernel_rfl
theorem ok8 : FnOk Try.prog 8 := ⟨Try.f8, Try.func8, by kernel_rfl, by kernel_rfl⟩

/-- (*citadel/tlb.Tlb).Fill -/
def df9 : DF :=
  ⟨56, .seq (.reg [⟨(some 4), .box (.t 1), none⟩,
     ⟨(some 6), .mv (.k (.s (.i .i64 0))), none⟩])
   (.seq (.seq (.reg [⟨(some 8), .fa (.t 4) 0, none⟩,
      ⟨(some 9), .ld (.t 8) none, none⟩,
      ⟨(some 10), .call 18 [(.t 9), (.k (.s (.i .i64 1))), (.k (.s (.i .i64 63)))], none⟩,
      ⟨(some 11), .un .not (.t 10), none⟩,
      ⟨(some 12), .mv (.t 11), none⟩,
      ⟨(some 13), .fa (.t 4) 1, (some (12, false))⟩,
      ⟨(some 14), .ld (.t 13) none, (some (12, false))⟩,
      ⟨(some 15), .call 18 [(.t 14), (.k (.s (.i .i64 0))), (.k (.s (.i .i64 4095)))], (some (12, false))⟩,
      ⟨(some 16), .un .not (.t 15), (some (12, false))⟩,
      ⟨(some 17), .pick (.t 12) (.k (.s (.b true))) (.t 16), none⟩,
      ⟨(some 18), .mv (.t 17), none⟩,
      ⟨(some 19), .fa (.t 4) 2, (some (18, false))⟩,
      ⟨(some 20), .ld (.t 19) none, (some (18, false))⟩,
      ⟨(some 21), .call 18 [(.t 20), (.k (.s (.i .i64 16))), (.k (.s (.i .i64 65520)))], (some (18, false))⟩,
      ⟨(some 22), .un .not (.t 21), (some (18, false))⟩,
      ⟨(some 23), .pick (.t 18) (.k (.s (.b true))) (.t 22), none⟩,
      ⟨(some 24), .mv (.t 23), none⟩,
      ⟨(some 25), .fa (.t 4) 2, (some (24, false))⟩,
      ⟨(some 26), .ld (.t 25) none, (some (24, false))⟩,
      ⟨(some 27), .bin .rem (.t 26) (.k (.s (.i .i64 16))), (some (24, false))⟩,
      ⟨(some 28), .bin .neq (.t 27) (.k (.s (.i .i64 0))), (some (24, false))⟩,
      ⟨(some 29), .pick (.t 24) (.k (.s (.b true))) (.t 28), none⟩,
      ⟨(some 30), .mv (.t 29), none⟩,
      ⟨(some 31), .fa (.t 4) 3, (some (30, false))⟩,
      ⟨(some 32), .ld (.t 31) none, (some (30, false))⟩,
      ⟨(some 33), .call 18 [(.t 32), (.k (.s (.i .i64 0))), (.k (.s (.i .i64 3)))], (some (30, false))⟩,
      ⟨(some 34), .un .not (.t 33), (some (30, false))⟩,
      ⟨(some 35), .pick (.t 30) (.k (.s (.b true))) (.t 34), none⟩,
      ⟨(some 36), .mv (.t 35), none⟩,
      ⟨(some 37), .mv (.t 2), (some (36, false))⟩,
      ⟨(some 38), .call 18 [(.t 37), (.k (.s (.i .i64 0))), (.k (.s (.i .i64 7)))], (some (36, false))⟩,
      ⟨(some 39), .un .not (.t 38), (some (36, false))⟩,
      ⟨(some 40), .pick (.t 36) (.k (.s (.b true))) (.t 39), none⟩])
    (.cond (.t 40)
     (.seq (.reg [⟨(some 6), .mv (.k (.s (.i .i64 1))), none⟩])
      (.ret))
     (.skip)))
   (.seq (.seq (.reg [⟨(some 41), .mv (.t 0), none⟩,
      ⟨(some 42), .fa (.t 4) 0, none⟩,
      ⟨(some 43), .ld (.t 42) none, none⟩,
      ⟨(some 44), .fa (.t 4) 1, none⟩,
      ⟨(some 45), .ld (.t 44) none, none⟩,
      ⟨(some 46), .call 19 [(.t 41), (.t 43), (.t 45)], none⟩,
      ⟨(some 7), .mv (.t 46), none⟩])
    (.seq (.reg [⟨(some 47), .mv (.t 7), none⟩,
      ⟨(some 48), .bin .geq (.t 47) (.k (.s (.i .i64 0))), none⟩])
    (.cond (.t 48)
     (.reg [⟨(some 49), .mv (.t 7), none⟩,
       ⟨(some 2), .mv (.t 49), none⟩])
     (.skip))))
   (.seq (.drt 6 [⟨(some 50), .mv (.t 0), none⟩,
     ⟨(some 51), .mv (.t 2), none⟩,
     ⟨(some 52), .ld (.t 4) (some 4), none⟩,
     ⟨(some 53), .nil (.t 50), none⟩,
     ⟨(some 54), .fa (.t 53) 0, none⟩,
     ⟨(some 55), .ia (some 8) 4 (.t 54) (.t 51), none⟩,
     ⟨none, .st (.t 55) (.t 52) 4, none⟩])
   (.seq (.reg [⟨(some 6), .mv (.k (.s (.i .i64 0))), none⟩])
   (.ret))))), [.t 6]⟩
theorem dc9 : compF Try.prog Try.f9 = some df9 := by kernel_rfl
theorem ok9 : FnOk Try.prog 9 := ⟨Try.f9, Try.func9, by kernel_rfl, by kernel_rfl⟩

/-- (*citadel/tlb.Tlb).Find -/
def df10 : DF :=
  ⟨30, .seq (.reg [⟨(some 6), .mv (.k (.s (.i .i64 0))), none⟩,
     ⟨(some 7), .mv (.k (.s (.i .i64 0))), none⟩,
     ⟨(some 8), .mv (.k (.s (.b false))), none⟩])
   (.seq (.reg [⟨(some 10), .mv (.t 0), none⟩,
     ⟨(some 11), .mv (.t 1), none⟩,
     ⟨(some 12), .mv (.t 2), none⟩,
     ⟨(some 13), .call 19 [(.t 10), (.t 11), (.t 12)], none⟩,
     ⟨(some 9), .mv (.t 13), none⟩])
   (.seq (.seq (.reg [⟨(some 14), .mv (.t 9), none⟩,
      ⟨(some 15), .bin .lss (.t 14) (.k (.s (.i .i64 0))), none⟩])
    (.cond (.t 15)
     (.seq (.reg [⟨(some 6), .mv (.k (.s (.i .i64 0))), none⟩,
        ⟨(some 7), .mv (.k (.s (.i .i64 0))), none⟩,
        ⟨(some 8), .mv (.k (.s (.b false))), none⟩])
      (.ret))
     (.skip)))
   (.seq (.drq [⟨(some 16), .mv (.t 0), none⟩,
     ⟨(some 17), .mv (.t 9), none⟩,
     ⟨(some 18), .nil (.t 16), none⟩,
     ⟨(some 19), .fa (.t 18) 0, none⟩,
     ⟨(some 20), .ia (some 8) 4 (.t 19) (.t 17), none⟩,
     ⟨(some 21), .fa (.t 20) 2, none⟩,
     ⟨(some 22), .ld (.t 21) none, none⟩,
     ⟨(some 23), .mv (.t 0), none⟩,
     ⟨(some 24), .mv (.t 9), none⟩,
     ⟨(some 25), .nil (.t 23), none⟩,
     ⟨(some 26), .fa (.t 25) 0, none⟩,
     ⟨(some 27), .ia (some 8) 4 (.t 26) (.t 24), none⟩,
     ⟨(some 28), .fa (.t 27) 3, none⟩,
     ⟨(some 29), .ld (.t 28) none, none⟩,
     ⟨(some 6), .mv (.t 22), none⟩,
     ⟨(some 7), .mv (.t 29), none⟩,
     ⟨(some 8), .mv (.k (.s (.b true))), none⟩])
   (.ret)))), [.t 6, .t 7, .t 8]⟩
theorem dc10 : compF Try.prog Try.f10 = some df10 := by kernel_rfl
theorem ok10 : FnOk Try.prog 10 := ⟨Try.f10, Try.func10, by kernel_rfl, by kernel_rfl⟩

/-- (*citadel/tlb.Tlb).FlushPage -/
def df11 : DF :=
  ⟨9, .seq (.reg [⟨(some 4), .box (.t 1), none⟩,
     ⟨(some 5), .box (.t 2), none⟩])
   (.reg [⟨(some 6), .mv (.t 0), none⟩,
    ⟨(some 7), .mkf 21 [(.t 4), (.t 5)], none⟩,
    ⟨(some 8), .call 20 [(.t 6), (.t 7)], none⟩]), []⟩
theorem dc11 : compF Try.prog Try.f11 = some df11 := by kernel_rfl
theorem ok11 : FnOk Try.prog 11 := ⟨Try.f11, Try.func11, by kernel_rfl, by kernel_rfl⟩

/-- (*citadel/tlb.Tlb).FlushAsid -/
def df12 : DF :=
  ⟨7, .seq (.reg [⟨(some 3), .box (.t 1), none⟩])
   (.reg [⟨(some 4), .mv (.t 0), none⟩,
    ⟨(some 5), .mkf 22 [(.t 3)], none⟩,
    ⟨(some 6), .call 20 [(.t 4), (.t 5)], none⟩]), []⟩
theorem dc12 : compF Try.prog Try.f12 = some df12 := by kernel_rfl
theorem ok12 : FnOk Try.prog 12 := ⟨Try.f12, Try.func12, by kernel_rfl, by kernel_rfl⟩

/-- (*citadel/tlb.Tlb).FlushAll -/
def df13 : DF :=
  ⟨4, .reg [⟨(some 2), .mv (.t 0), none⟩,
    ⟨(some 3), .call 20 [(.t 2), (.k (.s (.fn 23 [])))], none⟩], []⟩
theorem dc13 : compF Try.prog Try.f13 = some df13 := by kernel_rfl
theorem ok13 : FnOk Try.prog 13 := ⟨Try.f13, Try.func13, by kernel_rfl, by kernel_rfl⟩

/-- citadel/citadellaw04.plays -/
def df14 : DF :=
  ⟨122, .seq (.reg [⟨(some 5), .box (.t 2), none⟩,
     ⟨(some 6), .mv (.k (.s (.b false))), none⟩])
   (.seq (.reg [⟨(some 16), .fa (.t 5) 1, none⟩,
     ⟨(some 17), .fa (.t 16) 0, none⟩,
     ⟨(some 18), .ld (.t 17) none, none⟩,
     ⟨(some 19), .fa (.t 5) 1, none⟩,
     ⟨(some 20), .fa (.t 19) 1, none⟩,
     ⟨(some 21), .ld (.t 20) none, none⟩,
     ⟨(some 22), .fa (.t 5) 1, none⟩,
     ⟨(some 23), .fa (.t 22) 2, none⟩,
     ⟨(some 24), .ld (.t 23) none, none⟩,
     ⟨(some 25), .fa (.t 5) 1, none⟩,
     ⟨(some 26), .fa (.t 25) 3, none⟩,
     ⟨(some 27), .ld (.t 26) none, none⟩,
     ⟨(some 28), .build [.i .i64 0, .i .i64 0, .i .i64 0, .i .i64 0] [(0, 1, (.t 18)), (1, 1, (.t 21)), (2, 1, (.t 24)), (3, 1, (.t 27))], none⟩,
     ⟨(some 7), .new [.i .i64 0, .i .i64 0, .i .i64 0, .i .i64 0], none⟩,
     ⟨none, .st (.t 7) (.t 28) 4, none⟩])
   (.seq (.reg [⟨(some 8), .mv (.k (.s (.i .i64 0))), none⟩])
   (.seq (.reg [⟨(some 9), .mv (.k (.s (.i .i64 0))), none⟩])
   (.seq (.seq (.reg [⟨(some 29), .fa (.t 5) 0, none⟩,
      ⟨(some 30), .ld (.t 29) none, none⟩])
    (.block 0 (.seq (.reg [⟨(some 32), .bin .eql (.t 30) (.k (.s (.i .i64 1))), none⟩,
       ⟨(some 31), .mv (.t 32), none⟩])
     (.cond (.t 31)
      (.seq (.reg [⟨(some 34), .mv (.t 0), none⟩,
         ⟨(some 35), .fa (.t 7) 0, none⟩,
         ⟨(some 36), .ld (.t 35) none, none⟩,
         ⟨(some 37), .fa (.t 7) 1, none⟩,
         ⟨(some 38), .ld (.t 37) none, none⟩,
         ⟨(some 39), .call 10 [(.t 34), (.t 36), (.t 38)], none⟩,
         ⟨(some 33), .mv (.t 39), none⟩,
         ⟨(some 40), .ext (.t 33) 0, none⟩,
         ⟨(some 41), .ext (.t 33) 1, none⟩,
         ⟨(some 42), .ext (.t 33) 2, none⟩,
         ⟨(some 10), .mv (.t 40), none⟩,
         ⟨(some 11), .mv (.t 41), none⟩,
         ⟨(some 12), .mv (.t 42), none⟩])
       (.seq (.reg [⟨(some 44), .mv (.t 1), none⟩,
         ⟨(some 45), .fa (.t 7) 0, none⟩,
         ⟨(some 46), .ld (.t 45) none, none⟩,
         ⟨(some 47), .fa (.t 7) 1, none⟩,
         ⟨(some 48), .ld (.t 47) none, none⟩,
         ⟨(some 49), .call 24 [(.t 44), (.t 46), (.t 48)], none⟩,
         ⟨(some 43), .mv (.t 49), none⟩,
         ⟨(some 50), .ext (.t 43) 0, none⟩,
         ⟨(some 51), .ext (.t 43) 1, none⟩,
         ⟨(some 52), .ext (.t 43) 2, none⟩,
         ⟨(some 13), .mv (.t 50), none⟩,
         ⟨(some 14), .mv (.t 51), none⟩,
         ⟨(some 15), .mv (.t 52), none⟩])
       (.seq (.reg [⟨(some 53), .mv (.t 10), none⟩,
         ⟨(some 54), .mv (.t 13), none⟩,
         ⟨(some 55), .bin .eql (.t 53) (.t 54), none⟩,
         ⟨(some 56), .mv (.t 55), none⟩,
         ⟨(some 57), .mv (.t 11), (some (56, true))⟩,
         ⟨(some 58), .mv (.t 14), (some (56, true))⟩,
         ⟨(some 59), .bin .eql (.t 57) (.t 58), (some (56, true))⟩,
         ⟨(some 60), .pick (.t 56) (.t 59) (.k (.s (.b false))), none⟩,
         ⟨(some 61), .mv (.t 60), none⟩,
         ⟨(some 62), .mv (.t 12), (some (61, true))⟩,
         ⟨(some 63), .mv (.t 15), (some (61, true))⟩,
         ⟨(some 64), .eqb false (.t 62) (.t 63), (some (61, true))⟩,
         ⟨(some 65), .pick (.t 61) (.t 64) (.k (.s (.b false))), none⟩,
         ⟨(some 6), .mv (.t 65), none⟩])
       (.ret))))
      (.seq (.reg [⟨(some 67), .bin .eql (.t 30) (.k (.s (.i .i64 2))), none⟩,
         ⟨(some 66), .mv (.t 67), none⟩])
       (.cond (.t 66)
        (.seq (.reg [⟨(some 68), .mv (.t 0), none⟩,
           ⟨(some 69), .fa (.t 5) 1, none⟩,
           ⟨(some 70), .ld (.t 69) (some 4), none⟩,
           ⟨(some 71), .fa (.t 5) 5, none⟩,
           ⟨(some 72), .ld (.t 71) none, none⟩,
           ⟨(some 73), .call 9 [(.t 68), (.t 70), (.t 72)], none⟩,
           ⟨(some 8), .mv (.t 73), none⟩])
         (.reg [⟨(some 74), .mv (.t 1), none⟩,
          ⟨(some 75), .ld (.t 7) (some 4), none⟩,
          ⟨(some 76), .fa (.t 5) 5, none⟩,
          ⟨(some 77), .ld (.t 76) none, none⟩,
          ⟨(some 78), .call 25 [(.t 74), (.t 75), (.t 77)], none⟩,
          ⟨(some 9), .mv (.t 78), none⟩]))
        (.seq (.reg [⟨(some 80), .bin .eql (.t 30) (.k (.s (.i .i64 3))), none⟩,
           ⟨(some 79), .mv (.t 80), none⟩])
         (.cond (.t 79)
          (.seq (.reg [⟨(some 81), .mv (.t 0), none⟩,
             ⟨(some 82), .fa (.t 5) 5, none⟩,
             ⟨(some 83), .ld (.t 82) none, none⟩,
             ⟨(some 84), .call 16 [(.t 81), (.t 83)], none⟩,
             ⟨(some 8), .mv (.t 84), none⟩])
           (.reg [⟨(some 85), .mv (.t 1), none⟩,
            ⟨(some 86), .fa (.t 5) 5, none⟩,
            ⟨(some 87), .ld (.t 86) none, none⟩,
            ⟨(some 88), .call 26 [(.t 85), (.t 87)], none⟩,
            ⟨(some 9), .mv (.t 88), none⟩]))
          (.seq (.reg [⟨(some 90), .bin .eql (.t 30) (.k (.s (.i .i64 4))), none⟩,
             ⟨(some 89), .mv (.t 90), none⟩])
           (.cond (.t 89)
            (.seq (.reg [⟨(some 91), .mv (.t 0), none⟩,
               ⟨(some 92), .fa (.t 7) 0, none⟩,
               ⟨(some 93), .ld (.t 92) none, none⟩,
               ⟨(some 94), .fa (.t 7) 1, none⟩,
               ⟨(some 95), .ld (.t 94) none, none⟩,
               ⟨(some 96), .call 11 [(.t 91), (.t 93), (.t 95)], none⟩])
             (.reg [⟨(some 97), .mv (.t 1), none⟩,
              ⟨(some 98), .fa (.t 7) 0, none⟩,
              ⟨(some 99), .ld (.t 98) none, none⟩,
              ⟨(some 100), .fa (.t 7) 1, none⟩,
              ⟨(some 101), .ld (.t 100) none, none⟩,
              ⟨(some 102), .call 27 [(.t 97), (.t 99), (.t 101)], none⟩]))
            (.seq (.reg [⟨(some 104), .bin .eql (.t 30) (.k (.s (.i .i64 5))), none⟩,
               ⟨(some 103), .mv (.t 104), none⟩])
             (.cond (.t 103)
              (.seq (.reg [⟨(some 105), .mv (.t 0), none⟩,
                 ⟨(some 106), .fa (.t 7) 0, none⟩,
                 ⟨(some 107), .ld (.t 106) none, none⟩,
                 ⟨(some 108), .call 12 [(.t 105), (.t 107)], none⟩])
               (.reg [⟨(some 109), .mv (.t 1), none⟩,
                ⟨(some 110), .fa (.t 7) 0, none⟩,
                ⟨(some 111), .ld (.t 110) none, none⟩,
                ⟨(some 112), .call 28 [(.t 109), (.t 111)], none⟩]))
              (.seq (.reg [⟨(some 114), .bin .eql (.t 30) (.k (.s (.i .i64 6))), none⟩,
                 ⟨(some 113), .mv (.t 114), none⟩])
               (.cond (.t 113)
                (.seq (.reg [⟨(some 115), .mv (.t 0), none⟩,
                   ⟨(some 116), .call 13 [(.t 115)], none⟩])
                 (.reg [⟨(some 117), .mv (.t 1), none⟩,
                  ⟨(some 118), .call 29 [(.t 117)], none⟩]))
                (.skip)))))))))))))))
   (.seq (.reg [⟨(some 119), .mv (.t 8), none⟩,
     ⟨(some 120), .mv (.t 9), none⟩,
     ⟨(some 121), .bin .eql (.t 119) (.t 120), none⟩,
     ⟨(some 6), .mv (.t 121), none⟩])
   (.ret)))))), [.t 6]⟩
theorem dc14 : compF Try.prog Try.f14 = some df14 := by kernel_rfl
theorem ok14 : FnOk Try.prog 14 := ⟨Try.f14, Try.func14, by kernel_rfl, by kernel_rfl⟩

/-- citadel/citadellaw04.looks -/
def df15 : DF :=
  ⟨50, .seq (.reg [⟨(some 4), .mv (.k (.s (.b false))), none⟩])
   (.seq (.reg [⟨(some 8), .mv (.t 0), none⟩,
     ⟨(some 9), .call 17 [(.t 8)], none⟩,
     ⟨(some 5), .mv (.t 9), none⟩])
   (.seq (.seq (.reg [⟨(some 10), .mv (.t 5), none⟩,
      ⟨(some 11), .len (.t 10), none⟩,
      ⟨(some 12), .bin .neq (.t 11) (.k (.s (.i .i64 8))), none⟩])
    (.cond (.t 12)
     (.seq (.reg [⟨(some 4), .mv (.k (.s (.b false))), none⟩])
      (.ret))
     (.skip)))
   (.seq (.seq (.reg [⟨(some 6), .mv (.k (.s (.i .i64 0))), none⟩])
    (.block 0 (.loop (.seq (.seq (.reg [⟨(some 13), .mv (.t 6), none⟩,
         ⟨(some 14), .bin .lss (.t 13) (.k (.s (.i .i64 8))), none⟩])
       (.cond (.t 14)
        (.skip)
        (.exit 0)))
      (.seq (.block 1 (.seq (.drm [(true, ⟨(some 17), .mv (.t 5), none⟩),
          (true, ⟨(some 18), .mv (.t 6), none⟩),
          (true, ⟨(some 19), .ia none 4 (.t 17) (.t 18), none⟩),
          (true, ⟨(some 20), .fa (.t 19) 0, none⟩),
          (true, ⟨(some 21), .ld (.t 20) none, none⟩),
          (true, ⟨(some 22), .mv (.t 5), none⟩),
          (true, ⟨(some 23), .mv (.t 6), none⟩),
          (true, ⟨(some 24), .ia none 4 (.t 22) (.t 23), none⟩),
          (true, ⟨(some 25), .fa (.t 24) 1, none⟩),
          (true, ⟨(some 26), .ld (.t 25) none, none⟩),
          (true, ⟨(some 27), .mv (.t 5), none⟩),
          (true, ⟨(some 28), .mv (.t 6), none⟩),
          (true, ⟨(some 29), .ia none 4 (.t 27) (.t 28), none⟩),
          (true, ⟨(some 30), .fa (.t 29) 2, none⟩),
          (true, ⟨(some 31), .ld (.t 30) none, none⟩),
          (true, ⟨(some 32), .mv (.t 5), none⟩),
          (true, ⟨(some 33), .mv (.t 6), none⟩),
          (true, ⟨(some 34), .ia none 4 (.t 32) (.t 33), none⟩),
          (true, ⟨(some 35), .fa (.t 34) 3, none⟩),
          (true, ⟨(some 36), .ld (.t 35) none, none⟩),
          (true, ⟨(some 37), .build [.i .i64 0, .i .i64 0, .i .i64 0, .i .i64 0] [(0, 1, (.t 21)), (1, 1, (.t 26)), (2, 1, (.t 31)), (3, 1, (.t 36))], none⟩),
          (false, ⟨(some 7), .new [.i .i64 0, .i .i64 0, .i .i64 0, .i .i64 0], none⟩),
          (false, ⟨none, .st (.t 7) (.t 37) 4, none⟩)])
        (.seq (.seq (.drq [⟨(some 38), .ld (.t 7) (some 4), none⟩,
           ⟨(some 39), .mv (.t 1), none⟩,
           ⟨(some 40), .mv (.t 6), none⟩,
           ⟨(some 41), .nil (.t 39), none⟩,
           ⟨(some 42), .fa (.t 41) 0, none⟩,
           ⟨(some 43), .ia (some 8) 4 (.t 42) (.t 40), none⟩,
           ⟨(some 44), .ld (.t 43) (some 4), none⟩,
           ⟨(some 45), .eqa true [true, true, true, true] (.t 38) (.t 44), none⟩])
         (.cond (.t 45)
          (.seq (.reg [⟨(some 4), .mv (.k (.s (.b false))), none⟩])
           (.ret))
          (.skip)))
        (.reg [⟨(some 46), .mv (.t 5), none⟩,
         ⟨(some 47), .mv (.t 6), none⟩,
         ⟨(some 48), .build [.i .i64 0, .i .i64 0, .i .i64 0, .i .i64 0] [(0, 1, (.k (.s (.i .i64 9)))), (1, 1, (.k (.s (.i .i64 9)))), (2, 1, (.k (.s (.i .i64 160)))), (3, 1, (.k (.s (.i .i64 1))))], none⟩,
         ⟨(some 49), .ia none 4 (.t 46) (.t 47), none⟩,
         ⟨none, .st (.t 49) (.t 48) 4, none⟩]))))
      (.reg [⟨(some 15), .mv (.t 6), none⟩,
       ⟨(some 16), .bin .add (.t 15) (.k (.s (.i .i64 1))), none⟩,
       ⟨(some 6), .mv (.t 16), none⟩]))))))
   (.seq (.reg [⟨(some 4), .mv (.k (.s (.b true))), none⟩])
   (.ret))))), [.t 4]⟩
theorem dc15 : compF Try.prog Try.f15 = some df15 := by kernel_rfl
theorem ok15 : FnOk Try.prog 15 := ⟨Try.f15, Try.func15, by kernel_rfl, by kernel_rfl⟩

/-- (*citadel/tlb.Tlb).Evict -/
def df16 : DF :=
  ⟨14, .seq (.reg [⟨(some 4), .mv (.k (.s (.i .i64 0))), none⟩])
   (.seq (.seq (.reg [⟨(some 5), .mv (.t 1), none⟩,
      ⟨(some 6), .call 18 [(.t 5), (.k (.s (.i .i64 0))), (.k (.s (.i .i64 7)))], none⟩,
      ⟨(some 7), .un .not (.t 6), none⟩])
    (.cond (.t 7)
     (.seq (.reg [⟨(some 4), .mv (.k (.s (.i .i64 1))), none⟩])
      (.ret))
     (.skip)))
   (.seq (.reg [⟨(some 8), .mv (.t 0), none⟩,
     ⟨(some 9), .mv (.t 1), none⟩,
     ⟨(some 10), .build [.i .i64 0, .i .i64 0, .i .i64 0, .i .i64 0] [], none⟩,
     ⟨(some 11), .nil (.t 8), none⟩,
     ⟨(some 12), .fa (.t 11) 0, none⟩,
     ⟨(some 13), .ia (some 8) 4 (.t 12) (.t 9), none⟩,
     ⟨none, .st (.t 13) (.t 10) 4, none⟩])
   (.seq (.reg [⟨(some 4), .mv (.k (.s (.i .i64 0))), none⟩])
   (.ret)))), [.t 4]⟩
theorem dc16 : compF Try.prog Try.f16 = some df16 := by kernel_rfl
theorem ok16 : FnOk Try.prog 16 := ⟨Try.f16, Try.func16, by kernel_rfl, by kernel_rfl⟩

/-- (*citadel/tlb.Tlb).Lines -/
def df17 : DF :=
  ⟨9, .seq (.reg [⟨(some 2), .mv (.k (.s (.ns))), none⟩])
   (.seq (.reg [⟨(some 4), .mv (.t 0), none⟩,
     ⟨(some 5), .nil (.t 4), none⟩,
     ⟨(some 6), .fa (.t 5) 0, none⟩,
     ⟨(some 7), .ld (.t 6) (some 32), none⟩,
     ⟨(some 3), .new [.i .i64 0, .i .i64 0, .i .i64 0, .i .i64 0, .i .i64 0, .i .i64 0, .i .i64 0, .i .i64 0, .i .i64 0, .i .i64 0, .i .i64 0, .i .i64 0, .i .i64 0, .i .i64 0, .i .i64 0, .i .i64 0, .i .i64 0, .i .i64 0, .i .i64 0, .i .i64 0, .i .i64 0, .i .i64 0, .i .i64 0, .i .i64 0, .i .i64 0, .i .i64 0, .i .i64 0, .i .i64 0, .i .i64 0, .i .i64 0, .i .i64 0, .i .i64 0], none⟩,
     ⟨none, .st (.t 3) (.t 7) 32, none⟩])
   (.seq (.reg [⟨(some 8), .slc (some 8) 4 (.t 3) none none, none⟩,
     ⟨(some 2), .mv (.t 8), none⟩])
   (.ret))), [.t 2]⟩
theorem dc17 : compF Try.prog Try.f17 = some df17 := by kernel_rfl
theorem ok17 : FnOk Try.prog 17 := ⟨Try.f17, Try.func17, by kernel_rfl, by kernel_rfl⟩

/-- citadel/tlb.in -/
def df18 : DF :=
  ⟨15, .seq (.reg [⟨(some 6), .mv (.k (.s (.b false))), none⟩])
   (.seq (.reg [⟨(some 7), .mv (.t 0), none⟩,
     ⟨(some 8), .mv (.t 1), none⟩,
     ⟨(some 9), .bin .geq (.t 7) (.t 8), none⟩,
     ⟨(some 10), .mv (.t 9), none⟩,
     ⟨(some 11), .mv (.t 0), (some (10, true))⟩,
     ⟨(some 12), .mv (.t 2), (some (10, true))⟩,
     ⟨(some 13), .bin .leq (.t 11) (.t 12), (some (10, true))⟩,
     ⟨(some 14), .pick (.t 10) (.t 13) (.k (.s (.b false))), none⟩,
     ⟨(some 6), .mv (.t 14), none⟩])
   (.ret)), [.t 6]⟩
theorem dc18 : compF Try.prog Try.f18 = some df18 := by kernel_rfl
theorem ok18 : FnOk Try.prog 18 := ⟨Try.f18, Try.func18, by kernel_rfl, by kernel_rfl⟩

/-- (*citadel/tlb.Tlb).at -/
def df19 : DF :=
  ⟨34, .seq (.reg [⟨(some 6), .mv (.k (.s (.i .i64 0))), none⟩])
   (.seq (.seq (.reg [⟨(some 9), .mv (.t 0), none⟩,
      ⟨(some 10), .nil (.t 9), none⟩,
      ⟨(some 11), .fa (.t 10) 0, none⟩,
      ⟨(some 12), .ld (.t 11) (some 32), none⟩,
      ⟨(some 13), .mv (.k (.s (.i .i64 0))), none⟩])
    (.block 0 (.loop (.seq (.reg [⟨(some 14), .bin .lss (.t 13) (.k (.s (.i .i64 8))), none⟩])
      (.seq (.cond (.t 14)
        (.skip)
        (.exit 0))
      (.seq (.block 1 (.seq (.reg [⟨(some 15), .mv (.t 13), none⟩,
          ⟨(some 16), .ix 8 4 (some 4) (.t 12) (.t 13), none⟩,
          ⟨(some 8), .new [.i .i64 0, .i .i64 0, .i .i64 0, .i .i64 0], none⟩,
          ⟨(some 7), .mv (.t 15), none⟩,
          ⟨none, .st (.t 8) (.t 16) 4, none⟩])
        (.seq (.reg [⟨(some 17), .ld (.t 8) (some 4), none⟩,
          ⟨(some 18), .build [.i .i64 0, .i .i64 0, .i .i64 0, .i .i64 0] [], none⟩,
          ⟨(some 19), .eqa true [true, true, true, true] (.t 17) (.t 18), none⟩,
          ⟨(some 20), .mv (.t 19), none⟩,
          ⟨(some 21), .fa (.t 8) 0, (some (20, true))⟩,
          ⟨(some 22), .ld (.t 21) none, (some (20, true))⟩,
          ⟨(some 23), .mv (.t 1), (some (20, true))⟩,
          ⟨(some 24), .bin .eql (.t 22) (.t 23), (some (20, true))⟩,
          ⟨(some 25), .pick (.t 20) (.t 24) (.k (.s (.b false))), none⟩,
          ⟨(some 26), .mv (.t 25), none⟩,
          ⟨(some 27), .fa (.t 8) 1, (some (26, true))⟩,
          ⟨(some 28), .ld (.t 27) none, (some (26, true))⟩,
          ⟨(some 29), .mv (.t 2), (some (26, true))⟩,
          ⟨(some 30), .bin .eql (.t 28) (.t 29), (some (26, true))⟩,
          ⟨(some 31), .pick (.t 26) (.t 30) (.k (.s (.b false))), none⟩])
        (.cond (.t 31)
         (.seq (.reg [⟨(some 32), .mv (.t 7), none⟩,
            ⟨(some 6), .mv (.t 32), none⟩])
          (.ret))
         (.skip)))))
      (.reg [⟨(some 33), .bin .add (.t 13) (.k (.s (.i .i64 1))), none⟩,
       ⟨(some 13), .mv (.t 33), none⟩])))))))
   (.seq (.reg [⟨(some 6), .mv (.k (.s (.i .i64 (-1)))), none⟩])
   (.ret))), [.t 6]⟩
theorem dc19 : compF Try.prog Try.f19 = some df19 := by kernel_rfl
theorem ok19 : FnOk Try.prog 19 := ⟨Try.f19, Try.func19, by kernel_rfl, by kernel_rfl⟩

/-- (*citadel/tlb.Tlb).forget -/
def df20 : DF :=
  ⟨33, .seq (.reg [⟨(some 4), .new [.i .i64 0, .i .i64 0, .i .i64 0, .i .i64 0, .i .i64 0, .i .i64 0, .i .i64 0, .i .i64 0, .i .i64 0, .i .i64 0, .i .i64 0, .i .i64 0, .i .i64 0, .i .i64 0, .i .i64 0, .i .i64 0, .i .i64 0, .i .i64 0, .i .i64 0, .i .i64 0, .i .i64 0, .i .i64 0, .i .i64 0, .i .i64 0, .i .i64 0, .i .i64 0, .i .i64 0, .i .i64 0, .i .i64 0, .i .i64 0, .i .i64 0, .i .i64 0], none⟩])
   (.seq (.seq (.reg [⟨(some 7), .mv (.t 0), none⟩,
      ⟨(some 8), .nil (.t 7), none⟩,
      ⟨(some 9), .fa (.t 8) 0, none⟩,
      ⟨(some 10), .ld (.t 9) (some 32), none⟩,
      ⟨(some 11), .mv (.k (.s (.i .i64 0))), none⟩])
    (.block 0 (.loop (.seq (.reg [⟨(some 12), .bin .lss (.t 11) (.k (.s (.i .i64 8))), none⟩])
      (.seq (.cond (.t 12)
        (.skip)
        (.exit 0))
      (.seq (.block 1 (.seq (.reg [⟨(some 13), .mv (.t 11), none⟩,
          ⟨(some 14), .ix 8 4 (some 4) (.t 10) (.t 11), none⟩,
          ⟨(some 6), .new [.i .i64 0, .i .i64 0, .i .i64 0, .i .i64 0], none⟩,
          ⟨(some 5), .mv (.t 13), none⟩,
          ⟨none, .st (.t 6) (.t 14) 4, none⟩])
        (.seq (.reg [⟨(some 15), .mv (.t 1), none⟩,
          ⟨(some 16), .ld (.t 6) (some 4), none⟩,
          ⟨(some 17), .callv (.t 15) [(.t 16)], none⟩,
          ⟨(some 18), .un .not (.t 17), none⟩])
        (.cond (.t 18)
         (.reg [⟨(some 19), .mv (.t 5), none⟩,
           ⟨(some 20), .ld (.t 6) (some 4), none⟩,
           ⟨(some 21), .ia (some 8) 4 (.t 4) (.t 19), none⟩,
           ⟨none, .st (.t 21) (.t 20) 4, none⟩])
         (.skip)))))
      (.reg [⟨(some 22), .bin .add (.t 11) (.k (.s (.i .i64 1))), none⟩,
       ⟨(some 11), .mv (.t 22), none⟩])))))))
   (.seq (.drq [⟨(some 23), .ld (.t 4) (some 32), none⟩,
     ⟨(some 24), .mv (.t 0), none⟩,
     ⟨(some 25), .nil (.t 24), none⟩,
     ⟨(some 26), .fa (.t 25) 0, none⟩,
     ⟨(some 27), .ld (.t 26) (some 32), none⟩,
     ⟨(some 28), .eqa true [true, true, true, true, true, true, true, true, true, true, true, true, true, true, true, true, true, true, true, true, true, true, true, true, true, true, true, true, true, true, true, true] (.t 23) (.t 27), none⟩])
   (.cond (.t 28)
    (.reg [⟨(some 29), .mv (.t 0), none⟩,
      ⟨(some 30), .ld (.t 4) (some 32), none⟩,
      ⟨(some 31), .nil (.t 29), none⟩,
      ⟨(some 32), .fa (.t 31) 0, none⟩,
      ⟨none, .st (.t 32) (.t 30) 32, none⟩])
    (.skip)))), []⟩
theorem dc20 : compF Try.prog Try.f20 = some df20 := by kernel_rfl
theorem ok20 : FnOk Try.prog 20 := ⟨Try.f20, Try.func20, by kernel_rfl, by kernel_rfl⟩

/-- (*citadel/tlb.Tlb).FlushPage$1 -/
def df21 : DF :=
  ⟨15, .seq (.reg [⟨(some 3), .box (.t 0), none⟩,
     ⟨(some 4), .mv (.k (.s (.b false))), none⟩])
   (.seq (.reg [⟨(some 5), .fa (.t 3) 0, none⟩,
     ⟨(some 6), .ld (.t 5) none, none⟩,
     ⟨(some 7), .ld (.t 1) none, none⟩,
     ⟨(some 8), .bin .eql (.t 6) (.t 7), none⟩,
     ⟨(some 9), .mv (.t 8), none⟩,
     ⟨(some 10), .fa (.t 3) 1, (some (9, true))⟩,
     ⟨(some 11), .ld (.t 10) none, (some (9, true))⟩,
     ⟨(some 12), .ld (.t 2) none, (some (9, true))⟩,
     ⟨(some 13), .bin .eql (.t 11) (.t 12), (some (9, true))⟩,
     ⟨(some 14), .pick (.t 9) (.t 13) (.k (.s (.b false))), none⟩,
     ⟨(some 4), .mv (.t 14), none⟩])
   (.ret)), [.t 4]⟩
theorem dc21 : compF Try.prog Try.f21 = some df21 := by kernel_rfl
theorem ok21 : FnOk Try.prog 21 := ⟨Try.f21, Try.func21, by kernel_rfl, by kernel_rfl⟩

/-- (*citadel/tlb.Tlb).FlushAsid$1 -/
def df22 : DF :=
  ⟨8, .seq (.reg [⟨(some 2), .box (.t 0), none⟩,
     ⟨(some 3), .mv (.k (.s (.b false))), none⟩])
   (.seq (.reg [⟨(some 4), .fa (.t 2) 0, none⟩,
     ⟨(some 5), .ld (.t 4) none, none⟩,
     ⟨(some 6), .ld (.t 1) none, none⟩,
     ⟨(some 7), .bin .eql (.t 5) (.t 6), none⟩,
     ⟨(some 3), .mv (.t 7), none⟩])
   (.ret)), [.t 3]⟩
theorem dc22 : compF Try.prog Try.f22 = some df22 := by kernel_rfl
theorem ok22 : FnOk Try.prog 22 := ⟨Try.f22, Try.func22, by kernel_rfl, by kernel_rfl⟩

/-- (*citadel/tlb.Tlb).FlushAll$1 -/
def df23 : DF :=
  ⟨3, .seq (.reg [⟨(some 1), .box (.t 0), none⟩,
     ⟨(some 2), .mv (.k (.s (.b false))), none⟩])
   (.seq (.reg [⟨(some 2), .mv (.k (.s (.b true))), none⟩])
   (.ret)), [.t 2]⟩
theorem dc23 : compF Try.prog Try.f23 = some df23 := by kernel_rfl
theorem ok23 : FnOk Try.prog 23 := ⟨Try.f23, Try.func23, by kernel_rfl, by kernel_rfl⟩

/-- (*citadel/citadelref04.Tlb).Find -/
def df24 : DF :=
  ⟨30, .seq (.reg [⟨(some 6), .mv (.k (.s (.i .i64 0))), none⟩,
     ⟨(some 7), .mv (.k (.s (.i .i64 0))), none⟩,
     ⟨(some 8), .mv (.k (.s (.b false))), none⟩])
   (.seq (.reg [⟨(some 10), .mv (.t 0), none⟩,
     ⟨(some 11), .mv (.t 1), none⟩,
     ⟨(some 12), .mv (.t 2), none⟩,
     ⟨(some 13), .call 30 [(.t 10), (.t 11), (.t 12)], none⟩,
     ⟨(some 9), .mv (.t 13), none⟩])
   (.seq (.seq (.reg [⟨(some 14), .mv (.t 9), none⟩,
      ⟨(some 15), .bin .lss (.t 14) (.k (.s (.i .i64 0))), none⟩])
    (.cond (.t 15)
     (.seq (.reg [⟨(some 6), .mv (.k (.s (.i .i64 0))), none⟩,
        ⟨(some 7), .mv (.k (.s (.i .i64 0))), none⟩,
        ⟨(some 8), .mv (.k (.s (.b false))), none⟩])
      (.ret))
     (.skip)))
   (.seq (.drq [⟨(some 16), .mv (.t 0), none⟩,
     ⟨(some 17), .mv (.t 9), none⟩,
     ⟨(some 18), .nil (.t 16), none⟩,
     ⟨(some 19), .fa (.t 18) 0, none⟩,
     ⟨(some 20), .ia (some 8) 4 (.t 19) (.t 17), none⟩,
     ⟨(some 21), .fa (.t 20) 2, none⟩,
     ⟨(some 22), .ld (.t 21) none, none⟩,
     ⟨(some 23), .mv (.t 0), none⟩,
     ⟨(some 24), .mv (.t 9), none⟩,
     ⟨(some 25), .nil (.t 23), none⟩,
     ⟨(some 26), .fa (.t 25) 0, none⟩,
     ⟨(some 27), .ia (some 8) 4 (.t 26) (.t 24), none⟩,
     ⟨(some 28), .fa (.t 27) 3, none⟩,
     ⟨(some 29), .ld (.t 28) none, none⟩,
     ⟨(some 6), .mv (.t 22), none⟩,
     ⟨(some 7), .mv (.t 29), none⟩,
     ⟨(some 8), .mv (.k (.s (.b true))), none⟩])
   (.ret)))), [.t 6, .t 7, .t 8]⟩
theorem dc24 : compF Try.prog Try.f24 = some df24 := by kernel_rfl
theorem ok24 : FnOk Try.prog 24 := ⟨Try.f24, Try.func24, by kernel_rfl, by kernel_rfl⟩

/-- (*citadel/citadelref04.Tlb).Fill -/
def df25 : DF :=
  ⟨36, .seq (.reg [⟨(some 4), .box (.t 1), none⟩,
     ⟨(some 6), .mv (.k (.s (.i .i64 0))), none⟩])
   (.seq (.reg [⟨(some 9), .ld (.t 4) (some 4), none⟩,
     ⟨(some 10), .call 31 [(.t 9)], none⟩,
     ⟨(some 7), .mv (.t 10), none⟩])
   (.seq (.seq (.reg [⟨(some 11), .mv (.t 7), none⟩,
      ⟨(some 12), .un .not (.t 11), none⟩,
      ⟨(some 13), .mv (.t 12), none⟩,
      ⟨(some 14), .mv (.t 2), (some (13, false))⟩,
      ⟨(some 15), .bin .lss (.t 14) (.k (.s (.i .i64 0))), (some (13, false))⟩,
      ⟨(some 16), .pick (.t 13) (.k (.s (.b true))) (.t 15), none⟩,
      ⟨(some 17), .mv (.t 16), none⟩,
      ⟨(some 18), .mv (.t 2), (some (17, false))⟩,
      ⟨(some 19), .bin .geq (.t 18) (.k (.s (.i .i64 8))), (some (17, false))⟩,
      ⟨(some 20), .pick (.t 17) (.k (.s (.b true))) (.t 19), none⟩])
    (.cond (.t 20)
     (.seq (.reg [⟨(some 6), .mv (.k (.s (.i .i64 1))), none⟩])
      (.ret))
     (.skip)))
   (.seq (.reg [⟨(some 21), .mv (.t 0), none⟩,
     ⟨(some 22), .fa (.t 4) 0, none⟩,
     ⟨(some 23), .ld (.t 22) none, none⟩,
     ⟨(some 24), .fa (.t 4) 1, none⟩,
     ⟨(some 25), .ld (.t 24) none, none⟩,
     ⟨(some 26), .call 30 [(.t 21), (.t 23), (.t 25)], none⟩,
     ⟨(some 8), .mv (.t 26), none⟩])
   (.seq (.seq (.reg [⟨(some 27), .mv (.t 8), none⟩,
      ⟨(some 28), .bin .lss (.t 27) (.k (.s (.i .i64 0))), none⟩])
    (.cond (.t 28)
     (.reg [⟨(some 29), .mv (.t 2), none⟩,
       ⟨(some 8), .mv (.t 29), none⟩])
     (.skip)))
   (.seq (.drt 6 [⟨(some 30), .mv (.t 0), none⟩,
     ⟨(some 31), .mv (.t 8), none⟩,
     ⟨(some 32), .ld (.t 4) (some 4), none⟩,
     ⟨(some 33), .nil (.t 30), none⟩,
     ⟨(some 34), .fa (.t 33) 0, none⟩,
     ⟨(some 35), .ia (some 8) 4 (.t 34) (.t 31), none⟩,
     ⟨none, .st (.t 35) (.t 32) 4, none⟩])
   (.seq (.reg [⟨(some 6), .mv (.k (.s (.i .i64 0))), none⟩])
   (.ret))))))), [.t 6]⟩
theorem dc25 : compF Try.prog Try.f25 = some df25 := by kernel_rfl
theorem ok25 : FnOk Try.prog 25 := ⟨Try.f25, Try.func25, by kernel_rfl, by kernel_rfl⟩

/-- (*citadel/citadelref04.Tlb).Evict -/
def df26 : DF :=
  ⟨17, .seq (.reg [⟨(some 4), .mv (.k (.s (.i .i64 0))), none⟩])
   (.seq (.seq (.reg [⟨(some 5), .mv (.t 1), none⟩,
      ⟨(some 6), .bin .lss (.t 5) (.k (.s (.i .i64 0))), none⟩,
      ⟨(some 7), .mv (.t 6), none⟩,
      ⟨(some 8), .mv (.t 1), (some (7, false))⟩,
      ⟨(some 9), .bin .geq (.t 8) (.k (.s (.i .i64 8))), (some (7, false))⟩,
      ⟨(some 10), .pick (.t 7) (.k (.s (.b true))) (.t 9), none⟩])
    (.cond (.t 10)
     (.seq (.reg [⟨(some 4), .mv (.k (.s (.i .i64 1))), none⟩])
      (.ret))
     (.skip)))
   (.seq (.reg [⟨(some 11), .mv (.t 0), none⟩,
     ⟨(some 12), .mv (.t 1), none⟩,
     ⟨(some 13), .build [.i .i64 0, .i .i64 0, .i .i64 0, .i .i64 0] [], none⟩,
     ⟨(some 14), .nil (.t 11), none⟩,
     ⟨(some 15), .fa (.t 14) 0, none⟩,
     ⟨(some 16), .ia (some 8) 4 (.t 15) (.t 12), none⟩,
     ⟨none, .st (.t 16) (.t 13) 4, none⟩])
   (.seq (.reg [⟨(some 4), .mv (.k (.s (.i .i64 0))), none⟩])
   (.ret)))), [.t 4]⟩
theorem dc26 : compF Try.prog Try.f26 = some df26 := by kernel_rfl
theorem ok26 : FnOk Try.prog 26 := ⟨Try.f26, Try.func26, by kernel_rfl, by kernel_rfl⟩

/-- (*citadel/citadelref04.Tlb).FlushPage -/
def df27 : DF :=
  ⟨19, .seq (.reg [⟨(some 7), .mv (.t 0), none⟩,
     ⟨(some 8), .mv (.t 1), none⟩,
     ⟨(some 9), .mv (.t 2), none⟩,
     ⟨(some 10), .call 30 [(.t 7), (.t 8), (.t 9)], none⟩,
     ⟨(some 6), .mv (.t 10), none⟩])
   (.seq (.reg [⟨(some 11), .mv (.t 6), none⟩,
     ⟨(some 12), .bin .geq (.t 11) (.k (.s (.i .i64 0))), none⟩])
   (.cond (.t 12)
    (.reg [⟨(some 13), .mv (.t 0), none⟩,
      ⟨(some 14), .mv (.t 6), none⟩,
      ⟨(some 15), .build [.i .i64 0, .i .i64 0, .i .i64 0, .i .i64 0] [], none⟩,
      ⟨(some 16), .nil (.t 13), none⟩,
      ⟨(some 17), .fa (.t 16) 0, none⟩,
      ⟨(some 18), .ia (some 8) 4 (.t 17) (.t 14), none⟩,
      ⟨none, .st (.t 18) (.t 15) 4, none⟩])
    (.skip))), []⟩
theorem dc27 : compF Try.prog Try.f27 = some df27 := by kernel_rfl
theorem ok27 : FnOk Try.prog 27 := ⟨Try.f27, Try.func27, by kernel_rfl, by kernel_rfl⟩

/-- (*citadel/citadelref04.Tlb).FlushAsid -/
def df28 : DF :=
  ⟨24, .seq (.reg [⟨(some 4), .mv (.k (.s (.i .i64 0))), none⟩])
   (.block 0 (.loop (.seq (.seq (.reg [⟨(some 5), .mv (.t 4), none⟩,
        ⟨(some 6), .bin .lss (.t 5) (.k (.s (.i .i64 8))), none⟩])
      (.cond (.t 6)
       (.skip)
       (.exit 0)))
     (.seq (.block 1 (.seq (.reg [⟨(some 9), .mv (.t 0), none⟩,
         ⟨(some 10), .mv (.t 4), none⟩,
         ⟨(some 11), .nil (.t 9), none⟩,
         ⟨(some 12), .fa (.t 11) 0, none⟩,
         ⟨(some 13), .ia (some 8) 4 (.t 12) (.t 10), none⟩,
         ⟨(some 14), .fa (.t 13) 0, none⟩,
         ⟨(some 15), .ld (.t 14) none, none⟩,
         ⟨(some 16), .mv (.t 1), none⟩,
         ⟨(some 17), .bin .eql (.t 15) (.t 16), none⟩])
       (.cond (.t 17)
        (.reg [⟨(some 18), .mv (.t 0), none⟩,
          ⟨(some 19), .mv (.t 4), none⟩,
          ⟨(some 20), .build [.i .i64 0, .i .i64 0, .i .i64 0, .i .i64 0] [], none⟩,
          ⟨(some 21), .nil (.t 18), none⟩,
          ⟨(some 22), .fa (.t 21) 0, none⟩,
          ⟨(some 23), .ia (some 8) 4 (.t 22) (.t 19), none⟩,
          ⟨none, .st (.t 23) (.t 20) 4, none⟩])
        (.skip))))
     (.reg [⟨(some 7), .mv (.t 4), none⟩,
      ⟨(some 8), .bin .add (.t 7) (.k (.s (.i .i64 1))), none⟩,
      ⟨(some 4), .mv (.t 8), none⟩]))))), []⟩
theorem dc28 : compF Try.prog Try.f28 = some df28 := by kernel_rfl
theorem ok28 : FnOk Try.prog 28 := ⟨Try.f28, Try.func28, by kernel_rfl, by kernel_rfl⟩

/-- (*citadel/citadelref04.Tlb).FlushAll -/
def df29 : DF :=
  ⟨13, .seq (.reg [⟨(some 2), .mv (.k (.s (.i .i64 0))), none⟩])
   (.block 0 (.loop (.seq (.seq (.reg [⟨(some 3), .mv (.t 2), none⟩,
        ⟨(some 4), .bin .lss (.t 3) (.k (.s (.i .i64 8))), none⟩])
      (.cond (.t 4)
       (.skip)
       (.exit 0)))
     (.seq (.block 1 (.reg [⟨(some 7), .mv (.t 0), none⟩,
        ⟨(some 8), .mv (.t 2), none⟩,
        ⟨(some 9), .build [.i .i64 0, .i .i64 0, .i .i64 0, .i .i64 0] [], none⟩,
        ⟨(some 10), .nil (.t 7), none⟩,
        ⟨(some 11), .fa (.t 10) 0, none⟩,
        ⟨(some 12), .ia (some 8) 4 (.t 11) (.t 8), none⟩,
        ⟨none, .st (.t 12) (.t 9) 4, none⟩]))
     (.reg [⟨(some 5), .mv (.t 2), none⟩,
      ⟨(some 6), .bin .add (.t 5) (.k (.s (.i .i64 1))), none⟩,
      ⟨(some 2), .mv (.t 6), none⟩]))))), []⟩
theorem dc29 : compF Try.prog Try.f29 = some df29 := by kernel_rfl
theorem ok29 : FnOk Try.prog 29 := ⟨Try.f29, Try.func29, by kernel_rfl, by kernel_rfl⟩

/-- (*citadel/citadelref04.Tlb).at -/
def df30 : DF :=
  ⟨43, .seq (.reg [⟨(some 6), .mv (.k (.s (.i .i64 0))), none⟩])
   (.seq (.seq (.reg [⟨(some 7), .mv (.k (.s (.i .i64 0))), none⟩])
    (.block 0 (.loop (.seq (.seq (.reg [⟨(some 8), .mv (.t 7), none⟩,
         ⟨(some 9), .bin .lss (.t 8) (.k (.s (.i .i64 8))), none⟩])
       (.cond (.t 9)
        (.skip)
        (.exit 0)))
      (.seq (.block 1 (.seq (.reg [⟨(some 12), .mv (.t 0), none⟩,
          ⟨(some 13), .mv (.t 7), none⟩,
          ⟨(some 14), .nil (.t 12), none⟩,
          ⟨(some 15), .fa (.t 14) 0, none⟩,
          ⟨(some 16), .ia (some 8) 4 (.t 15) (.t 13), none⟩,
          ⟨(some 17), .fa (.t 16) 0, none⟩,
          ⟨(some 18), .ld (.t 17) none, none⟩,
          ⟨(some 19), .bin .neq (.t 18) (.k (.s (.i .i64 0))), none⟩,
          ⟨(some 20), .mv (.t 19), none⟩,
          ⟨(some 21), .mv (.t 0), (some (20, true))⟩,
          ⟨(some 22), .mv (.t 7), (some (20, true))⟩,
          ⟨(some 23), .nil (.t 21), (some (20, true))⟩,
          ⟨(some 24), .fa (.t 23) 0, (some (20, true))⟩,
          ⟨(some 25), .ia (some 8) 4 (.t 24) (.t 22), (some (20, true))⟩,
          ⟨(some 26), .fa (.t 25) 0, (some (20, true))⟩,
          ⟨(some 27), .ld (.t 26) none, (some (20, true))⟩,
          ⟨(some 28), .mv (.t 1), (some (20, true))⟩,
          ⟨(some 29), .bin .eql (.t 27) (.t 28), (some (20, true))⟩,
          ⟨(some 30), .pick (.t 20) (.t 29) (.k (.s (.b false))), none⟩,
          ⟨(some 31), .mv (.t 30), none⟩,
          ⟨(some 32), .mv (.t 0), (some (31, true))⟩,
          ⟨(some 33), .mv (.t 7), (some (31, true))⟩,
          ⟨(some 34), .nil (.t 32), (some (31, true))⟩,
          ⟨(some 35), .fa (.t 34) 0, (some (31, true))⟩,
          ⟨(some 36), .ia (some 8) 4 (.t 35) (.t 33), (some (31, true))⟩,
          ⟨(some 37), .fa (.t 36) 1, (some (31, true))⟩,
          ⟨(some 38), .ld (.t 37) none, (some (31, true))⟩,
          ⟨(some 39), .mv (.t 2), (some (31, true))⟩,
          ⟨(some 40), .bin .eql (.t 38) (.t 39), (some (31, true))⟩,
          ⟨(some 41), .pick (.t 31) (.t 40) (.k (.s (.b false))), none⟩])
        (.cond (.t 41)
         (.seq (.reg [⟨(some 42), .mv (.t 7), none⟩,
            ⟨(some 6), .mv (.t 42), none⟩])
          (.ret))
         (.skip))))
      (.reg [⟨(some 10), .mv (.t 7), none⟩,
       ⟨(some 11), .bin .add (.t 10) (.k (.s (.i .i64 1))), none⟩,
       ⟨(some 7), .mv (.t 11), none⟩]))))))
   (.seq (.reg [⟨(some 6), .mv (.k (.s (.i .i64 (-1)))), none⟩])
   (.ret))), [.t 6]⟩
theorem dc30 : compF Try.prog Try.f30 = some df30 := by kernel_rfl
theorem ok30 : FnOk Try.prog 30 := ⟨Try.f30, Try.func30, by kernel_rfl, by kernel_rfl⟩

/-- citadel/citadelref04.May -/
def df31 : DF :=
  ⟨47, .seq (.reg [⟨(some 1), .box (.t 0), none⟩,
     ⟨(some 2), .mv (.k (.s (.b false))), none⟩])
   (.seq (.reg [⟨(some 3), .fa (.t 1) 0, none⟩,
     ⟨(some 4), .ld (.t 3) none, none⟩,
     ⟨(some 5), .bin .geq (.t 4) (.k (.s (.i .i64 1))), none⟩,
     ⟨(some 6), .mv (.t 5), none⟩,
     ⟨(some 7), .fa (.t 1) 0, (some (6, true))⟩,
     ⟨(some 8), .ld (.t 7) none, (some (6, true))⟩,
     ⟨(some 9), .bin .lss (.t 8) (.k (.s (.i .i64 64))), (some (6, true))⟩,
     ⟨(some 10), .pick (.t 6) (.t 9) (.k (.s (.b false))), none⟩,
     ⟨(some 11), .mv (.t 10), none⟩,
     ⟨(some 12), .fa (.t 1) 1, (some (11, true))⟩,
     ⟨(some 13), .ld (.t 12) none, (some (11, true))⟩,
     ⟨(some 14), .bin .geq (.t 13) (.k (.s (.i .i64 0))), (some (11, true))⟩,
     ⟨(some 15), .pick (.t 11) (.t 14) (.k (.s (.b false))), none⟩,
     ⟨(some 16), .mv (.t 15), none⟩,
     ⟨(some 17), .fa (.t 1) 1, (some (16, true))⟩,
     ⟨(some 18), .ld (.t 17) none, (some (16, true))⟩,
     ⟨(some 19), .bin .lss (.t 18) (.k (.s (.i .i64 4096))), (some (16, true))⟩,
     ⟨(some 20), .pick (.t 16) (.t 19) (.k (.s (.b false))), none⟩,
     ⟨(some 21), .mv (.t 20), none⟩,
     ⟨(some 22), .fa (.t 1) 2, (some (21, true))⟩,
     ⟨(some 23), .ld (.t 22) none, (some (21, true))⟩,
     ⟨(some 24), .bin .geq (.t 23) (.k (.s (.i .i64 16))), (some (21, true))⟩,
     ⟨(some 25), .pick (.t 21) (.t 24) (.k (.s (.b false))), none⟩,
     ⟨(some 26), .mv (.t 25), none⟩,
     ⟨(some 27), .fa (.t 1) 2, (some (26, true))⟩,
     ⟨(some 28), .ld (.t 27) none, (some (26, true))⟩,
     ⟨(some 29), .bin .leq (.t 28) (.k (.s (.i .i64 65520))), (some (26, true))⟩,
     ⟨(some 30), .pick (.t 26) (.t 29) (.k (.s (.b false))), none⟩,
     ⟨(some 31), .mv (.t 30), none⟩,
     ⟨(some 32), .fa (.t 1) 2, (some (31, true))⟩,
     ⟨(some 33), .ld (.t 32) none, (some (31, true))⟩,
     ⟨(some 34), .bin .rem (.t 33) (.k (.s (.i .i64 16))), (some (31, true))⟩,
     ⟨(some 35), .bin .eql (.t 34) (.k (.s (.i .i64 0))), (some (31, true))⟩,
     ⟨(some 36), .pick (.t 31) (.t 35) (.k (.s (.b false))), none⟩,
     ⟨(some 37), .mv (.t 36), none⟩,
     ⟨(some 38), .fa (.t 1) 3, (some (37, true))⟩,
     ⟨(some 39), .ld (.t 38) none, (some (37, true))⟩,
     ⟨(some 40), .bin .geq (.t 39) (.k (.s (.i .i64 0))), (some (37, true))⟩,
     ⟨(some 41), .pick (.t 37) (.t 40) (.k (.s (.b false))), none⟩,
     ⟨(some 42), .mv (.t 41), none⟩,
     ⟨(some 43), .fa (.t 1) 3, (some (42, true))⟩,
     ⟨(some 44), .ld (.t 43) none, (some (42, true))⟩,
     ⟨(some 45), .bin .leq (.t 44) (.k (.s (.i .i64 3))), (some (42, true))⟩,
     ⟨(some 46), .pick (.t 42) (.t 45) (.k (.s (.b false))), none⟩,
     ⟨(some 2), .mv (.t 46), none⟩])
   (.ret)), [.t 2]⟩
theorem dc31 : compF Try.prog Try.f31 = some df31 := by kernel_rfl
theorem ok31 : FnOk Try.prog 31 := ⟨Try.f31, Try.func31, by kernel_rfl, by kernel_rfl⟩

theorem mixed : Try.prog.follows .mixedOrders = true := by kernel_rfl
end Go.Proofs.Ytkdamkfkgnnbeaa
