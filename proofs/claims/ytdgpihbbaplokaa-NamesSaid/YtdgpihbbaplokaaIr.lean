/- The small code of the functions of this seat, printed by a program, and that the model's code compiles to it. -/
import Derived.Test.YtdgpihbbaplokaaProg
import Derived.Test.YtdgpihbbaplokaaDQ
import Derived.KernelRfl
namespace Go.Proofs.Ytdgpihbbaplokaa
open Go.D
set_option maxRecDepth 100000

/-- citadel/citadeltop.Names -/
def df3 : DF :=
  ⟨54, .seq (.reg [⟨(some 0), .mv (.k (.s (.b false))), none⟩])
   (.seq (.reg [⟨(some 12), .call 4 [], none⟩,
     ⟨(some 1), .mv (.t 12), none⟩])
   (.seq (.reg [⟨(some 13), .call 5 [], none⟩,
     ⟨(some 2), .mv (.t 13), none⟩])
   (.seq (.reg [⟨(some 14), .call 6 [], none⟩,
     ⟨(some 3), .mv (.t 14), none⟩])
   (.seq (.reg [⟨(some 15), .call 7 [], none⟩,
     ⟨(some 4), .mv (.t 15), none⟩])
   (.seq (.reg [⟨(some 16), .call 8 [], none⟩,
     ⟨(some 5), .mv (.t 16), none⟩])
   (.seq (.reg [⟨(some 17), .call 9 [], none⟩,
     ⟨(some 6), .mv (.t 17), none⟩])
   (.seq (.reg [⟨(some 18), .call 10 [], none⟩,
     ⟨(some 7), .mv (.t 18), none⟩])
   (.seq (.reg [⟨(some 19), .call 11 [], none⟩,
     ⟨(some 8), .mv (.t 19), none⟩])
   (.seq (.reg [⟨(some 20), .call 12 [], none⟩,
     ⟨(some 9), .mv (.t 20), none⟩])
   (.seq (.reg [⟨(some 21), .call 13 [], none⟩,
     ⟨(some 10), .mv (.t 21), none⟩])
   (.seq (.reg [⟨(some 22), .call 14 [], none⟩,
     ⟨(some 11), .mv (.t 22), none⟩])
   (.seq (.reg [⟨(some 23), .mv (.t 1), none⟩,
     ⟨(some 24), .mv (.t 23), none⟩,
     ⟨(some 25), .mv (.t 2), (some (24, true))⟩,
     ⟨(some 26), .pick (.t 24) (.t 25) (.k (.s (.b false))), none⟩,
     ⟨(some 27), .mv (.t 26), none⟩,
     ⟨(some 28), .mv (.t 3), (some (27, true))⟩,
     ⟨(some 29), .pick (.t 27) (.t 28) (.k (.s (.b false))), none⟩,
     ⟨(some 30), .mv (.t 29), none⟩,
     ⟨(some 31), .mv (.t 4), (some (30, true))⟩,
     ⟨(some 32), .pick (.t 30) (.t 31) (.k (.s (.b false))), none⟩,
     ⟨(some 33), .mv (.t 32), none⟩,
     ⟨(some 34), .mv (.t 5), (some (33, true))⟩,
     ⟨(some 35), .pick (.t 33) (.t 34) (.k (.s (.b false))), none⟩,
     ⟨(some 36), .mv (.t 35), none⟩,
     ⟨(some 37), .mv (.t 6), (some (36, true))⟩,
     ⟨(some 38), .pick (.t 36) (.t 37) (.k (.s (.b false))), none⟩,
     ⟨(some 39), .mv (.t 38), none⟩,
     ⟨(some 40), .mv (.t 7), (some (39, true))⟩,
     ⟨(some 41), .pick (.t 39) (.t 40) (.k (.s (.b false))), none⟩,
     ⟨(some 42), .mv (.t 41), none⟩,
     ⟨(some 43), .mv (.t 8), (some (42, true))⟩,
     ⟨(some 44), .pick (.t 42) (.t 43) (.k (.s (.b false))), none⟩,
     ⟨(some 45), .mv (.t 44), none⟩,
     ⟨(some 46), .mv (.t 9), (some (45, true))⟩,
     ⟨(some 47), .pick (.t 45) (.t 46) (.k (.s (.b false))), none⟩,
     ⟨(some 48), .mv (.t 47), none⟩,
     ⟨(some 49), .mv (.t 10), (some (48, true))⟩,
     ⟨(some 50), .pick (.t 48) (.t 49) (.k (.s (.b false))), none⟩,
     ⟨(some 51), .mv (.t 50), none⟩,
     ⟨(some 52), .mv (.t 11), (some (51, true))⟩,
     ⟨(some 53), .pick (.t 51) (.t 52) (.k (.s (.b false))), none⟩,
     ⟨(some 0), .mv (.t 53), none⟩])
   (.ret))))))))))))), [.t 0]⟩
theorem dc3 : compF Try.prog Try.f3 = some df3 := by kernel_rfl
theorem ok3 : FnOk Try.prog 3 := ⟨Try.f3, Try.func3, by kernel_rfl, by kernel_rfl⟩

/-- citadel/citadeltop.heldA -/
def df4 : DF :=
  ⟨11, .seq (.reg [⟨(some 0), .mv (.k (.s (.b false))), none⟩])
   (.seq (.reg [⟨(some 1), .mv (.k (.s (.b true))), none⟩])
   (.seq (.reg [⟨(some 2), .mv (.k (.s (.b true))), none⟩])
   (.seq (.reg [⟨(some 3), .mv (.k (.s (.b true))), none⟩])
   (.seq (.reg [⟨(some 4), .mv (.t 1), none⟩,
     ⟨(some 5), .mv (.t 4), none⟩,
     ⟨(some 6), .mv (.t 2), (some (5, true))⟩,
     ⟨(some 7), .pick (.t 5) (.t 6) (.k (.s (.b false))), none⟩,
     ⟨(some 8), .mv (.t 7), none⟩,
     ⟨(some 9), .mv (.t 3), (some (8, true))⟩,
     ⟨(some 10), .pick (.t 8) (.t 9) (.k (.s (.b false))), none⟩,
     ⟨(some 0), .mv (.t 10), none⟩])
   (.ret))))), [.t 0]⟩
theorem dc4 : compF Try.prog Try.f4 = some df4 := by kernel_rfl
theorem ok4 : FnOk Try.prog 4 := ⟨Try.f4, Try.func4, by kernel_rfl, by kernel_rfl⟩

/-- citadel/citadeltop.heldB -/
def df5 : DF :=
  ⟨7, .seq (.reg [⟨(some 0), .mv (.k (.s (.b false))), none⟩])
   (.seq (.reg [⟨(some 1), .mv (.k (.s (.b true))), none⟩])
   (.seq (.reg [⟨(some 2), .mv (.k (.s (.b true))), none⟩])
   (.seq (.reg [⟨(some 3), .mv (.t 1), none⟩,
     ⟨(some 4), .mv (.t 3), none⟩,
     ⟨(some 5), .mv (.t 2), (some (4, true))⟩,
     ⟨(some 6), .pick (.t 4) (.t 5) (.k (.s (.b false))), none⟩,
     ⟨(some 0), .mv (.t 6), none⟩])
   (.ret)))), [.t 0]⟩
theorem dc5 : compF Try.prog Try.f5 = some df5 := by kernel_rfl
theorem ok5 : FnOk Try.prog 5 := ⟨Try.f5, Try.func5, by kernel_rfl, by kernel_rfl⟩

/-- citadel/citadeltop.heldC -/
def df6 : DF :=
  ⟨7, .seq (.reg [⟨(some 0), .mv (.k (.s (.b false))), none⟩])
   (.seq (.reg [⟨(some 1), .mv (.k (.s (.b true))), none⟩])
   (.seq (.reg [⟨(some 2), .mv (.k (.s (.b true))), none⟩])
   (.seq (.reg [⟨(some 3), .mv (.t 1), none⟩,
     ⟨(some 4), .mv (.t 3), none⟩,
     ⟨(some 5), .mv (.t 2), (some (4, true))⟩,
     ⟨(some 6), .pick (.t 4) (.t 5) (.k (.s (.b false))), none⟩,
     ⟨(some 0), .mv (.t 6), none⟩])
   (.ret)))), [.t 0]⟩
theorem dc6 : compF Try.prog Try.f6 = some df6 := by kernel_rfl
theorem ok6 : FnOk Try.prog 6 := ⟨Try.f6, Try.func6, by kernel_rfl, by kernel_rfl⟩

/-- citadel/citadeltop.heldD -/
def df7 : DF :=
  ⟨3, .seq (.reg [⟨(some 0), .mv (.k (.s (.b false))), none⟩])
   (.seq (.reg [⟨(some 1), .mv (.k (.s (.b true))), none⟩])
   (.seq (.reg [⟨(some 2), .mv (.t 1), none⟩,
     ⟨(some 0), .mv (.t 2), none⟩])
   (.ret))), [.t 0]⟩
theorem dc7 : compF Try.prog Try.f7 = some df7 := by kernel_rfl
theorem ok7 : FnOk Try.prog 7 := ⟨Try.f7, Try.func7, by kernel_rfl, by kernel_rfl⟩

/-- citadel/citadeltop.heldE -/
def df8 : DF :=
  ⟨3, .seq (.reg [⟨(some 0), .mv (.k (.s (.b false))), none⟩])
   (.seq (.reg [⟨(some 1), .mv (.k (.s (.b true))), none⟩])
   (.seq (.reg [⟨(some 2), .mv (.t 1), none⟩,
     ⟨(some 0), .mv (.t 2), none⟩])
   (.ret))), [.t 0]⟩
theorem dc8 : compF Try.prog Try.f8 = some df8 := by kernel_rfl
theorem ok8 : FnOk Try.prog 8 := ⟨Try.f8, Try.func8, by kernel_rfl, by kernel_rfl⟩

/-- citadel/citadeltop.heldF -/
def df9 : DF :=
  ⟨3, .seq (.reg [⟨(some 0), .mv (.k (.s (.b false))), none⟩])
   (.seq (.reg [⟨(some 1), .mv (.k (.s (.b true))), none⟩])
   (.seq (.reg [⟨(some 2), .mv (.t 1), none⟩,
     ⟨(some 0), .mv (.t 2), none⟩])
   (.ret))), [.t 0]⟩
theorem dc9 : compF Try.prog Try.f9 = some df9 := by kernel_rfl
theorem ok9 : FnOk Try.prog 9 := ⟨Try.f9, Try.func9, by kernel_rfl, by kernel_rfl⟩

/-- citadel/citadeltop.heldG -/
def df10 : DF :=
  ⟨3, .seq (.reg [⟨(some 0), .mv (.k (.s (.b false))), none⟩])
   (.seq (.reg [⟨(some 1), .mv (.k (.s (.b true))), none⟩])
   (.seq (.reg [⟨(some 2), .mv (.t 1), none⟩,
     ⟨(some 0), .mv (.t 2), none⟩])
   (.ret))), [.t 0]⟩
theorem dc10 : compF Try.prog Try.f10 = some df10 := by kernel_rfl
theorem ok10 : FnOk Try.prog 10 := ⟨Try.f10, Try.func10, by kernel_rfl, by kernel_rfl⟩

/-- citadel/citadeltop.heldH -/
def df11 : DF :=
  ⟨3, .seq (.reg [⟨(some 0), .mv (.k (.s (.b false))), none⟩])
   (.seq (.reg [⟨(some 1), .mv (.k (.s (.b true))), none⟩])
   (.seq (.reg [⟨(some 2), .mv (.t 1), none⟩,
     ⟨(some 0), .mv (.t 2), none⟩])
   (.ret))), [.t 0]⟩
theorem dc11 : compF Try.prog Try.f11 = some df11 := by kernel_rfl
theorem ok11 : FnOk Try.prog 11 := ⟨Try.f11, Try.func11, by kernel_rfl, by kernel_rfl⟩

/-- citadel/citadeltop.heldI -/
def df12 : DF :=
  ⟨11, .seq (.reg [⟨(some 0), .mv (.k (.s (.b false))), none⟩])
   (.seq (.reg [⟨(some 1), .mv (.k (.s (.b true))), none⟩])
   (.seq (.reg [⟨(some 2), .mv (.k (.s (.b true))), none⟩])
   (.seq (.reg [⟨(some 3), .mv (.k (.s (.b true))), none⟩])
   (.seq (.reg [⟨(some 4), .mv (.t 1), none⟩,
     ⟨(some 5), .mv (.t 4), none⟩,
     ⟨(some 6), .mv (.t 2), (some (5, true))⟩,
     ⟨(some 7), .pick (.t 5) (.t 6) (.k (.s (.b false))), none⟩,
     ⟨(some 8), .mv (.t 7), none⟩,
     ⟨(some 9), .mv (.t 3), (some (8, true))⟩,
     ⟨(some 10), .pick (.t 8) (.t 9) (.k (.s (.b false))), none⟩,
     ⟨(some 0), .mv (.t 10), none⟩])
   (.ret))))), [.t 0]⟩
theorem dc12 : compF Try.prog Try.f12 = some df12 := by kernel_rfl
theorem ok12 : FnOk Try.prog 12 := ⟨Try.f12, Try.func12, by kernel_rfl, by kernel_rfl⟩

/-- citadel/citadeltop.heldJ -/
def df13 : DF :=
  ⟨3, .seq (.reg [⟨(some 0), .mv (.k (.s (.b false))), none⟩])
   (.seq (.reg [⟨(some 1), .mv (.k (.s (.b true))), none⟩])
   (.seq (.reg [⟨(some 2), .mv (.t 1), none⟩,
     ⟨(some 0), .mv (.t 2), none⟩])
   (.ret))), [.t 0]⟩
theorem dc13 : compF Try.prog Try.f13 = some df13 := by kernel_rfl
theorem ok13 : FnOk Try.prog 13 := ⟨Try.f13, Try.func13, by kernel_rfl, by kernel_rfl⟩

/-- citadel/citadeltop.heldK -/
def df14 : DF :=
  ⟨3, .seq (.reg [⟨(some 0), .mv (.k (.s (.b false))), none⟩])
   (.seq (.reg [⟨(some 1), .mv (.k (.s (.b true))), none⟩])
   (.seq (.reg [⟨(some 2), .mv (.t 1), none⟩,
     ⟨(some 0), .mv (.t 2), none⟩])
   (.ret))), [.t 0]⟩
theorem dc14 : compF Try.prog Try.f14 = some df14 := by kernel_rfl
theorem ok14 : FnOk Try.prog 14 := ⟨Try.f14, Try.func14, by kernel_rfl, by kernel_rfl⟩

theorem mixed : Try.prog.follows .mixedOrders = true := by kernel_rfl
end Go.Proofs.Ytdgpihbbaplokaa
