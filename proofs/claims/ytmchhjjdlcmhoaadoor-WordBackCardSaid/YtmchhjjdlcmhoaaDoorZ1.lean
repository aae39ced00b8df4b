/- math/bits.TrailingZeros64: what it answers. -/
import Derived.Test.YtmchhjjdlcmhoaaDoorProg
import Derived.Test.YtmchhjjdlcmhoaaDoorChecked
import Derived.WalkKit
import Derived.Laws.Bits64b
import Derived.Lib.TrailingZeros
import Derived.Shelf.Spec.TrailingZeros
/- math/bits.TrailingZeros64: what it answers. -/
namespace Go.Proofs
open Go.RowKit
set_option maxRecDepth 100000 in
theorem YtmchhjjdlcmhoaaDoor.table : Tryd.prog.globals.findIdx? (·.name == "math/bits.deBruijn64tab") = some 0 := by kernel_rfl

set_option maxHeartbeats 4000000 in
set_option maxRecDepth 100000 in
theorem YtmchhjjdlcmhoaaDoor.tz64_core (x k idx : Nat) (w : World) (hx0 : ((x : Int) == 0) = false)
    (key : IntKind.u64.wrap (bits BinOp.and IntKind.u64 (x : Int) (IntKind.u64.wrap (-(x : Int))) * 285870213051353865) / 288230376151711744 = (idx : Int))
    (hi : idx < 64) (hk : k < 64) (hcell : w.cell? ⟨0, idx, none⟩ = some (.int .u8 k)) :
    Calls Tryd.prog 31 #[.int .u64 x] w fun e w' => e = .returned (.int .i64 k) ∧ w' = w := by
  have g := YtmchhjjdlcmhoaaDoor.table
  go_enter Tryd.func31, Tryd.ntmps31
  go_wp2_with (simp only [key])
  go_ret
  exact ⟨rfl, rfl⟩

set_option maxRecDepth 100000 in
theorem YtmchhjjdlcmhoaaDoor.tz64_zero (w : World) : Calls Tryd.prog 31 #[.int .u64 0] w fun e w' => e = .returned (.int .i64 64) ∧ w' = w := by
  go_enter Tryd.func31, Tryd.ntmps31
  go_wp2
  go_ret
  exact ⟨rfl, rfl⟩

theorem YtmchhjjdlcmhoaaDoor.tz64 (x : Nat) (hx : x < 18446744073709551616) (w : World) (hT : TabAt 0 Lib.deBruijn64tab w) :
    Calls Tryd.prog 31 #[.int .u64 x] w fun e w' => e = .returned (.int .i64 (Lib.ctz 64 x)) ∧ w' = w := by
  by_cases hx0 : x = 0
  · subst hx0
    exact YtmchhjjdlcmhoaaDoor.tz64_zero w
  · obtain ⟨hlow, hk⟩ := Lib.lowest_bit 64 x hx0 hx
    obtain ⟨hi, htab⟩ := Lib.deBruijn64_at _ hk
    have hcell := hT _ hi
    rw [htab] at hcell
    exact YtmchhjjdlcmhoaaDoor.tz64_core x _ _ w (by simp; omega) (tz64_key x _ hx hx0 hlow) hi hk hcell

end Go.Proofs

