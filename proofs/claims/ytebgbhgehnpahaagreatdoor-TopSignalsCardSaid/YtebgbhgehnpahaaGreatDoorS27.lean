/- A part of the proof of the claim that the last text of this folder states. -/
import Derived.Test.YtebgbhgehnpahaaGreatDoorProg
import Derived.WalkKit
import Derived.LoopN
import Derived.WalkSpells
import Derived.WalkLawsBesides
import Derived.Test.YtebgbhgehnpahaaGreatDoorS16
namespace Go.E
open Go.RowKit Go.Proofs
set_option linter.all false
theorem read_any (b o q p i : Nat) (n cap : Nat) (k x : Int) (w : World) (h0 : w.cell? ⟨b, o, none⟩ = some (.slice (some ⟨q, p, none⟩) n cap)) (h1 : w.cell? ⟨b, o + 1, none⟩ = some (.int .i64 k)) (hf : w.frozen? ⟨b, o + 1, none⟩ = false)
    (hx : w.cell? ⟨q, p + i, none⟩ = some (.int .u64 x)) (hne : b ≠ q) (hi : i < n) (hn : n < 9223372036854775808) (hc : n ≤ cap) :
    Calls Tryz.prog 33 #[.pointer (some ⟨b, o, none⟩), .int .i64 (i : Int)] w fun e w' => e = .returned (.tuple #[.int .u64 x, .int .i64 0]) ∧ w' = w.setCell ⟨b, o + 1, none⟩ (.int .i64 (wrap64 (k + 1))) := by
  go_enter Tryz.func33, Tryz.ntmps33
  go_wp2
  go_ret2
  exact ⟨rfl, rfl⟩
theorem write_any (b o q p i : Nat) (n cap : Nat) (k x y : Int) (w : World) (h0 : w.cell? ⟨b, o, none⟩ = some (.slice (some ⟨q, p, none⟩) n cap)) (h1 : w.cell? ⟨b, o + 1, none⟩ = some (.int .i64 k)) (hf : w.frozen? ⟨b, o + 1, none⟩ = false)
    (hx : w.cell? ⟨q, p + i, none⟩ = some (.int .u64 y)) (hxf : w.frozen? ⟨q, p + i, none⟩ = false) (hne : b ≠ q) (hi : i < n) (hn : n < 9223372036854775808) (hc : n ≤ cap) :
    Calls Tryz.prog 100 #[.pointer (some ⟨b, o, none⟩), .int .i64 (i : Int), .int .u64 x] w fun e w' => e = .returned (.int .i64 0) ∧ w' = (w.setCell ⟨q, p + i, none⟩ (.int .u64 x)).setCell ⟨b, o + 1, none⟩ (.int .i64 (wrap64 (k + 1))) := by
  go_enter Tryz.func100, Tryz.ntmps100
  go_wp2
  refine wp_loop_rounds 2 ?_
  rw [rounds_succ]
  go_wp2
  rw [rounds_succ]
  go_wp2
  go_ret
  exact ⟨rfl, rfl⟩
section
variable {κ : KP}
theorem fn33 : FnOk Tryz.prog 33 := ⟨Tryz.f33, Tryz.func33, rfl, by kernel_rfl⟩
theorem fn100 : FnOk Tryz.prog 100 := ⟨Tryz.f100, Tryz.func100, rfl, by kernel_rfl⟩
theorem nRead_ok {Y : Lay} : NfOk Y Tryz.prog κ 33 nRead := fun args h z hz e w xs hκ hR hG hf hx => by
  obtain ⟨x, a, r, q, i, m, D, d, p, n, k, ha, G, rfl⟩ := nRead_some hz
  subst ha
  simp only [List.all_cons, List.all_nil, Bool.and_eq_true] at hf
  obtain ⟨hr, hq⟩ := G.rq hR hf.1
  obtain ⟨g1, ⟨s, g2⟩, g3, g4, g5, g6, g7⟩ := G.out hR hr hq
  have han := G.an; have hnk := G.nk; have hkG := G.kG; have hi := G.hi
  obtain ⟨x', y', rfl, hx1, hx2⟩ := iss2 hx
  have ex := isu_eq hx1 (by rw [G.hx]; simp) (by rw [G.hx]; rfl)
  have ey := isu_eq hx2 (by simp) (kn_word (by omega))
  have ey : y' = .int .i64 (a : Int) := by rw [ey]; show Value.int .i64 (vl e (.ofNat a)) = _; rw [vl_nat (by omega)]
  rw [G.hx] at ex
  subst ex ey
  refine ⟨fn33, ?_⟩
  have R := read_any (e.σ r).1 ((e.σ r).2 + 0) (e.σ q).1 ((e.σ q).2 + p) a n k s (vl e (wg d i)) w g1 g2 g3 (by rw [Nat.add_assoc, ← hi]; exact g4) g6 han (by omega) hnk
  refine R.mono ?_
  rintro en w' ⟨rfl, rfl⟩
  refine ⟨_, rfl, e, cu_step hR hr G.hr _, rfl, .inr (.inl rfl), ?_⟩
  show (V.tup [.s (.i .u64 (wg d i)), .s (.i .i64 0)]).rf _ = true
  simp only [V.rf, List.all_cons, List.all_nil, C.rf, S.rf, g7, Bool.true_and, Bool.and_true]; rfl
theorem nWrite_ok {Y : Lay} : NfOk Y Tryz.prog κ 100 nWrite := fun args h z hz e w xs hκ hR hG hf hx => by
  obtain ⟨x, a, n0, r, q, i, m, D, d, p, n, k, ha, h7, G, rfl⟩ := nWrite_some hz
  subst ha
  simp only [List.all_cons, List.all_nil, Bool.and_eq_true] at hf
  obtain ⟨hr, hq⟩ := G.rq hR hf.1
  obtain ⟨g1, ⟨s, g2⟩, g3, g4, g5, g6, g7⟩ := G.out hR hr hq
  have han := G.an; have hnk := G.nk; have hkG := G.kG; have hi := G.hi
  obtain ⟨x', y', v', rfl, hx1, hx2, hx3⟩ := iss3 hx
  have ex := isu_eq hx1 (by rw [G.hx]; simp) (by rw [G.hx]; rfl)
  have ey := isu_eq hx2 (by simp) (kn_word (by omega))
  have ey : y' = .int .i64 (a : Int) := by rw [ey]; show Value.int .i64 (vl e (.ofNat a)) = _; rw [vl_nat (by omega)]
  have ev := isu_eq hx3 (by simp) h7
  rw [G.hx] at ex
  subst ex ey ev
  refine ⟨fn100, ?_⟩
  have R := write_any (e.σ r).1 ((e.σ r).2 + 0) (e.σ q).1 ((e.σ q).2 + p) a n k s (vl e n0) (vl e (wg d i)) w g1 g2 g3 (by rw [Nat.add_assoc, ← hi]; exact g4) (by rw [Nat.add_assoc, ← hi]; exact g5) g6 han (by omega) hnk
  refine R.mono ?_
  rintro en w' ⟨rfl, rfl⟩
  rw [Nat.add_assoc, ← hi]
  have hrq : r ≠ q := fun c => g6 (by rw [c])
  have S1 := w_step hR hq G.hq G.im h7
  have S2 := cu_step S1.rel (q := r) (s := .sl q p n k) hr (by rw [Hp.at_set, if_neg hrq]; exact G.hr) (wrap64 (s + 1))
  exact ⟨_, rfl, e, S1.trans S2, rfl, .inr (.inl rfl), rfl⟩
end
end Go.E
