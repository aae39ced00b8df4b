/- CapsWords, CapsBack, CapsRead, CapsBits: for every input the law's Go function answers true, and its arguments read behind the call as before. No conditions. -/
import Derived.Test.YthegocjfnjfkdaaRows
import Derived.Test.YthegocjfnjfkdaaKI
import Derived.Test.YthegocjfnjfkdaaC0
namespace Go.Proofs.Ythegocjfnjfkdaa
open Go.D
set_option linter.all false
set_option maxRecDepth 100000

abbrev CapT : List TY := [.int .i64, .int .i64, .int .i64, .int .i64, .int .i64, .int .i64, .int .i64, .int .i64, .int .i64, .int .i64, .int .i64]
theorem hasTs_cap {h : List Blk} {ts : List TY} {ss : List S} (H : hasTs h (CapT ++ ts) ss) : ∃ (c : Cap) (ss' : List S), ss = c.cl ++ ss' ∧ hasTs h ts ss' := by
  obtain ⟨_, _, rfl, ⟨a, rfl, _⟩, H0⟩ := hasTs_cons H
  obtain ⟨_, _, rfl, ⟨b, rfl, _⟩, H1⟩ := hasTs_cons H0
  obtain ⟨_, _, rfl, ⟨c, rfl, _⟩, H2⟩ := hasTs_cons H1
  obtain ⟨_, _, rfl, ⟨d, rfl, _⟩, H3⟩ := hasTs_cons H2
  obtain ⟨_, _, rfl, ⟨e, rfl, _⟩, H4⟩ := hasTs_cons H3
  obtain ⟨_, _, rfl, ⟨g, rfl, _⟩, H5⟩ := hasTs_cons H4
  obtain ⟨_, _, rfl, ⟨i, rfl, _⟩, H6⟩ := hasTs_cons H5
  obtain ⟨_, _, rfl, ⟨j, rfl, _⟩, H7⟩ := hasTs_cons H6
  obtain ⟨_, _, rfl, ⟨k, rfl, _⟩, H8⟩ := hasTs_cons H7
  obtain ⟨_, _, rfl, ⟨l, rfl, _⟩, H9⟩ := hasTs_cons H8
  obtain ⟨_, _, rfl, ⟨m, rfl, _⟩, H10⟩ := hasTs_cons H9
  exact ⟨⟨a, b, c, d, e, g, i, j, k, l, m⟩, _, rfl, H10⟩
theorem hasV_cap {h : List Blk} {v : V} (H : hasV h (true, CapT) v) : ∃ c : Cap, v = .agg c.cl := by
  obtain ⟨ss, rfl, H1⟩ := H
  obtain ⟨c, ss', rfl, H2⟩ := hasTs_cap (ts := []) H1
  obtain rfl := hasTs_nil H2
  exact ⟨c, by simp⟩
theorem u64_wf {n : Int} (h : (Lit.int .u64 n).wf = true) : u64 n := by
  have e : (decide ((0 : Int) ≤ n) && decide (n ≤ 18446744073709551615)) = true := h
  simp only [Bool.and_eq_true, decide_eq_true_eq] at e
  simp only [u64]; omega

theorem capsWords_row : RowOk Try.prog 3 Try.f3 Rows.capsWordsSpec [(true, CapT ++ (CapT ++ [.int .u64, .int .u64]))] where
  own := own
  noInit := by kernel_rfl
  isf := Try.func3
  laid := laid
  rowed := rowed
  full := full
  params := by kernel_rfl
  vars := rfl
  ret := ⟨_, rfl, by kernel_rfl⟩
  spec := fun H ds e => by
    match ds, e with
    | [_], _ => rfl
  tys := ⟨20, by kernel_rfl⟩
theorem capsBack_row : RowOk Try.prog 4 Try.f4 Rows.capsBackSpec [(true, CapT), (true, CapT)] where
  own := own
  noInit := by kernel_rfl
  isf := Try.func4
  laid := laid
  rowed := rowed
  full := full
  params := by kernel_rfl
  vars := rfl
  ret := ⟨_, rfl, by kernel_rfl⟩
  spec := fun H ds e => by
    match ds, e with
    | [_, _], _ => rfl
  tys := ⟨20, by kernel_rfl⟩
theorem capsRead_row : RowOk Try.prog 5 Try.f5 Rows.capsReadSpec [(false, [.int .u64]), (false, [.int .u64])] where
  own := own
  noInit := by kernel_rfl
  isf := Try.func5
  laid := laid
  rowed := rowed
  full := full
  params := by kernel_rfl
  vars := rfl
  ret := ⟨_, rfl, by kernel_rfl⟩
  spec := fun H ds e => by
    match ds, e with
    | [_, _], _ => rfl
  tys := ⟨20, by kernel_rfl⟩
theorem capsBits_row : RowOk Try.prog 6 Try.f6 Rows.capsBitsSpec [(true, CapT), (false, [.int .i64])] where
  own := own
  noInit := by kernel_rfl
  isf := Try.func6
  laid := laid
  rowed := rowed
  full := full
  params := by kernel_rfl
  vars := rfl
  ret := ⟨_, rfl, by kernel_rfl⟩
  spec := fun H ds e => by
    match ds, e with
    | [_, _], _ => rfl
  tys := ⟨20, by kernel_rfl⟩

theorem capsWords_law : Law (FSpec.of capsWordsG) [(true, CapT ++ (CapT ++ [.int .u64, .int .u64]))] := by
  intro h us H hc
  obtain ⟨_, rfl, ss, rfl, H1⟩ := law1 H
  obtain ⟨c, _, rfl, H2⟩ := hasTs_cap H1
  obtain ⟨d, _, rfl, H3⟩ := hasTs_cap H2
  obtain ⟨_, _, rfl, ⟨a, rfl, ha⟩, H4⟩ := hasTs_cons H3
  obtain ⟨_, _, rfl, ⟨b, rfl, hb⟩, H5⟩ := hasTs_cons H4
  obtain rfl := hasTs_nil H5
  exact ⟨⟨u64_wf ha, u64_wf hb⟩, rfl⟩
theorem capsBack_law : Law (FSpec.of capsBackG) [(true, CapT), (true, CapT)] := by
  intro h us H hc
  obtain ⟨_, _, rfl, H1, H2⟩ := law2 H
  obtain ⟨c, rfl⟩ := hasV_cap H1
  obtain ⟨d, rfl⟩ := hasV_cap H2
  exact rfl
theorem capsRead_law : Law (FSpec.of capsReadG) [(false, [.int .u64]), (false, [.int .u64])] := by
  intro h us H hc
  obtain ⟨_, _, rfl, H1, H2⟩ := law2 H
  obtain ⟨a, rfl, ha⟩ := hasV_int H1
  obtain ⟨b, rfl, hb⟩ := hasV_int H2
  exact ⟨⟨u64_wf ha, u64_wf hb⟩, rfl⟩
theorem capsBits_law : Law (FSpec.of capsBitsG) [(true, CapT), (false, [.int .i64])] := by
  intro h us H hc
  obtain ⟨_, _, rfl, H1, H2⟩ := law2 H
  obtain ⟨c, rfl⟩ := hasV_cap H1
  obtain ⟨k, rfl, _⟩ := hasV_int H2
  exact rfl

theorem capsWords_holds : Rows.CapsWordsSaid :=
  OpenClaim.holds_of_wide 3 Try.f3 rfl rfl rfl rfl rfl rfl rfl ⟨rfl, rfl, rfl, rfl, rfl⟩ rfl rfl rfl rfl rfl (by kernel_rfl) Try.func3 (by kernel_rfl)
    (of_decide_eq_true (by kernel_rfl)) (by unfold Func.isWrapper; first | (rw [if_pos (by decide +kernel)]; kernel_rfl) | (rw [if_neg (by decide +kernel)]; exact ⟨rfl, rfl⟩))
    (fun os started H enc _ => capsWords_row.lifted (C := Try.checked) capsWords_snd capsWords_law started (ChangeSpec.witness6 (enc := enc) (C := Try.checked) false ⟨#[], #[.agg #[.int .i64 0, .int .i64 0, .int .i64 0, .int .i64 0, .int .i64 0, .int .i64 0, .int .i64 0, .int .i64 0, .int .i64 0, .int .i64 0, .int .i64 0, .int .i64 0, .int .i64 0, .int .i64 0, .int .i64 0, .int .i64 0, .int .i64 0, .int .i64 0, .int .i64 0, .int .i64 0, .int .i64 0, .int .i64 0, .int .u64 0, .int .u64 0]], []⟩ 8 (by kernel_rfl) (by kernel_rfl) (by kernel_rfl) (by kernel_rfl)))
theorem capsBack_holds : Rows.CapsBackSaid :=
  OpenClaim.holds_of_wide 4 Try.f4 rfl rfl rfl rfl rfl rfl rfl ⟨rfl, rfl, rfl, rfl, rfl⟩ rfl rfl rfl rfl rfl (by kernel_rfl) Try.func4 (by kernel_rfl)
    (of_decide_eq_true (by kernel_rfl)) (by unfold Func.isWrapper; first | (rw [if_pos (by decide +kernel)]; kernel_rfl) | (rw [if_neg (by decide +kernel)]; exact ⟨rfl, rfl⟩))
    (fun os started H enc _ => capsBack_row.lifted (C := Try.checked) capsBack_snd capsBack_law started (ChangeSpec.witness6 (enc := enc) (C := Try.checked) false ⟨#[], #[.agg #[.int .i64 0, .int .i64 0, .int .i64 0, .int .i64 0, .int .i64 0, .int .i64 0, .int .i64 0, .int .i64 0, .int .i64 0, .int .i64 0, .int .i64 0], .agg #[.int .i64 0, .int .i64 0, .int .i64 0, .int .i64 0, .int .i64 0, .int .i64 0, .int .i64 0, .int .i64 0, .int .i64 0, .int .i64 0, .int .i64 0]], []⟩ 8 (by kernel_rfl) (by kernel_rfl) (by kernel_rfl) (by kernel_rfl)))
theorem capsRead_holds : Rows.CapsReadSaid :=
  OpenClaim.holds_of_wide 5 Try.f5 rfl rfl rfl rfl rfl rfl rfl ⟨rfl, rfl, rfl, rfl, rfl⟩ rfl rfl rfl rfl rfl (by kernel_rfl) Try.func5 (by kernel_rfl)
    (of_decide_eq_true (by kernel_rfl)) (by unfold Func.isWrapper; first | (rw [if_pos (by decide +kernel)]; kernel_rfl) | (rw [if_neg (by decide +kernel)]; exact ⟨rfl, rfl⟩))
    (fun os started H enc _ => capsRead_row.lifted (C := Try.checked) capsRead_snd capsRead_law started (ChangeSpec.witness6 (enc := enc) (C := Try.checked) false ⟨#[], #[.int .u64 0, .int .u64 0], []⟩ 8 (by kernel_rfl) (by kernel_rfl) (by kernel_rfl) (by kernel_rfl)))
theorem capsBits_holds : Rows.CapsBitsSaid :=
  OpenClaim.holds_of_wide 6 Try.f6 rfl rfl rfl rfl rfl rfl rfl ⟨rfl, rfl, rfl, rfl, rfl⟩ rfl rfl rfl rfl rfl (by kernel_rfl) Try.func6 (by kernel_rfl)
    (of_decide_eq_true (by kernel_rfl)) (by unfold Func.isWrapper; first | (rw [if_pos (by decide +kernel)]; kernel_rfl) | (rw [if_neg (by decide +kernel)]; exact ⟨rfl, rfl⟩))
    (fun os started H enc _ => capsBits_row.lifted (C := Try.checked) capsBits_snd capsBits_law started (ChangeSpec.witness6 (enc := enc) (C := Try.checked) false ⟨#[], #[.agg #[.int .i64 0, .int .i64 0, .int .i64 0, .int .i64 0, .int .i64 0, .int .i64 0, .int .i64 0, .int .i64 0, .int .i64 0, .int .i64 0, .int .i64 0], .int .i64 0], []⟩ 8 (by kernel_rfl) (by kernel_rfl) (by kernel_rfl) (by kernel_rfl)))
end Go.Proofs.Ythegocjfnjfkdaa
