/- CspaceLocal, CspaceDeeper, CspaceGuards, CspaceShort, CspaceMasks, CspaceResolves: for every input the law's Go function answers true, and its arguments read behind the call as before. No conditions. -/
import Derived.Test.YtdlloccodmdnnaaZ12
import Derived.Test.YtdlloccodmdnnaaZ27
import Derived.Test.YtdlloccodmdnnaaRows
import Derived.Test.YtdlloccodmdnnaaZ31
/- Caps as arguments of a statement. -/
namespace Go.Proofs.Ytdlloccodmdnnaa
open Go.D
set_option linter.all false
set_option maxRecDepth 100000

abbrev CapT : List TY := [.int .i64, .int .i64, .int .i64, .int .i64, .int .i64, .int .i64, .int .i64, .int .i64, .int .i64, .int .i64, .int .i64]
theorem hasTs_cap {h : List Blk} {ts : List TY} {ss : List S} (H : hasTs h (CapT ++ ts) ss) : ∃ (c : Cap) (ss' : List S), ss = c.cl ++ ss' ∧ hasTs h ts ss' := by
  obtain ⟨_, _, rfl, ⟨a, rfl, _⟩, H0⟩ := hasTs_cons H
  obtain ⟨_, _, rfl, ⟨b, rfl, _⟩, H1⟩ := hasTs_cons H0
  obtain ⟨_, _, rfl, ⟨c, rfl, _⟩, H2⟩ := hasTs_cons H1
  obtain ⟨_, _, rfl, ⟨d, rfl, _⟩, H3⟩ := hasTs_cons H2
  obtain ⟨_, _, rfl, ⟨e, rfl, _⟩, H4⟩ := hasTs_cons H3
  obtain ⟨_, _, rfl, ⟨g, rfl, _⟩, H5⟩ := hasTs_cons H4
  obtain ⟨_, _, rfl, ⟨i, rfl, _⟩, H6⟩ := hasTs_cons H5
  obtain ⟨_, _, rfl, ⟨j, rfl, _⟩, H7⟩ := hasTs_cons H6
  obtain ⟨_, _, rfl, ⟨k, rfl, _⟩, H8⟩ := hasTs_cons H7
  obtain ⟨_, _, rfl, ⟨l, rfl, _⟩, H9⟩ := hasTs_cons H8
  obtain ⟨_, _, rfl, ⟨m, rfl, _⟩, H10⟩ := hasTs_cons H9
  exact ⟨⟨a, b, c, d, e, g, i, j, k, l, m⟩, _, rfl, H10⟩
theorem hasV_cap {h : List Blk} {v : V} (H : hasV h (true, CapT) v) : ∃ c : Cap, v = .agg c.cl := by
  obtain ⟨ss, rfl, H1⟩ := H
  obtain ⟨c, ss', rfl, H2⟩ := hasTs_cap (ts := []) H1
  obtain rfl := hasTs_nil H2
  exact ⟨c, by simp⟩
end Go.Proofs.Ytdlloccodmdnnaa

/- CspaceLocal, CspaceDeeper, CspaceGuards, CspaceShort, CspaceMasks, CspaceResolves: for every input the law's Go function answers true, and its arguments read behind the call as before. No conditions. -/
namespace Go.Proofs.Ytdlloccodmdnnaa
open Go.D
set_option linter.all false
set_option maxRecDepth 100000

theorem lawC {h : List Blk} {x : Bool × List TY} {xs : List (Bool × List TY)} {us : List V} (H : hasVs h (x :: xs) us) : ∃ u vs, us = u :: vs ∧ hasV h x u ∧ hasVs h xs vs := by
  match us, H with
  | u :: vs, H => exact ⟨u, vs, rfl, H.1, H.2⟩
  | [], H => exact H.elim
theorem lawN {h : List Blk} {us : List V} (H : hasVs h [] us) : us = [] := by
  match us, H with
  | [], _ => rfl
  | _ :: _, H => exact H.elim
theorem i64_wf {n : Int} (h : (Lit.int .i64 n).wf = true) : -9223372036854775808 ≤ n ∧ n < 9223372036854775808 := by
  have e : (decide ((-9223372036854775808 : Int) ≤ n) && decide (n ≤ 9223372036854775807)) = true := h
  simp only [Bool.and_eq_true, decide_eq_true_eq] at e
  omega
abbrev LayT : List TY := .int .i64 :: CapT
theorem hasTs_lay {h : List Blk} {ss : List S} (H : hasTs h LayT ss) : ∃ o : Lay, ss = o.cl ∧ True := by
  obtain ⟨_, _, rfl, ⟨a, rfl, _⟩, H0⟩ := hasTs_cons H
  obtain ⟨c, _, rfl, H1⟩ := hasTs_cap (ts := []) H0
  obtain rfl := hasTs_nil H1
  exact ⟨⟨a, c⟩, by simp [Lay.cl], trivial⟩
theorem hasV_lays {h : List Blk} {v : V} (H : hasV h (false, [.slice LayT]) v) : ∃ (s : S) (L : List Lay), v = .s s ∧ IsArr Lay.cl h s L ∧ L.length ≤ 9223372036854775807 := by
  obtain ⟨s, L, rfl, e1, _, e3⟩ := hasV_slice (c := Lay.cl) (p := fun _ => True) (fun ss h => hasTs_lay h) H
  exact ⟨s, L, rfl, e1, by omega⟩
theorem masks_law : Law (FSpec.of masksG) [(true, CapT), (false, [.int .i64]), (false, [.int .i64])] := by
  intro h us H hc
  obtain ⟨_, _, _, rfl, H1, H2, H3⟩ := law3 H
  obtain ⟨c, rfl⟩ := hasV_cap H1
  obtain ⟨r, rfl, _⟩ := hasV_int H2
  obtain ⟨q, rfl, _⟩ := hasV_int H3
  exact rfl
theorem short_law : Law shortS [(false, [.slice LayT]), (true, CapT), (false, [.int .u64]), (false, [.int .i64])] := by
  intro h us H hc
  obtain ⟨_, _, rfl, H1, H⟩ := lawC H
  obtain ⟨_, _, rfl, H2, H⟩ := lawC H
  obtain ⟨_, _, rfl, H3, H⟩ := lawC H
  obtain ⟨_, _, rfl, H4, H⟩ := lawC H
  obtain rfl := lawN H
  obtain ⟨s, L, rfl, e1, e2⟩ := hasV_lays H1
  obtain ⟨c, rfl⟩ := hasV_cap H2
  obtain ⟨w, rfl, hw⟩ := hasV_int H3
  obtain ⟨d, rfl, _⟩ := hasV_int H4
  exact ⟨s, L, c, w, d, rfl, e1, e2, u64_wf hw, fun _ => rfl⟩
theorem resolves_law : Law resolvesS [(false, [.slice LayT]), (true, CapT), (false, [.int .u64]), (false, [.int .i64])] := by
  intro h us H hc
  obtain ⟨_, _, rfl, H1, H⟩ := lawC H
  obtain ⟨_, _, rfl, H2, H⟩ := lawC H
  obtain ⟨_, _, rfl, H3, H⟩ := lawC H
  obtain ⟨_, _, rfl, H4, H⟩ := lawC H
  obtain rfl := lawN H
  obtain ⟨s, L, rfl, e1, e2⟩ := hasV_lays H1
  obtain ⟨c, rfl⟩ := hasV_cap H2
  obtain ⟨w, rfl, hw⟩ := hasV_int H3
  obtain ⟨d, rfl, _⟩ := hasV_int H4
  exact ⟨s, L, c, w, d, rfl, e1, e2, u64_wf hw, fun _ => rfl⟩
theorem guards_law : Law guardsS [(false, [.slice LayT]), (true, CapT), (false, [.int .u64]), (false, [.int .i64]), (false, [.int .i64])] := by
  intro h us H hc
  obtain ⟨_, _, rfl, H1, H⟩ := lawC H
  obtain ⟨_, _, rfl, H2, H⟩ := lawC H
  obtain ⟨_, _, rfl, H3, H⟩ := lawC H
  obtain ⟨_, _, rfl, H4, H⟩ := lawC H
  obtain ⟨_, _, rfl, H5, H⟩ := lawC H
  obtain rfl := lawN H
  obtain ⟨s, L, rfl, e1, e2⟩ := hasV_lays H1
  obtain ⟨c, rfl⟩ := hasV_cap H2
  obtain ⟨w, rfl, hw⟩ := hasV_int H3
  obtain ⟨d, rfl, _⟩ := hasV_int H4
  obtain ⟨g, rfl, _⟩ := hasV_int H5
  exact ⟨s, L, c, w, d, g, rfl, e1, e2, u64_wf hw, fun _ => rfl⟩
theorem deeper_law : Law deeperS [(false, [.slice LayT]), (true, CapT), (false, [.int .u64]), (false, [.int .i64]), (false, [.int .i64]), (false, [.int .u64])] := by
  intro h us H hc
  obtain ⟨_, _, rfl, H1, H⟩ := lawC H
  obtain ⟨_, _, rfl, H2, H⟩ := lawC H
  obtain ⟨_, _, rfl, H3, H⟩ := lawC H
  obtain ⟨_, _, rfl, H4, H⟩ := lawC H
  obtain ⟨_, _, rfl, H5, H⟩ := lawC H
  obtain ⟨_, _, rfl, H6, H⟩ := lawC H
  obtain rfl := lawN H
  obtain ⟨s, L, rfl, e1, e2⟩ := hasV_lays H1
  obtain ⟨c, rfl⟩ := hasV_cap H2
  obtain ⟨w, rfl, hw⟩ := hasV_int H3
  obtain ⟨d, rfl, hd⟩ := hasV_int H4
  obtain ⟨r, rfl, _⟩ := hasV_int H5
  obtain ⟨t, rfl, ht⟩ := hasV_int H6
  exact ⟨s, L, c, w, d, r, t, rfl, e1, e2, u64_wf hw, u64_wf ht, (i64_wf hd).1, (i64_wf hd).2, fun _ => rfl⟩
theorem local_law : Law localS [(false, [.slice LayT]), (true, CapT), (false, [.int .u64]), (false, [.int .i64]), (false, [.slice LayT])] := by
  intro h us H hc
  obtain ⟨_, _, rfl, H1, H⟩ := lawC H
  obtain ⟨_, _, rfl, H2, H⟩ := lawC H
  obtain ⟨_, _, rfl, H3, H⟩ := lawC H
  obtain ⟨_, _, rfl, H4, H⟩ := lawC H
  obtain ⟨_, _, rfl, H5, H⟩ := lawC H
  obtain rfl := lawN H
  obtain ⟨s, L, rfl, e1, e2⟩ := hasV_lays H1
  obtain ⟨c, rfl⟩ := hasV_cap H2
  obtain ⟨w, rfl, hw⟩ := hasV_int H3
  obtain ⟨d, rfl, _⟩ := hasV_int H4
  obtain ⟨s2, M, rfl, f1, f2⟩ := hasV_lays H5
  exact ⟨s, L, c, w, d, s2, M, rfl, e1, e2, f1, f2, u64_wf hw, fun _ => rfl⟩
theorem cspaceLocal_row : RowOk Try.prog 3 Try.f3 Rows.cspaceLocalSpec [(false, [.slice LayT]), (true, CapT), (false, [.int .u64]), (false, [.int .i64]), (false, [.slice LayT])] where
  own := own
  noInit := by kernel_rfl
  isf := Try.func3
  laid := laid
  rowed := rowed
  full := full
  params := by kernel_rfl
  vars := rfl
  ret := ⟨_, rfl, by kernel_rfl⟩
  spec := fun H ds e => by
    match ds, e with
    | [_, _, _, _, _], _ => rfl
  tys := ⟨20, by kernel_rfl⟩
theorem cspaceLocal_holds : Rows.CspaceLocalSaid :=
  OpenClaim.holds_of_wide 3 Try.f3 rfl rfl rfl rfl rfl rfl rfl ⟨rfl, rfl, rfl, rfl, rfl⟩ rfl rfl rfl rfl rfl (by kernel_rfl) Try.func3 (by kernel_rfl)
    (of_decide_eq_true (by kernel_rfl)) (by unfold Func.isWrapper; first | (rw [if_pos (by decide +kernel)]; kernel_rfl) | (rw [if_neg (by decide +kernel)]; exact ⟨rfl, rfl⟩))
    (fun os started H enc _ => cspaceLocal_row.lifted (C := Try.checked) local_snd local_law started (ChangeSpec.witness6 (enc := enc) (C := Try.checked) false ⟨#[], #[.slice none 0 0, .agg #[.int .i64 0, .int .i64 0, .int .i64 0, .int .i64 0, .int .i64 0, .int .i64 0, .int .i64 0, .int .i64 0, .int .i64 0, .int .i64 0, .int .i64 0], .int .u64 0, .int .i64 0, .slice none 0 0], []⟩ 8 (by kernel_rfl) (by kernel_rfl) (by kernel_rfl) (by kernel_rfl)))
theorem cspaceDeeper_row : RowOk Try.prog 4 Try.f4 Rows.cspaceDeeperSpec [(false, [.slice LayT]), (true, CapT), (false, [.int .u64]), (false, [.int .i64]), (false, [.int .i64]), (false, [.int .u64])] where
  own := own
  noInit := by kernel_rfl
  isf := Try.func4
  laid := laid
  rowed := rowed
  full := full
  params := by kernel_rfl
  vars := rfl
  ret := ⟨_, rfl, by kernel_rfl⟩
  spec := fun H ds e => by
    match ds, e with
    | [_, _, _, _, _, _], _ => rfl
  tys := ⟨20, by kernel_rfl⟩
theorem cspaceDeeper_holds : Rows.CspaceDeeperSaid :=
  OpenClaim.holds_of_wide 4 Try.f4 rfl rfl rfl rfl rfl rfl rfl ⟨rfl, rfl, rfl, rfl, rfl⟩ rfl rfl rfl rfl rfl (by kernel_rfl) Try.func4 (by kernel_rfl)
    (of_decide_eq_true (by kernel_rfl)) (by unfold Func.isWrapper; first | (rw [if_pos (by decide +kernel)]; kernel_rfl) | (rw [if_neg (by decide +kernel)]; exact ⟨rfl, rfl⟩))
    (fun os started H enc _ => cspaceDeeper_row.lifted (C := Try.checked) deeper_snd deeper_law started (ChangeSpec.witness6 (enc := enc) (C := Try.checked) false ⟨#[], #[.slice none 0 0, .agg #[.int .i64 0, .int .i64 0, .int .i64 0, .int .i64 0, .int .i64 0, .int .i64 0, .int .i64 0, .int .i64 0, .int .i64 0, .int .i64 0, .int .i64 0], .int .u64 0, .int .i64 0, .int .i64 0, .int .u64 0], []⟩ 8 (by kernel_rfl) (by kernel_rfl) (by kernel_rfl) (by kernel_rfl)))
theorem cspaceGuards_row : RowOk Try.prog 5 Try.f5 Rows.cspaceGuardsSpec [(false, [.slice LayT]), (true, CapT), (false, [.int .u64]), (false, [.int .i64]), (false, [.int .i64])] where
  own := own
  noInit := by kernel_rfl
  isf := Try.func5
  laid := laid
  rowed := rowed
  full := full
  params := by kernel_rfl
  vars := rfl
  ret := ⟨_, rfl, by kernel_rfl⟩
  spec := fun H ds e => by
    match ds, e with
    | [_, _, _, _, _], _ => rfl
  tys := ⟨20, by kernel_rfl⟩
theorem cspaceGuards_holds : Rows.CspaceGuardsSaid :=
  OpenClaim.holds_of_wide 5 Try.f5 rfl rfl rfl rfl rfl rfl rfl ⟨rfl, rfl, rfl, rfl, rfl⟩ rfl rfl rfl rfl rfl (by kernel_rfl) Try.func5 (by kernel_rfl)
    (of_decide_eq_true (by kernel_rfl)) (by unfold Func.isWrapper; first | (rw [if_pos (by decide +kernel)]; kernel_rfl) | (rw [if_neg (by decide +kernel)]; exact ⟨rfl, rfl⟩))
    (fun os started H enc _ => cspaceGuards_row.lifted (C := Try.checked) guards_snd guards_law started (ChangeSpec.witness6 (enc := enc) (C := Try.checked) false ⟨#[], #[.slice none 0 0, .agg #[.int .i64 0, .int .i64 0, .int .i64 0, .int .i64 0, .int .i64 0, .int .i64 0, .int .i64 0, .int .i64 0, .int .i64 0, .int .i64 0, .int .i64 0], .int .u64 0, .int .i64 0, .int .i64 0], []⟩ 8 (by kernel_rfl) (by kernel_rfl) (by kernel_rfl) (by kernel_rfl)))
theorem cspaceShort_row : RowOk Try.prog 6 Try.f6 Rows.cspaceShortSpec [(false, [.slice LayT]), (true, CapT), (false, [.int .u64]), (false, [.int .i64])] where
  own := own
  noInit := by kernel_rfl
  isf := Try.func6
  laid := laid
  rowed := rowed
  full := full
  params := by kernel_rfl
  vars := rfl
  ret := ⟨_, rfl, by kernel_rfl⟩
  spec := fun H ds e => by
    match ds, e with
    | [_, _, _, _], _ => rfl
  tys := ⟨20, by kernel_rfl⟩
theorem cspaceShort_holds : Rows.CspaceShortSaid :=
  OpenClaim.holds_of_wide 6 Try.f6 rfl rfl rfl rfl rfl rfl rfl ⟨rfl, rfl, rfl, rfl, rfl⟩ rfl rfl rfl rfl rfl (by kernel_rfl) Try.func6 (by kernel_rfl)
    (of_decide_eq_true (by kernel_rfl)) (by unfold Func.isWrapper; first | (rw [if_pos (by decide +kernel)]; kernel_rfl) | (rw [if_neg (by decide +kernel)]; exact ⟨rfl, rfl⟩))
    (fun os started H enc _ => cspaceShort_row.lifted (C := Try.checked) short_snd short_law started (ChangeSpec.witness6 (enc := enc) (C := Try.checked) false ⟨#[], #[.slice none 0 0, .agg #[.int .i64 0, .int .i64 0, .int .i64 0, .int .i64 0, .int .i64 0, .int .i64 0, .int .i64 0, .int .i64 0, .int .i64 0, .int .i64 0, .int .i64 0], .int .u64 0, .int .i64 0], []⟩ 8 (by kernel_rfl) (by kernel_rfl) (by kernel_rfl) (by kernel_rfl)))
theorem cspaceMasks_row : RowOk Try.prog 7 Try.f7 Rows.cspaceMasksSpec [(true, CapT), (false, [.int .i64]), (false, [.int .i64])] where
  own := own
  noInit := by kernel_rfl
  isf := Try.func7
  laid := laid
  rowed := rowed
  full := full
  params := by kernel_rfl
  vars := rfl
  ret := ⟨_, rfl, by kernel_rfl⟩
  spec := fun H ds e => by
    match ds, e with
    | [_, _, _], _ => rfl
  tys := ⟨20, by kernel_rfl⟩
theorem cspaceMasks_holds : Rows.CspaceMasksSaid :=
  OpenClaim.holds_of_wide 7 Try.f7 rfl rfl rfl rfl rfl rfl rfl ⟨rfl, rfl, rfl, rfl, rfl⟩ rfl rfl rfl rfl rfl (by kernel_rfl) Try.func7 (by kernel_rfl)
    (of_decide_eq_true (by kernel_rfl)) (by unfold Func.isWrapper; first | (rw [if_pos (by decide +kernel)]; kernel_rfl) | (rw [if_neg (by decide +kernel)]; exact ⟨rfl, rfl⟩))
    (fun os started H enc _ => cspaceMasks_row.lifted (C := Try.checked) masks_snd masks_law started (ChangeSpec.witness6 (enc := enc) (C := Try.checked) false ⟨#[], #[.agg #[.int .i64 0, .int .i64 0, .int .i64 0, .int .i64 0, .int .i64 0, .int .i64 0, .int .i64 0, .int .i64 0, .int .i64 0, .int .i64 0, .int .i64 0], .int .i64 0, .int .i64 0], []⟩ 8 (by kernel_rfl) (by kernel_rfl) (by kernel_rfl) (by kernel_rfl)))
theorem cspaceResolves_row : RowOk Try.prog 8 Try.f8 Rows.cspaceResolvesSpec [(false, [.slice LayT]), (true, CapT), (false, [.int .u64]), (false, [.int .i64])] where
  own := own
  noInit := by kernel_rfl
  isf := Try.func8
  laid := laid
  rowed := rowed
  full := full
  params := by kernel_rfl
  vars := rfl
  ret := ⟨_, rfl, by kernel_rfl⟩
  spec := fun H ds e => by
    match ds, e with
    | [_, _, _, _], _ => rfl
  tys := ⟨20, by kernel_rfl⟩
theorem cspaceResolves_holds : Rows.CspaceResolvesSaid :=
  OpenClaim.holds_of_wide 8 Try.f8 rfl rfl rfl rfl rfl rfl rfl ⟨rfl, rfl, rfl, rfl, rfl⟩ rfl rfl rfl rfl rfl (by kernel_rfl) Try.func8 (by kernel_rfl)
    (of_decide_eq_true (by kernel_rfl)) (by unfold Func.isWrapper; first | (rw [if_pos (by decide +kernel)]; kernel_rfl) | (rw [if_neg (by decide +kernel)]; exact ⟨rfl, rfl⟩))
    (fun os started H enc _ => cspaceResolves_row.lifted (C := Try.checked) resolves_snd resolves_law started (ChangeSpec.witness6 (enc := enc) (C := Try.checked) false ⟨#[], #[.slice none 0 0, .agg #[.int .i64 0, .int .i64 0, .int .i64 0, .int .i64 0, .int .i64 0, .int .i64 0, .int .i64 0, .int .i64 0, .int .i64 0, .int .i64 0, .int .i64 0], .int .u64 0, .int .i64 0], []⟩ 8 (by kernel_rfl) (by kernel_rfl) (by kernel_rfl) (by kernel_rfl)))
end Go.Proofs.Ytdlloccodmdnnaa

