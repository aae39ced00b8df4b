/- ObjsBack: for every input the law's Go function answers true, and its arguments read behind the call as before. No conditions. -/
import Derived.Test.YtdlloccodmdnnaaRows
import Derived.Test.YtdlloccodmdnnaaZ28
import Derived.Test.YtdlloccodmdnnaaZ29
/- ObjsBack: for every input the law's Go function answers true, and its arguments read behind the call as before. No conditions. -/
namespace Go.Proofs.Ytdlloccodmdnnaa
open Go.D
set_option linter.all false
set_option maxRecDepth 100000

theorem lawC {h : List Blk} {x : Bool × List TY} {xs : List (Bool × List TY)} {us : List V} (H : hasVs h (x :: xs) us) : ∃ u vs, us = u :: vs ∧ hasV h x u ∧ hasVs h xs vs := by
  match us, H with
  | u :: vs, H => exact ⟨u, vs, rfl, H.1, H.2⟩
  | [], H => exact H.elim
theorem lawN {h : List Blk} {us : List V} (H : hasVs h [] us) : us = [] := by
  match us, H with
  | [], _ => rfl
  | _ :: _, H => exact H.elim
theorem i64_sml {n : Int} (h : (Lit.int .i64 n).wf = true) : sml n := by
  have e : (decide ((-9223372036854775808 : Int) ≤ n) && decide (n ≤ 9223372036854775807)) = true := h
  simp only [Bool.and_eq_true, decide_eq_true_eq] at e
  unfold sml; omega
def OoT : List TY := .int .i64 :: .int .i64 :: .int .i64 :: .int .u64 :: .int .i64 :: .int .i64 :: .int .i64 :: .bool :: .int .i64 :: .int .i64 :: .int .i64 :: .int .i64 :: .bool :: .bool :: .int .i64 :: .int .i64 :: .int .i64 :: .int .i64 :: .int .u64 :: .int .u64 :: .int .u64 :: .int .u64 :: .int .u64 :: .int .u64 :: .int .u64 :: .int .u64 :: .int .u64 :: .int .u64 :: .int .u64 :: .int .u64 :: .int .u64 :: .int .u64 :: .int .u64 :: .int .u64 :: .int .i64 :: .int .i64 :: .int .i64 :: .int .i64 :: .int .i64 :: .int .i64 :: .int .i64 :: .int .i64 :: .bool :: .bool :: .int .i64 :: .int .i64 :: .int .i64 :: []
theorem hasTs_oo {h : List Blk} {ss : List S} (H0 : hasTs h OoT ss) : ∃ o : Oo, ss = o.cl ∧ o.u := by
  unfold OoT at H0
  obtain ⟨_, _, rfl, ⟨x0, rfl, h0⟩, H1⟩ := hasTs_cons H0
  clear H0
  obtain ⟨_, _, rfl, ⟨x1, rfl, h1⟩, H2⟩ := hasTs_cons H1
  clear H1
  obtain ⟨_, _, rfl, ⟨x2, rfl, h2⟩, H3⟩ := hasTs_cons H2
  clear H2
  obtain ⟨_, _, rfl, ⟨x3, rfl, h3⟩, H4⟩ := hasTs_cons H3
  clear H3
  obtain ⟨_, _, rfl, ⟨x4, rfl, h4⟩, H5⟩ := hasTs_cons H4
  clear H4
  obtain ⟨_, _, rfl, ⟨x5, rfl, h5⟩, H6⟩ := hasTs_cons H5
  clear H5
  obtain ⟨_, _, rfl, ⟨x6, rfl, h6⟩, H7⟩ := hasTs_cons H6
  clear H6
  obtain ⟨_, _, rfl, ⟨x7, rfl⟩, H8⟩ := hasTs_cons H7
  clear H7
  obtain ⟨_, _, rfl, ⟨x8, rfl, h8⟩, H9⟩ := hasTs_cons H8
  clear H8
  obtain ⟨_, _, rfl, ⟨x9, rfl, h9⟩, H10⟩ := hasTs_cons H9
  clear H9
  obtain ⟨_, _, rfl, ⟨x10, rfl, h10⟩, H11⟩ := hasTs_cons H10
  clear H10
  obtain ⟨_, _, rfl, ⟨x11, rfl, h11⟩, H12⟩ := hasTs_cons H11
  clear H11
  obtain ⟨_, _, rfl, ⟨x12, rfl⟩, H13⟩ := hasTs_cons H12
  clear H12
  obtain ⟨_, _, rfl, ⟨x13, rfl⟩, H14⟩ := hasTs_cons H13
  clear H13
  obtain ⟨_, _, rfl, ⟨x14, rfl, h14⟩, H15⟩ := hasTs_cons H14
  clear H14
  obtain ⟨_, _, rfl, ⟨x15, rfl, h15⟩, H16⟩ := hasTs_cons H15
  clear H15
  obtain ⟨_, _, rfl, ⟨x16, rfl, h16⟩, H17⟩ := hasTs_cons H16
  clear H16
  obtain ⟨_, _, rfl, ⟨x17, rfl, h17⟩, H18⟩ := hasTs_cons H17
  clear H17
  obtain ⟨_, _, rfl, ⟨x18, rfl, h18⟩, H19⟩ := hasTs_cons H18
  clear H18
  obtain ⟨_, _, rfl, ⟨x19, rfl, h19⟩, H20⟩ := hasTs_cons H19
  clear H19
  obtain ⟨_, _, rfl, ⟨x20, rfl, h20⟩, H21⟩ := hasTs_cons H20
  clear H20
  obtain ⟨_, _, rfl, ⟨x21, rfl, h21⟩, H22⟩ := hasTs_cons H21
  clear H21
  obtain ⟨_, _, rfl, ⟨x22, rfl, h22⟩, H23⟩ := hasTs_cons H22
  clear H22
  obtain ⟨_, _, rfl, ⟨x23, rfl, h23⟩, H24⟩ := hasTs_cons H23
  clear H23
  obtain ⟨_, _, rfl, ⟨x24, rfl, h24⟩, H25⟩ := hasTs_cons H24
  clear H24
  obtain ⟨_, _, rfl, ⟨x25, rfl, h25⟩, H26⟩ := hasTs_cons H25
  clear H25
  obtain ⟨_, _, rfl, ⟨x26, rfl, h26⟩, H27⟩ := hasTs_cons H26
  clear H26
  obtain ⟨_, _, rfl, ⟨x27, rfl, h27⟩, H28⟩ := hasTs_cons H27
  clear H27
  obtain ⟨_, _, rfl, ⟨x28, rfl, h28⟩, H29⟩ := hasTs_cons H28
  clear H28
  obtain ⟨_, _, rfl, ⟨x29, rfl, h29⟩, H30⟩ := hasTs_cons H29
  clear H29
  obtain ⟨_, _, rfl, ⟨x30, rfl, h30⟩, H31⟩ := hasTs_cons H30
  clear H30
  obtain ⟨_, _, rfl, ⟨x31, rfl, h31⟩, H32⟩ := hasTs_cons H31
  clear H31
  obtain ⟨_, _, rfl, ⟨x32, rfl, h32⟩, H33⟩ := hasTs_cons H32
  clear H32
  obtain ⟨_, _, rfl, ⟨x33, rfl, h33⟩, H34⟩ := hasTs_cons H33
  clear H33
  obtain ⟨_, _, rfl, ⟨x34, rfl, h34⟩, H35⟩ := hasTs_cons H34
  clear H34
  obtain ⟨_, _, rfl, ⟨x35, rfl, h35⟩, H36⟩ := hasTs_cons H35
  clear H35
  obtain ⟨_, _, rfl, ⟨x36, rfl, h36⟩, H37⟩ := hasTs_cons H36
  clear H36
  obtain ⟨_, _, rfl, ⟨x37, rfl, h37⟩, H38⟩ := hasTs_cons H37
  clear H37
  obtain ⟨_, _, rfl, ⟨x38, rfl, h38⟩, H39⟩ := hasTs_cons H38
  clear H38
  obtain ⟨_, _, rfl, ⟨x39, rfl, h39⟩, H40⟩ := hasTs_cons H39
  clear H39
  obtain ⟨_, _, rfl, ⟨x40, rfl, h40⟩, H41⟩ := hasTs_cons H40
  clear H40
  obtain ⟨_, _, rfl, ⟨x41, rfl, h41⟩, H42⟩ := hasTs_cons H41
  clear H41
  obtain ⟨_, _, rfl, ⟨x42, rfl⟩, H43⟩ := hasTs_cons H42
  clear H42
  obtain ⟨_, _, rfl, ⟨x43, rfl⟩, H44⟩ := hasTs_cons H43
  clear H43
  obtain ⟨_, _, rfl, ⟨x44, rfl, h44⟩, H45⟩ := hasTs_cons H44
  clear H44
  obtain ⟨_, _, rfl, ⟨x45, rfl, h45⟩, H46⟩ := hasTs_cons H45
  clear H45
  obtain ⟨_, _, rfl, ⟨x46, rfl, h46⟩, H47⟩ := hasTs_cons H46
  clear H46
  obtain rfl := hasTs_nil H47
  refine ⟨⟨x0, x1, x2, x3, ⟨x4, x5, x6, x7, x8, x9, x10, x11, x12, x13, x14, x15, x16, x17, x18 :: x19 :: x20 :: x21 :: x22 :: x23 :: x24 :: x25 :: x26 :: x27 :: x28 :: x29 :: x30 :: x31 :: x32 :: x33 :: []⟩, ⟨x34, x35, x36⟩, ⟨x37, x38, x39, x40, x41⟩, ⟨x42, x43, x44, x45⟩, x46, rfl⟩, rfl, u64_wf h3, ⟨?_, ?_⟩, ?_, ?_⟩
  · exact ⟨i64_sml h4, i64_sml h5, i64_sml h6, i64_sml h8, i64_sml h9, i64_sml h10, i64_sml h11, i64_sml h14, i64_sml h15, i64_sml h16, i64_sml h17⟩
  · intro v hv
    simp only [List.mem_cons, List.not_mem_nil, or_false] at hv
    rcases hv with rfl | rfl | rfl | rfl | rfl | rfl | rfl | rfl | rfl | rfl | rfl | rfl | rfl | rfl | rfl | rfl
    · exact u64_wf h18
    · exact u64_wf h19
    · exact u64_wf h20
    · exact u64_wf h21
    · exact u64_wf h22
    · exact u64_wf h23
    · exact u64_wf h24
    · exact u64_wf h25
    · exact u64_wf h26
    · exact u64_wf h27
    · exact u64_wf h28
    · exact u64_wf h29
    · exact u64_wf h30
    · exact u64_wf h31
    · exact u64_wf h32
    · exact u64_wf h33
  · exact ⟨i64_sml h34, i64_sml h35, i64_sml h36⟩
  · exact ⟨i64_sml h37, i64_sml h38, i64_sml h39, i64_sml h40, i64_sml h41⟩
theorem hasV_oo {h : List Blk} {v : V} (H : hasV h (true, OoT) v) : ∃ o : Oo, v = .agg o.cl ∧ o.u := by
  obtain ⟨ss, rfl, H1⟩ := H
  obtain ⟨o, rfl, hu⟩ := hasTs_oo H1
  exact ⟨o, rfl, hu⟩
theorem objsBack_law : Law (FSpec.of objsBackG) [(true, OoT)] := by
  intro h us H hc
  obtain ⟨_, _, rfl, H1, H⟩ := lawC H
  obtain rfl := lawN H
  obtain ⟨o, rfl, ho⟩ := hasV_oo H1
  exact objsBack_law' ho rfl
theorem objsBack_row : RowOk Try.prog 11 Try.f11 Rows.objsBackSpec [(true, OoT)] where
  own := own
  noInit := by kernel_rfl
  isf := Try.func11
  laid := laid
  rowed := rowed
  full := full
  params := by kernel_rfl
  vars := rfl
  ret := ⟨_, rfl, by kernel_rfl⟩
  spec := fun H ds e => by
    match ds, e with
    | [_], _ => rfl
  tys := ⟨20, by kernel_rfl⟩
theorem objsBack_holds : Rows.ObjsBackSaid :=
  OpenClaim.holds_of_wide 11 Try.f11 rfl rfl rfl rfl rfl rfl rfl ⟨rfl, rfl, rfl, rfl, rfl⟩ rfl rfl rfl rfl rfl (by kernel_rfl) Try.func11 (by kernel_rfl)
    (of_decide_eq_true (by kernel_rfl)) (by unfold Func.isWrapper; first | (rw [if_pos (by decide +kernel)]; kernel_rfl) | (rw [if_neg (by decide +kernel)]; exact ⟨rfl, rfl⟩))
    (fun os started H enc _ => objsBack_row.lifted (C := Try.checked) objsBack_snd objsBack_law started (ChangeSpec.witness6 (enc := enc) (C := Try.checked) false ⟨#[], #[.agg #[.int .i64 0, .int .i64 0, .int .i64 0, .int .u64 0, .int .i64 0, .int .i64 0, .int .i64 0, .bool false, .int .i64 0, .int .i64 0, .int .i64 0, .int .i64 0, .bool false, .bool false, .int .i64 0, .int .i64 0, .int .i64 0, .int .i64 0, .int .u64 0, .int .u64 0, .int .u64 0, .int .u64 0, .int .u64 0, .int .u64 0, .int .u64 0, .int .u64 0, .int .u64 0, .int .u64 0, .int .u64 0, .int .u64 0, .int .u64 0, .int .u64 0, .int .u64 0, .int .u64 0, .int .i64 0, .int .i64 0, .int .i64 0, .int .i64 0, .int .i64 0, .int .i64 0, .int .i64 0, .int .i64 0, .bool false, .bool false, .int .i64 0, .int .i64 0, .int .i64 0]], []⟩ 8 (by kernel_rfl) (by kernel_rfl) (by kernel_rfl) (by kernel_rfl)))
end Go.Proofs.Ytdlloccodmdnnaa

