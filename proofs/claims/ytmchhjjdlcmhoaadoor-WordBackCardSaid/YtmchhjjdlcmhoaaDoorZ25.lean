/- Rows of WordPacks and WordBack: for every input the law's Go function answers true, and its arguments read behind the call as before. math/bits.deBruijn64tab reads as the program's text lays it. -/
import Derived.Test.YtmchhjjdlcmhoaaDoorZ20
import Derived.Test.YtmchhjjdlcmhoaaDoorZ24
/- Rows of WordPacks and WordBack: for every input the law's Go function answers true, and its arguments read behind the call as before. math/bits.deBruijn64tab reads as the program's text lays it. -/
namespace Go.Proofs.YtmchhjjdlcmhoaaDoor
open Go.D
set_option linter.all false
set_option maxRecDepth 100000

theorem hasT_arrP {α : Type} {c : α → List S} {p : α → Prop} {h : List Blk} {e : List TY} (hd : ∀ ss, hasTs h e ss → ∃ x, ss = c x ∧ p x) : ∀ (E : List (List S)), (∀ x, x ∈ E → hasTs h e x) → ∃ L : List α, E.flatten = arr c L ∧ L.length = E.length ∧ ∀ x, x ∈ L → p x
  | [], _ => ⟨[], rfl, rfl, fun x hx => by cases hx⟩
  | x :: E, H => by
    obtain ⟨y, rfl, hy⟩ := hd x (H x List.mem_cons_self)
    obtain ⟨L, e1, e2, e3⟩ := hasT_arrP hd E (fun z hz => H z (List.mem_cons_of_mem _ hz))
    refine ⟨y :: L, by simp [arr, e1], by simp [e2], fun z hz => ?_⟩
    rcases List.mem_cons.1 hz with rfl | hz
    · exact hy
    · exact e3 z hz
theorem isArr_of {α : Type} {c : α → List S} {p : α → Prop} {h : List Blk} {e : List TY} {s : S} (hd : ∀ ss, hasTs h e ss → ∃ x, ss = c x ∧ p x) (H : hasT h (.slice e) s) : ∃ L : List α, IsArr c h s L ∧ (∀ x, x ∈ L → p x) ∧ L.length ≤ 140737488355328 := by
  rcases H with rfl | ⟨a, c, rfl⟩ | ⟨j, n, cp, E, st, room, rfl, h1, h2, h3, h4, h5, h6, h7⟩
  · exact ⟨[], .inl ⟨.inl rfl, rfl⟩, (fun x hx => by cases hx), by simp⟩
  · exact ⟨[], .inl ⟨.inr ⟨a, c, rfl⟩, rfl⟩, (fun x hx => by cases hx), by simp⟩
  · obtain ⟨L, e1, e2, e3⟩ := hasT_arrP (c := c) (p := p) hd E h7
    have hn : L.length = n := by omega
    refine ⟨L, .inr ⟨j, cp, st, room, by rw [hn], by rw [← e1]; exact h3, fun h0 e => ?_⟩, e3, ?_⟩
    · have := h5 (by omega)
      rw [this] at e; cases e
    · omega
theorem hasV_slice {α : Type} {c : α → List S} {p : α → Prop} {h : List Blk} {e : List TY} {v : V} (hd : ∀ ss, hasTs h e ss → ∃ x, ss = c x ∧ p x) (H : hasV h (false, [.slice e]) v) : ∃ (s : S) (L : List α), v = .s s ∧ IsArr c h s L ∧ (∀ x, x ∈ L → p x) ∧ L.length ≤ 140737488355328 := by
  obtain ⟨s, rfl, H1, _⟩ := H
  obtain ⟨L, e1, e2, e3⟩ := isArr_of hd H1
  exact ⟨s, L, rfl, e1, e2, e3⟩

theorem hasTs_fd {h : List Blk} {ss : List S} (H : hasTs h [.int .i64, .int .u64] ss) : ∃ f : Fd, ss = Fd.c f ∧ u64 f.v := by
  obtain ⟨_, _, rfl, ⟨a, rfl, _⟩, H0⟩ := hasTs_cons H
  obtain ⟨_, _, rfl, ⟨b, rfl, hb⟩, H1⟩ := hasTs_cons H0
  obtain rfl := hasTs_nil H1
  exact ⟨⟨a, b⟩, rfl, u64_wf hb⟩
theorem hasTs_ic {h : List Blk} {ss : List S} (H : hasTs h [.int .i64] ss) : ∃ n : Int, ss = Ic n ∧ True := by
  obtain ⟨_, _, rfl, ⟨a, rfl, _⟩, H0⟩ := hasTs_cons H
  obtain rfl := hasTs_nil H0
  exact ⟨a, rfl, trivial⟩
theorem wordPacks_law : Law wordPacksS [(false, [.slice [.int .i64, .int .u64]]), (false, [.int .u64]), (false, [.slice [.int .i64]])] := by
  intro h us H hc
  obtain ⟨_, _, _, rfl, H1, H2, H3⟩ := law3 H
  obtain ⟨s, F, rfl, e1, e2, _⟩ := hasV_slice (c := Fd.c) (p := fun f => u64 f.v) (fun ss h => hasTs_fd h) H1
  obtain ⟨w, rfl, hw⟩ := hasV_int H2
  obtain ⟨s2, L, rfl, f1, _, _⟩ := hasV_slice (c := Ic) (p := fun _ => True) (fun ss h => hasTs_ic h) H3
  exact ⟨s, F, w, s2, L, rfl, e1, e2, u64_wf hw, f1, rfl⟩
theorem wordBack_law : Law wordBackS [(false, [.slice [.int .i64, .int .u64]]), (false, [.int .u64]), (false, [.slice [.int .i64]])] := by
  intro h us H hc
  obtain ⟨_, _, _, rfl, H1, H2, H3⟩ := law3 H
  obtain ⟨s, F, rfl, e1, e2, _⟩ := hasV_slice (c := Fd.c) (p := fun f => u64 f.v) (fun ss h => hasTs_fd h) H1
  obtain ⟨w, rfl, hw⟩ := hasV_int H2
  obtain ⟨s2, L, rfl, f1, _, _⟩ := hasV_slice (c := Ic) (p := fun _ => True) (fun ss h => hasTs_ic h) H3
  exact ⟨s, F, w, s2, L, rfl, e1, e2, u64_wf hw, f1, rfl⟩

theorem wordPacks_row : RowOkL Tryd.prog 4 Tryd.f4 Rows.wordPacksSpec [(false, [.slice [.int .i64, .int .u64]]), (false, [.int .u64]), (false, [.slice [.int .i64]])] Rows.wordPacksRow.laid where
  own := own
  tabs := tabs_met
  noInit := by kernel_rfl
  isf := Tryd.func4
  laid := laid
  rowed := rowed
  full := full
  params := by kernel_rfl
  vars := rfl
  ret := ⟨_, rfl, by kernel_rfl⟩
  spec := fun H ds e => by
    match ds, e with
    | [_, _, _], _ => rfl
  tys := ⟨20, by kernel_rfl⟩
theorem wordPacks_said : Rows.WordPacksSaid :=
  OpenClaim.holds_of_wide 4 Tryd.f4 rfl rfl rfl rfl rfl rfl rfl ⟨rfl, rfl, rfl, rfl, rfl⟩ rfl rfl rfl rfl rfl (by kernel_rfl) Tryd.func4 (by kernel_rfl)
    (of_decide_eq_true (by kernel_rfl)) (by unfold Func.isWrapper; first | (rw [if_pos (by decide +kernel)]; kernel_rfl) | (rw [if_neg (by decide +kernel)]; exact ⟨rfl, rfl⟩))
    (fun os started H enc _ => wordPacks_row.lifted (C := Tryd.checked) wordPacks_snd wordPacks_law started (ChangeSpec.witness_shaped (enc := enc) (C := Tryd.checked) (os := os) (X := fun w _ => laidMetH Tryd.prog Rows.wordPacksRow.laid w) false (World.doorLaid Tryd.prog 400 os) #[.slice none 0 0, .int .u64 0, .slice none 0 0] 8 rfl (World.shaped_of_RefB (by kernel_rfl) (by kernel_rfl)) (by kernel_rfl) (by kernel_rfl) (by kernel_rfl) (door_met os _)))
theorem wordPacks_holds : Rows.WordPacksCardSaid :=
  Claim7.holds_tied_plain_at .later [] [.data] true (true, Rows.wordPacksCard.stood.harness.2) false
    wordPacks_said (fun _ h => by cases h) (by kernel_rfl) (fun _ h => by cases h) wordPacks_row_tie rfl ⟨rfl, rfl⟩ (by kernel_rfl) rfl
    (fun f fn hf hfn => by
      obtain rfl : f = 4 := Option.some.inj ((show Tryd.prog.funcNamed Rows.wordPacksRow.func = some 4 by kernel_rfl).symm.trans hf) |>.symm
      obtain rfl : fn = Tryd.f4 := (Option.some.inj (Tryd.func4.symm.trans hfn)).symm
      exact ⟨by kernel_rfl, fun j t ht => by
        rw [Tryd.params4] at ht
        have hm : t ∈ [31, 22, 32] := by simpa using Array.mem_of_getElem? ht
        have hall : ([31, 22, 32].all fun u => !Tryd.prog.wantsStandIn u) = true := by kernel_rfl
        exact (show Tryd.prog.wantsStandIn t = false by simpa using List.all_eq_true.1 hall t hm)⟩)
    (by kernel_rfl)
theorem wordBack_row : RowOkL Tryd.prog 7 Tryd.f7 Rows.wordBackSpec [(false, [.slice [.int .i64, .int .u64]]), (false, [.int .u64]), (false, [.slice [.int .i64]])] Rows.wordBackRow.laid where
  own := own
  tabs := tabs_met
  noInit := by kernel_rfl
  isf := Tryd.func7
  laid := laid
  rowed := rowed
  full := full
  params := by kernel_rfl
  vars := rfl
  ret := ⟨_, rfl, by kernel_rfl⟩
  spec := fun H ds e => by
    match ds, e with
    | [_, _, _], _ => rfl
  tys := ⟨20, by kernel_rfl⟩
theorem wordBack_said : Rows.WordBackSaid :=
  OpenClaim.holds_of_wide 7 Tryd.f7 rfl rfl rfl rfl rfl rfl rfl ⟨rfl, rfl, rfl, rfl, rfl⟩ rfl rfl rfl rfl rfl (by kernel_rfl) Tryd.func7 (by kernel_rfl)
    (of_decide_eq_true (by kernel_rfl)) (by unfold Func.isWrapper; first | (rw [if_pos (by decide +kernel)]; kernel_rfl) | (rw [if_neg (by decide +kernel)]; exact ⟨rfl, rfl⟩))
    (fun os started H enc _ => wordBack_row.lifted (C := Tryd.checked) wordBack_snd wordBack_law started (ChangeSpec.witness_shaped (enc := enc) (C := Tryd.checked) (os := os) (X := fun w _ => laidMetH Tryd.prog Rows.wordBackRow.laid w) false (World.doorLaid Tryd.prog 400 os) #[.slice none 0 0, .int .u64 0, .slice none 0 0] 8 rfl (World.shaped_of_RefB (by kernel_rfl) (by kernel_rfl)) (by kernel_rfl) (by kernel_rfl) (by kernel_rfl) (door_met os _)))
theorem wordBack_holds : Rows.WordBackCardSaid :=
  Claim7.holds_tied_plain_at .later [] [.data] true (true, Rows.wordBackCard.stood.harness.2) false
    wordBack_said (fun _ h => by cases h) (by kernel_rfl) (fun _ h => by cases h) wordBack_row_tie rfl ⟨rfl, rfl⟩ (by kernel_rfl) rfl
    (fun f fn hf hfn => by
      obtain rfl : f = 7 := Option.some.inj ((show Tryd.prog.funcNamed Rows.wordBackRow.func = some 7 by kernel_rfl).symm.trans hf) |>.symm
      obtain rfl : fn = Tryd.f7 := (Option.some.inj (Tryd.func7.symm.trans hfn)).symm
      exact ⟨by kernel_rfl, fun j t ht => by
        rw [Tryd.params7] at ht
        have hm : t ∈ [31, 22, 32] := by simpa using Array.mem_of_getElem? ht
        have hall : ([31, 22, 32].all fun u => !Tryd.prog.wantsStandIn u) = true := by kernel_rfl
        exact (show Tryd.prog.wantsStandIn t = false by simpa using List.all_eq_true.1 hall t hm)⟩)
    (by kernel_rfl)
end Go.Proofs.YtmchhjjdlcmhoaaDoor

