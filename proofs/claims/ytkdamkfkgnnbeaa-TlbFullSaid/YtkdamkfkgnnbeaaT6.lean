/- TlbFull: for every input the law's Go function answers true, and its arguments read behind the call as before. No conditions. -/
import Derived.Test.YtkdamkfkgnnbeaaRows
import Derived.Test.YtkdamkfkgnnbeaaT5
import Derived.Test.YtkdamkfkgnnbeaaDT
namespace Go.Proofs.Ytkdamkfkgnnbeaa
open Go.D
set_option maxRecDepth 100000

theorem own : ownKnob Try.prog.godebug = none := by kernel_rfl
theorem laid : laidOutB Try.prog = true := by kernel_rfl
theorem rowed : mapsRowed Try.prog = true := by kernel_rfl
theorem full : slicesFull Try.prog = true := by kernel_rfl

abbrev LnT : List TY := [.int .i64, .int .i64, .int .i64, .int .i64]

theorem hasTs_ln {h : List Blk} {ss : List S} (H : hasTs h LnT ss) : ∃ l : Ln, ss = l.c := by
  match ss, H with
  | [a, b, c, d], H =>
    obtain ⟨⟨n1, rfl, _⟩, ⟨n2, rfl, _⟩, ⟨n3, rfl, _⟩, ⟨n4, rfl, _⟩, _⟩ := H
    exact ⟨⟨n1, n2, n3, n4⟩, rfl⟩
  | [], H => exact H.elim
  | [_], H => exact H.2.elim
  | [_, _], H => exact H.2.2.elim
  | [_, _, _], H => exact H.2.2.2.elim
  | _ :: _ :: _ :: _ :: _ :: _, H => exact H.2.2.2.2.elim

/-- A slice of elements that are read one by one. -/
theorem hasT_arr {α : Type} {c : α → List S} {h : List Blk} {e : List TY} (hd : ∀ ss, hasTs h e ss → ∃ x, ss = c x) : ∀ (E : List (List S)), (∀ x, x ∈ E → hasTs h e x) → ∃ L : List α, E.flatten = arr c L ∧ L.length = E.length
  | [], _ => ⟨[], rfl, rfl⟩
  | x :: E, H => by
    obtain ⟨y, rfl⟩ := hd x (H x List.mem_cons_self)
    obtain ⟨L, e1, e2⟩ := hasT_arr hd E (fun z hz => H z (List.mem_cons_of_mem _ hz))
    exact ⟨y :: L, by simp [arr, e1], by simp [e2]⟩

theorem isLns_of {h : List Blk} {s : S} (H : hasT h (.slice LnT) s) : ∃ L, isLns h (.s s) L ∧ L.length ≤ maxLen := by
  rcases H with rfl | ⟨j, n, c, E, st, room, rfl, h1, h2, h3, h4, h7, _, h5⟩
  · exact ⟨[], .inl ⟨rfl, rfl⟩, Nat.zero_le _⟩
  · obtain ⟨L, e1, e2⟩ := hasT_arr (fun ss => hasTs_ln) E h5
    refine ⟨L, .inr ⟨j, st, room, c, by rw [e2, h4], by rw [h3, e1], ?_⟩, by omega⟩
    intro h6
    rw [h7 (by omega)]
    exact fun h => BK.noConfusion h

theorem full_row : RowOk Try.prog 3 Try.f3 Rows.tlbFullSpec [(false, [.slice LnT]), (true, LnT), (false, [.int .i64])] where
  own := own
  noInit := by kernel_rfl
  isf := Try.func3
  laid := laid
  rowed := rowed
  full := full
  params := by kernel_rfl
  vars := rfl
  ret := ⟨_, rfl, by kernel_rfl⟩
  spec := fun H ds e => by
    match ds, e with
    | [_, _, _], _ => rfl
  tys := ⟨20, by kernel_rfl⟩

theorem full_law : Law fullS [(false, [.slice LnT]), (true, LnT), (false, [.int .i64])] := by
  intro h us H hc
  match us, H with
  | [a, b, c], ⟨⟨s, ea, H1, _⟩, ⟨ss, eb, H2⟩, ⟨s3, ec, H3, _⟩, _⟩ =>
    subst ea; subst eb; subst ec
    obtain ⟨L, hL, hn⟩ := isLns_of H1
    obtain ⟨m, rfl⟩ := hasTs_ln H2
    obtain ⟨n, rfl, _⟩ := H3
    refine ⟨_, L, m, n, rfl, hL, ?_, fun _ => rfl⟩
    simpa [maxLen] using hn
  | [], H => exact H.elim
  | [_], H => exact H.2.elim
  | [_, _], H => exact H.2.2.elim
  | _ :: _ :: _ :: _ :: _, H => exact H.2.2.2.elim

theorem tlbFull_holds : Rows.TlbFullSaid :=
  OpenClaim.holds_of_wide 3 Try.f3 rfl rfl rfl rfl rfl rfl rfl ⟨rfl, rfl, rfl, rfl, rfl⟩ rfl rfl rfl rfl rfl (by kernel_rfl) Try.func3 (by kernel_rfl)
    (of_decide_eq_true (by kernel_rfl)) (by unfold Func.isWrapper; first | (rw [if_pos (by decide +kernel)]; kernel_rfl) | (rw [if_neg (by decide +kernel)]; exact ⟨rfl, rfl⟩))
    (fun os started H enc _ => full_row.lifted (C := Try.checked) full_snd full_law started (ChangeSpec.witness6 (enc := enc) (C := Try.checked) false ⟨#[], #[.slice none 0 0, .agg #[.int .i64 0, .int .i64 0, .int .i64 0, .int .i64 0], .int .i64 0], []⟩ 8 (by kernel_rfl) (by kernel_rfl) (by kernel_rfl) (by kernel_rfl)))

end Go.Proofs.Ytkdamkfkgnnbeaa
