/- WalkApart, WalkReaches, WalkBuffered: for every input the law's Go function answers true, and its arguments read behind the call as before. No conditions. -/
import Derived.Test.YteeeidldknlblaaRows
import Derived.Test.YteeeidldknlblaaZ4
import Derived.Test.YteeeidldknlblaaZ3
import Derived.Test.YteeeidldknlblaaZ1
/- The facts of the rows of this seat. -/
namespace Go.Proofs.Yteeeidldknlblaa
open Go.D
set_option linter.all false
set_option maxRecDepth 100000

theorem own : ownKnob Try.prog.godebug = none := by kernel_rfl
theorem laid : laidOutB Try.prog = true := by kernel_rfl
theorem rowed : mapsRowed Try.prog = true := by kernel_rfl
theorem full : slicesFull Try.prog = true := by kernel_rfl

theorem hasTs_cons {h : List Blk} {t : TY} {ts : List TY} {ss : List S} (H : hasTs h (t :: ts) ss) : ∃ s ss', ss = s :: ss' ∧ hasT h t s ∧ hasTs h ts ss' := by
  cases ss with
  | nil => exact H.elim
  | cons s ss => exact ⟨s, ss, rfl, H.1, H.2⟩
theorem hasTs_nil {h : List Blk} {ss : List S} (H : hasTs h [] ss) : ss = [] := by
  cases ss with
  | nil => rfl
  | cons s ss => exact H.elim
theorem hasT_int {h : List Blk} {k : IntKind} {s : S} (H : hasT h (.int k) s) : ∃ n, s = .i k n ∧ (Lit.int k n).wf = true := H
theorem hasT_bool {h : List Blk} {s : S} (H : hasT h .bool s) : ∃ b, s = .b b := H
/-- The arguments, one by one. -/
theorem law1 {h : List Blk} {x : Bool × List TY} {us : List V} (H : hasVs h [x] us) : ∃ u, us = [u] ∧ hasV h x u := by
  match us, H with
  | [u], H => exact ⟨u, rfl, H.1⟩
  | [], H => exact H.elim
  | _ :: _ :: _, H => exact H.2.elim
theorem law2 {h : List Blk} {x y : Bool × List TY} {us : List V} (H : hasVs h [x, y] us) : ∃ u v, us = [u, v] ∧ hasV h x u ∧ hasV h y v := by
  match us, H with
  | [u, v], H => exact ⟨u, v, rfl, H.1, H.2.1⟩
  | [], H => exact H.elim
  | [_], H => exact H.2.elim
  | _ :: _ :: _ :: _, H => exact H.2.2.elim
theorem law3 {h : List Blk} {x y z : Bool × List TY} {us : List V} (H : hasVs h [x, y, z] us) : ∃ u v w, us = [u, v, w] ∧ hasV h x u ∧ hasV h y v ∧ hasV h z w := by
  match us, H with
  | [u, v, w], H => exact ⟨u, v, w, rfl, H.1, H.2.1, H.2.2.1⟩
  | [], H => exact H.elim
  | [_], H => exact H.2.elim
  | [_, _], H => exact H.2.2.elim
  | _ :: _ :: _ :: _ :: _, H => exact H.2.2.2.elim
theorem hasV_int {h : List Blk} {k : IntKind} {v : V} (H : hasV h (false, [.int k]) v) : ∃ n, v = .s (.i k n) ∧ (Lit.int k n).wf = true := by
  obtain ⟨s, rfl, ⟨n, rfl, hn⟩, _⟩ := H
  exact ⟨n, rfl, hn⟩

/-- A slice of elements that are read one by one. -/
theorem hasT_arr {α : Type} {c : α → List S} {h : List Blk} {e : List TY} (hd : ∀ ss, hasTs h e ss → ∃ x, ss = c x) : ∀ (E : List (List S)), (∀ x, x ∈ E → hasTs h e x) → ∃ L : List α, E.flatten = arr c L ∧ L.length = E.length
  | [], _ => ⟨[], rfl, rfl⟩
  | x :: E, H => by
    obtain ⟨y, rfl⟩ := hd x (H x List.mem_cons_self)
    obtain ⟨L, e1, e2⟩ := hasT_arr hd E (fun z hz => H z (List.mem_cons_of_mem _ hz))
    exact ⟨y :: L, by simp [arr, e1], by simp [e2]⟩
end Go.Proofs.Yteeeidldknlblaa

/- Slices as arguments of a statement. -/
namespace Go.Proofs.Yteeeidldknlblaa
open Go.D
set_option linter.all false
set_option maxRecDepth 100000

theorem hasT_arrP {α : Type} {c : α → List S} {p : α → Prop} {h : List Blk} {e : List TY} (hd : ∀ ss, hasTs h e ss → ∃ x, ss = c x ∧ p x) : ∀ (E : List (List S)), (∀ x, x ∈ E → hasTs h e x) → ∃ L : List α, E.flatten = arr c L ∧ L.length = E.length ∧ ∀ x, x ∈ L → p x
  | [], _ => ⟨[], rfl, rfl, fun x hx => by cases hx⟩
  | x :: E, H => by
    obtain ⟨y, rfl, hy⟩ := hd x (H x List.mem_cons_self)
    obtain ⟨L, e1, e2, e3⟩ := hasT_arrP hd E (fun z hz => H z (List.mem_cons_of_mem _ hz))
    refine ⟨y :: L, by simp [arr, e1], by simp [e2], fun z hz => ?_⟩
    rcases List.mem_cons.1 hz with rfl | hz
    · exact hy
    · exact e3 z hz
theorem isArr_of {α : Type} {c : α → List S} {p : α → Prop} {h : List Blk} {e : List TY} {s : S} (hd : ∀ ss, hasTs h e ss → ∃ x, ss = c x ∧ p x) (H : hasT h (.slice e) s) : ∃ L : List α, IsArr c h s L ∧ (∀ x, x ∈ L → p x) ∧ L.length ≤ 140737488355328 := by
  rcases H with rfl | ⟨a, c, rfl⟩ | ⟨j, n, cp, E, st, room, rfl, h1, h2, h3, h4, h5, h6, h7⟩
  · exact ⟨[], .inl ⟨.inl rfl, rfl⟩, (fun x hx => by cases hx), by simp⟩
  · exact ⟨[], .inl ⟨.inr ⟨a, c, rfl⟩, rfl⟩, (fun x hx => by cases hx), by simp⟩
  · obtain ⟨L, e1, e2, e3⟩ := hasT_arrP (c := c) (p := p) hd E h7
    have hn : L.length = n := by omega
    refine ⟨L, .inr ⟨j, cp, st, room, by rw [hn], by rw [← e1]; exact h3, fun h0 e => ?_⟩, e3, ?_⟩
    · have := h5 (by omega)
      rw [this] at e; cases e
    · omega
theorem hasV_slice {α : Type} {c : α → List S} {p : α → Prop} {h : List Blk} {e : List TY} {v : V} (hd : ∀ ss, hasTs h e ss → ∃ x, ss = c x ∧ p x) (H : hasV h (false, [.slice e]) v) : ∃ (s : S) (L : List α), v = .s s ∧ IsArr c h s L ∧ (∀ x, x ∈ L → p x) ∧ L.length ≤ 140737488355328 := by
  obtain ⟨s, rfl, H1, _⟩ := H
  obtain ⟨L, e1, e2, e3⟩ := isArr_of hd H1
  exact ⟨s, L, rfl, e1, e2, e3⟩
def Uw.c (n : Int) : List S := [.i .u64 n]
theorem arr_wc : ∀ L : List Int, arr Uw.c L = wc L
  | [] => rfl
  | x :: L => by simp only [arr, Uw.c, wc_cons, arr_wc L, List.cons_append, List.nil_append]
theorem u64_wf {n : Int} (h : (Lit.int .u64 n).wf = true) : u64 n := by
  have e : (decide ((0 : Int) ≤ n) && decide (n ≤ 18446744073709551615)) = true := h
  simp only [Bool.and_eq_true, decide_eq_true_eq] at e
  simp only [u64]; omega
/-- A slice of words. -/
theorem isList_of {h : List Blk} {s : S} (H : hasT h (.slice [.int .u64]) s) : ∃ L : List Int, IsList h s L ∧ (∀ x, x ∈ L → u64 x) ∧ L.length ≤ 140737488355328 := by
  obtain ⟨L, e1, e2, e3⟩ := isArr_of (c := Uw.c) (p := u64) (fun ss h => by
    obtain ⟨_, _, rfl, ⟨n, rfl, hn⟩, H2⟩ := hasTs_cons h
    obtain rfl := hasTs_nil H2
    exact ⟨n, rfl, u64_wf hn⟩) H
  refine ⟨L, ?_, e2, e3⟩
  rcases e1 with ⟨e0, rfl⟩ | ⟨j, c', st, room, rfl, e1, hd⟩
  · exact .inl ⟨e0, rfl⟩
  · rw [arr_wc] at e1
    rcases Nat.eq_zero_or_pos L.length with h0 | h0
    · exact .inr (.inl ⟨j, 0, c', _, by rw [h0], e1, List.eq_nil_of_length_eq_zero h0⟩)
    · refine .inr (.inr ⟨j, 0, c', _, rfl, e1, hd (by omega), ?_, ?_⟩)
      · simp only [wc_len]; omega
      · simp only; rw [wc_sub, List.drop_zero, List.take_length]
end Go.Proofs.Yteeeidldknlblaa

/- WalkEntries, WalkWalks: for every input the law's Go function answers true, and its arguments read behind the call as before. No conditions. -/
namespace Go.Proofs.Yteeeidldknlblaa
open Go.D
set_option linter.all false
set_option maxRecDepth 100000

abbrev EnT : List TY := [.bool, .bool, .int .i64, .int .i64]
abbrev WdT : List TY := [.int .i64, .bool, .bool, .int .i64, .int .i64, .bool, .int .u64]
theorem hasTs_wd {h : List Blk} {ss : List S} (H : hasTs h WdT ss) : ∃ o : Wd, ss = o.c ∧ u64 o.w := by
  obtain ⟨_, _, rfl, ⟨a, rfl, _⟩, H0⟩ := hasTs_cons H
  obtain ⟨_, _, rfl, ⟨v, rfl⟩, H1⟩ := hasTs_cons H0
  obtain ⟨_, _, rfl, ⟨l, rfl⟩, H2⟩ := hasTs_cons H1
  obtain ⟨_, _, rfl, ⟨b, rfl, _⟩, H3⟩ := hasTs_cons H2
  obtain ⟨_, _, rfl, ⟨r, rfl, _⟩, H4⟩ := hasTs_cons H3
  obtain ⟨_, _, rfl, ⟨q, rfl⟩, H5⟩ := hasTs_cons H4
  obtain ⟨_, _, rfl, ⟨w, rfl, uw⟩, H6⟩ := hasTs_cons H5
  obtain rfl := hasTs_nil H6
  exact ⟨⟨a, ⟨v, l, b, r⟩, q, w⟩, rfl, u64_wf uw⟩
theorem entries_law : Law (FSpec.of entriesG) [(true, EnT ++ [.int .u64, .int .i64, .int .i64])] := by
  intro h us H hc
  obtain ⟨_, rfl, ss, rfl, H1⟩ := law1 H
  obtain ⟨_, _, rfl, ⟨v, rfl⟩, H2⟩ := hasTs_cons H1
  obtain ⟨_, _, rfl, ⟨l, rfl⟩, H3⟩ := hasTs_cons H2
  obtain ⟨_, _, rfl, ⟨b, rfl, _⟩, H4⟩ := hasTs_cons H3
  obtain ⟨_, _, rfl, ⟨r, rfl, _⟩, H5⟩ := hasTs_cons H4
  obtain ⟨_, _, rfl, ⟨w, rfl, uw⟩, H6⟩ := hasTs_cons H5
  obtain ⟨_, _, rfl, ⟨x, rfl, _⟩, H7⟩ := hasTs_cons H6
  obtain ⟨_, _, rfl, ⟨n, rfl, _⟩, H8⟩ := hasTs_cons H7
  obtain rfl := hasTs_nil H8
  exact ⟨u64_wf uw, rfl⟩
theorem walks_law : Law walksS [(false, [.slice WdT]), (false, [.int .i64]), (false, [.int .i64])] := by
  intro h us H hc
  obtain ⟨_, _, _, rfl, H1, H2, H3⟩ := law3 H
  obtain ⟨s, L, rfl, e1, e2, e3⟩ := hasV_slice (c := Wd.c) (p := fun x => u64 x.w) (fun ss h => hasTs_wd h) H1
  obtain ⟨t, rfl, _⟩ := hasV_int H2
  obtain ⟨v, rfl, _⟩ := hasV_int H3
  exact ⟨s, L, t, v, rfl, e1, e2, e3, fun _ => rfl⟩

theorem walkEntries_row : RowOk Try.prog 8 Try.f8 Rows.walkEntriesSpec [(true, EnT ++ [.int .u64, .int .i64, .int .i64])] where
  own := own
  noInit := by kernel_rfl
  isf := Try.func8
  laid := laid
  rowed := rowed
  full := full
  params := by kernel_rfl
  vars := rfl
  ret := ⟨_, rfl, by kernel_rfl⟩
  spec := fun H ds e => by
    match ds, e with
    | [_], _ => rfl
  tys := ⟨20, by kernel_rfl⟩
theorem walkEntries_holds : Rows.WalkEntriesSaid :=
  OpenClaim.holds_of_wide 8 Try.f8 rfl rfl rfl rfl rfl rfl rfl ⟨rfl, rfl, rfl, rfl, rfl⟩ rfl rfl rfl rfl rfl (by kernel_rfl) Try.func8 (by kernel_rfl)
    (of_decide_eq_true (by kernel_rfl)) (by unfold Func.isWrapper; first | (rw [if_pos (by decide +kernel)]; kernel_rfl) | (rw [if_neg (by decide +kernel)]; exact ⟨rfl, rfl⟩))
    (fun os started H enc _ => walkEntries_row.lifted (C := Try.checked) entries_snd entries_law started (ChangeSpec.witness6 (enc := enc) (C := Try.checked) false ⟨#[], #[.agg #[.bool false, .bool false, .int .i64 0, .int .i64 0, .int .u64 0, .int .i64 0, .int .i64 0]], []⟩ 8 (by kernel_rfl) (by kernel_rfl) (by kernel_rfl) (by kernel_rfl)))
theorem walkWalks_row : RowOk Try.prog 10 Try.f10 Rows.walkWalksSpec [(false, [.slice WdT]), (false, [.int .i64]), (false, [.int .i64])] where
  own := own
  noInit := by kernel_rfl
  isf := Try.func10
  laid := laid
  rowed := rowed
  full := full
  params := by kernel_rfl
  vars := rfl
  ret := ⟨_, rfl, by kernel_rfl⟩
  spec := fun H ds e => by
    match ds, e with
    | [_, _, _], _ => rfl
  tys := ⟨20, by kernel_rfl⟩
theorem walkWalks_holds : Rows.WalkWalksSaid :=
  OpenClaim.holds_of_wide 10 Try.f10 rfl rfl rfl rfl rfl rfl rfl ⟨rfl, rfl, rfl, rfl, rfl⟩ rfl rfl rfl rfl rfl (by kernel_rfl) Try.func10 (by kernel_rfl)
    (of_decide_eq_true (by kernel_rfl)) (by unfold Func.isWrapper; first | (rw [if_pos (by decide +kernel)]; kernel_rfl) | (rw [if_neg (by decide +kernel)]; exact ⟨rfl, rfl⟩))
    (fun os started H enc _ => walkWalks_row.lifted (C := Try.checked) walks_snd walks_law started (ChangeSpec.witness6 (enc := enc) (C := Try.checked) false ⟨#[], #[.slice none 0 0, .int .i64 0, .int .i64 0], []⟩ 8 (by kernel_rfl) (by kernel_rfl) (by kernel_rfl) (by kernel_rfl)))
end Go.Proofs.Yteeeidldknlblaa

/- Law 05: WalkApart. -/
namespace Go.Proofs.Yteeeidldknlblaa
open Go.D
set_option linter.all false
set_option maxRecDepth 100000
set_option maxHeartbeats 8000000

/-- The words on the way are not at an address. -/
def goesB (w : Int) : Bool := enB w && ((enOf w).v && !(enOf w).l)
def freeB (v a : Int) : Nat → M → Int → Int → Bool
  | 0, _, _, _ => true
  | n + 1, m, t, l => !(IntKind.i64.wrap (t + idxV v l) == a) && (if (m.has (IntKind.i64.wrap (t + idxV v l)) 1 && goesB (m.readV (IntKind.i64.wrap (t + idxV v l)))) = true then freeB v a n m (enOf (m.readV (IntKind.i64.wrap (t + idxV v l)))).a (l + 1) else true)
theorem freeB_s (v a : Int) (n : Nat) (m : M) (t l : Int) : freeB v a (n + 1) m t l = (!(IntKind.i64.wrap (t + idxV v l) == a) && (if (m.has (IntKind.i64.wrap (t + idxV v l)) 1 && goesB (m.readV (IntKind.i64.wrap (t + idxV v l)))) = true then freeB v a n m (enOf (m.readV (IntKind.i64.wrap (t + idxV v l)))).a (l + 1) else true)) := rfl
/-- Two memories that are alike but at an address. -/
def Ag (a : Int) (m k : M) : Prop := ∀ i : Int, i ≠ a → k.readV i = m.readV i ∧ k.has i 1 = m.has i 1
theorem has_w {m k : M} (h : m.w = k.w) (i n : Int) : m.has i n = k.has i n := by simp only [M.has, h]
theorem readV_w {m k : M} (h : m.w = k.w) (i : Int) : m.readV i = k.readV i := by
  unfold M.readV
  rw [has_w h]
  simp only [M.at, h]
theorem readE_w {m k : M} (h : m.w = k.w) (i : Int) : m.readE i = k.readE i := by
  unfold M.readE
  rw [has_w h]
theorem freeB_w {v a : Int} : ∀ (n : Nat) {m k : M}, m.w = k.w → ∀ t l : Int, freeB v a n m t l = freeB v a n k t l
  | 0, _, _, _, _, _ => rfl
  | n + 1, m, k, h, t, l => by
    simp only [freeB, has_w h, readV_w h]
    rw [freeB_w n h]
theorem Ag.read {a : Int} {m k : M} (h : Ag a m k) (i j : Int) : Ag a (m.readX i) (k.readX j) := fun x hx => by
  rw [readV_w (M.readX_w m i), readV_w (M.readX_w k j), has_w (M.readX_w m i), has_w (M.readX_w k j)]
  exact h x hx
theorem apart_plain {v a : Int} (hv : virtB v = true) : ∀ (n : Nat) (m k : M) (t l : Int), Ag a m k → (0 ≤ t ∧ t ≤ 65535) → l + n = 4 → freeB v a n m t l = true →
    (walkF v n k t l).a = (walkF v n m t l).a ∧ (walkF v n k t l).r = (walkF v n m t l).r ∧ (walkF v n k t l).l = (walkF v n m t l).l ∧ (walkF v n k t l).e = (walkF v n m t l).e
  | 0, m, k, t, l, _, _, _, _ => ⟨rfl, rfl, rfl, rfl⟩
  | n + 1, m, k, t, l, hA, ht, hl, hf => by
    simp only [freeB, at_wrap ht, Bool.and_eq_true, Bool.not_eq_true', beq_eq_false_iff_ne, ne_eq] at hf
    obtain ⟨h1, h2⟩ := hf
    obtain ⟨e1, e2⟩ := hA _ h1
    have hs : stepB k t v l = stepB m t v l := by simp only [stepB, e1, e2]
    cases hm : stepB m t v l with
    | false =>
      rw [walk_stop hm, walk_stop (hs.trans hm)]
      exact ⟨rfl, rfl, rfl, rfl⟩
    | true =>
      by_cases h3 : l = 3
      · rw [walk_end hm h3, walk_end (hs.trans hm) h3, e1]
        exact ⟨rfl, rfl, rfl, rfl⟩
      · rw [walk_on hm h3, walk_on (hs.trans hm) h3, e1]
        have hm' := hm
        simp only [stepB, Bool.and_eq_true] at hm'
        obtain ⟨q1, q2, q3, q4⟩ := hm'
        have q5 : (enOf (m.readV (atW t v l))).l = false := by
          have : (l == 3) = false := by simpa using h3
          rw [this] at q4
          simpa using q4
        have hg : (m.has (atW t v l) 1 && goesB (m.readV (atW t v l))) = true := by simp [goesB, q1, q2, q3, q5]
        rw [Bool.and_eq_true] at hg
        have h2 : freeB v a n m (enOf (m.readV (atW t v l))).a (l + 1) = true := by
          simpa [hg.1, hg.2] using h2
        have hb := en_lim q2
        refine apart_plain hv n _ _ _ _ (hA.read _ _) ⟨hb.1, by omega⟩ (by omega) ?_
        rw [freeB_w n (M.readX_w m _)]
        exact h2
theorem Ag.load (m : M) (a w : Int) (hw : u64 w) : Ag a m (m.loadX a [w]) := fun i hi => by
  unfold M.loadX
  split
  · rename_i h
    rw [M.has_iff] at h
    have hat : ∀ j : Int, 0 ≤ j → j ≠ a → (m.lay a.toNat [w]).at j = m.at j := fun j h0 hj => by
      simp only [M.lay]
      rw [M.at_put, if_neg (by omega)]
    have hh : (m.lay a.toNat [w]).has i 1 = m.has i 1 := M.lay_has _ _ _ _ _
    refine ⟨?_, hh⟩
    simp only [M.readV, hh]
    split
    · rename_i h2
      rw [M.has_iff] at h2
      exact hat i h2.1 hi
    · rfl
  · exact ⟨rfl, rfl⟩

/-- Walk, without choices. -/
def walkR (m : M) (t v : Int) : WR := if (virtB v && virtB t) = true then walkF v 4 m t 0 else ⟨0, 0, 0, 1, m⟩
def walk2M (b : Nat) (m : M) (st : M → List Blk) : List V → Res
  | [.s (.i .i64 t), .s (.i .i64 v)] => .ok (walkR m t v).v [] (st (walkR m t v).m)
  | _ => .bad
noncomputable def walk2G := memF walk2M
theorem walk2_snd : Snd Try.prog 43 (FSpec.of walk2G) := wWalk_snd.weaken fun args h K hc hS => by
  obtain ⟨a, b, m, rest, rfl, H, hS1⟩ := memF_spec hS
  unfold walk2M at hS1
  split at hS1
  · simp only [spec_ok, walkR] at hS1
    show Res.spec K (walkG _ h)
    rw [walkG, memF_eq H]
    simp only [walkM, spec_br, spec_ok]
    exact ⟨fun e => by simpa only [e, if_true] using hS1, fun e => by simpa only [e, Bool.false_eq_true, if_false] using hS1⟩
  · exact hS1.elim
theorem rwalk2_snd : Snd Try.prog 45 (FSpec.of walk2G) := rWalk_snd.weaken fun args h K hc hS => by
  obtain ⟨a, b, m, rest, rfl, H, hS1⟩ := memF_spec hS
  unfold walk2M at hS1
  split at hS1
  · simp only [spec_ok, walkR] at hS1
    show Res.spec K (walkG _ h)
    rw [walkG, memF_eq H]
    simp only [walkM, spec_br, spec_ok]
    exact ⟨fun e => by simpa only [e, if_true] using hS1, fun e => by simpa only [e, Bool.false_eq_true, if_false] using hS1⟩
  · exact hS1.elim
theorem walkR_w (m : M) (t v : Int) : (walkR m t v).m.w = m.w := by
  unfold walkR; split
  · exact walkF_w v 4 m t 0
  · rfl
theorem walkR_apart {m k : M} {t v a : Int} (hA : Ag a m k) (hf : freeB v a 4 m t 0 = true) :
    (walkR k t v).a = (walkR m t v).a ∧ (walkR k t v).r = (walkR m t v).r ∧ (walkR k t v).l = (walkR m t v).l ∧ (walkR k t v).e = (walkR m t v).e := by
  unfold walkR
  split
  · rename_i h
    simp only [Bool.and_eq_true] at h
    exact apart_plain h.1 4 m k t 0 hA (by simpa [virtB] using h.2) rfl hf
  · exact ⟨rfl, rfl, rfl, rfl⟩
theorem M.readV_out {m : M} {i : Int} (h : m.has i 1 = false) : m.readV i = 0 := by simp only [M.readV, h]; rfl
theorem M.readE_out {m : M} {i : Int} (h : m.has i 1 = false) : m.readE i = 20 := by simp only [M.readE, h]; rfl
theorem M.readE_in {m : M} {i : Int} (h : m.has i 1 = true) : m.readE i = 0 := by simp only [M.readE, h]; rfl
noncomputable def T7 : Tab := addT 35 awake5G (addT 23 newM (addT 32 newM (addT 42 laidG (addT 38 decEG (addT 43 walk2G (addT 40 idxG (addT 27 load2G (addT 44 read2G (noT)))))))))
theorem T7_snd : T7.Snd Try.prog := addT_snd ok35 awake5_snd (addT_snd ok23 new_snd (addT_snd ok32 rnew_snd (addT_snd ok42 laid_snd (addT_snd ok38 decE_snd (addT_snd ok43 walk2_snd (addT_snd ok40 idx_snd (addT_snd ok27 load2_snd (addT_snd ok44 rread2_snd ((noT_snd _))))))))))

structure Apt where
  s : S
  t : Int
  v : Int
  ch : Wd
def Apt.c (z : Apt) : List S := z.s :: .i .i64 z.t :: .i .i64 z.v :: z.ch.c
def apartS5 : FSpec := fun args h K => ∃ (z : Apt) (L : List Wd), args = [.agg z.c] ∧ IsArr Wd.c h z.s L ∧ (∀ x, x ∈ L → u64 x.w) ∧ L.length ≤ 140737488355328 ∧ u64 z.ch.w ∧ ∀ h', K (.s (.b true)) h'
theorem apart_snd : Snd Try.prog 9 apartS5 := (fwp_sound (Tab.snd_Γ T7_snd) mixed Try.func9 dc9).weaken fun args h K hc hS => by
  obtain ⟨⟨s, t, v, ⟨ca, ⟨cv, cl, cb, cr⟩, cq, cw⟩⟩, L, rfl, Hs, hu, hn, hcw, hK⟩ := hS
  simp only at Hs hcw
  simp only [Apt.c, Wd.c]
  refine fwp_run (Tab.ok_Γ _) 600 ?_
  have hlen := fun ls h' => Hs.sl.len (ls := ls) (h := h')
  have hkn := Hs.sl.known
  have hnl := Hs.sl.noL
  have hbl : ∀ k, S.below k s = true := Hs.sl.below
  have hls : ∀ k, S.ren (R.lend k) s = s := Hs.sl.lend
  have hus : ∀ k, h.length ≤ k → S.ren (R.unlend k) s = s := fun k hk => Hs.sl.unlend hk
  by_cases c0 : (2147483647 : Int) < L.length
  · simp (config := { maxSteps := 10000000 }) only [EV1, EV2, EV3, EV4, EV5, EV6, addT, istep, lenR_sl, lenR_ns, lenR_es, pickR, putD, bin1R, un1R, slcR, bnd, capsOf, fillP, S_plain, V_plain, V.cells, S_known, V_known, C.v, blk, setL, setH, eqS, eq1, cmpS, cmp1, isNil, popTo, killT, setT, leT, V.below, C.below, S_below, R.below, V.val, C.val, S_val, R.val, R.takes, vals, shows, List.any_cons, List.any_nil, unnamed, V.kill, V.names, C.names, S_names, R.names, List.set, List.replicate, ↓q_cond_t, ↓q_cond_f, if_true, if_false, reduceCtorEq, rvals, rvC, result, C_known, V.noL, C.noL, S_noL, R.noL, Option.map, true_and, and_true, ge_iff_le, gt_iff_lt, implies_true, q_ite_t, q_ite_f, beq_iff_eq, bne_iff_ne, q_ne, Nat.reduceAdd, Nat.reducePow, Int.reducePow, Nat.reduceMul, Nat.reduceSub, Nat.reduceLeDiff, Nat.reduceLT, Nat.reduceEqDiff, Int.reduceNeg, Int.reduceLT, Int.reduceLE, Int.reduceEq, Int.reduceNe, Int.reduceAdd, Int.reduceSub, Int.reduceMul, Int.reduceToNat, Int.reduceBEq, Int.reduceBNe, df9, hlen, hkn, c0, sub, List.drop_zero, List.drop_succ_cons, List.take_succ_cons, List.take_zero, put, fillP]
    exact hK _
  obtain ⟨z, hz⟩ : ∃ z, M.zero 12 = z := ⟨_, rfl⟩
  have l0 : z.w.length = 4096 := by rw [← hz]; exact M.zero_len 12
  have hl := fun X => laidG_eq (h := h) (m := z) (WdsAt.of Hs X) hu hn
  have lm := M.laid_len L z
  obtain ⟨m, hm⟩ : ∃ m, z.laid L = m := ⟨_, rfl⟩
  rw [hm, l0] at lm
  simp only [hm] at hl
  obtain ⟨x, hx⟩ : ∃ x, walkR m t v = x := ⟨_, rfl⟩
  have xw := walkR_w m t v
  rw [hx] at xw
  simp (config := { maxSteps := 10000000 }) only [EV1, EV2, EV3, EV4, EV5, EV6, addT, istep, lenR_sl, lenR_ns, lenR_es, pickR, putD, bin1R, un1R, slcR, bnd, capsOf, fillP, S_plain, V_plain, V.cells, S_known, V_known, C.v, blk, setL, setH, eqS, eq1, cmpS, cmp1, isNil, popTo, killT, setT, leT, V.below, C.below, S_below, R.below, V.val, C.val, S_val, R.val, R.takes, vals, shows, List.any_cons, List.any_nil, unnamed, V.kill, V.names, C.names, S_names, R.names, List.set, List.replicate, ↓q_cond_t, ↓q_cond_f, if_true, if_false, reduceCtorEq, rvals, rvC, result, C_known, V.noL, C.noL, S_noL, R.noL, Option.map, true_and, and_true, ge_iff_le, gt_iff_lt, implies_true, q_ite_t, q_ite_f, beq_iff_eq, bne_iff_ne, q_ne, Nat.reduceAdd, Nat.reducePow, Int.reducePow, Nat.reduceMul, Nat.reduceSub, Nat.reduceLeDiff, Nat.reduceLT, Nat.reduceEqDiff, Int.reduceNeg, Int.reduceLT, Int.reduceLE, Int.reduceEq, Int.reduceNe, Int.reduceAdd, Int.reduceSub, Int.reduceMul, Int.reduceToNat, Int.reduceBEq, Int.reduceBNe, df9, hlen, hkn, hnl, c0, T7, awake5G, newM, hz, memH, app_len, n21, hl, walk2G, walk2M, memF_0, hx, WR.v, sub, List.drop_zero, List.drop_succ_cons, List.take_succ_cons, List.take_zero, put, fillP]
  refine loop_rule (α := Nat × Int × M) [2, 17, 18, 19, 20, 21, 22, 23, 72, 73, 74, 75, 76, 77, 78, 79, 80, 81, 82, 83, 84, 85, 86, 87, 88, 89, 90, 91, 92, 93, 94, 95, 96, 97, 98, 99, 100, 101, 102, 103, 104, 105, 106, 107, 108, 109, 110, 111, 112, 113, 114, 115, 116] (fun y => [(17, .s (.i .i64 y.2.1)), (18, .s (.i .i64 ((4 - y.1 : Nat) : Int)))])
    (fun _ => [⟨.rw, [s, .i .i64 t, .i .i64 v, .i .i64 ca, .b cv, .b cl, .i .i64 cb, .i .i64 cr, .b cq, .i .u64 cw], 10⟩, ⟨.rw, [.i .i64 ca, .b cv, .b cl, .i .i64 cb, .i .i64 cr, .b cq, .i .u64 cw], 7⟩])
    (fun y => h ++ [MB (h.length + 1) x.m, MW x.m, MB (h.length + 3) y.2.2, MW y.2.2])
    (fun y => y.1 ≤ 4 ∧ y.2.2.w = m.w ∧ freeB v ca 4 m t 0 = freeB v ca y.1 m y.2.1 ((4 - y.1 : Nat) : Int)) (fun y => y.1) (4, t, m) ⟨by simp only; omega, rfl, rfl⟩ ?_ ?_
  · refine Wk.same rfl rfl ?_
    simp (config := { maxSteps := 10000000 }) only [EV1, EV2, EV3, EV4, EV5, EV6, addT, istep, lenR_sl, lenR_ns, lenR_es, pickR, putD, bin1R, un1R, slcR, bnd, capsOf, fillP, S_plain, V_plain, V.cells, S_known, V_known, C.v, blk, setL, setH, eqS, eq1, cmpS, cmp1, isNil, popTo, killT, setT, leT, V.below, C.below, S_below, R.below, V.val, C.val, S_val, R.val, R.takes, vals, shows, List.any_cons, List.any_nil, unnamed, V.kill, V.names, C.names, S_names, R.names, List.set, List.replicate, ↓q_cond_t, ↓q_cond_f, if_true, if_false, reduceCtorEq, rvals, rvC, result, C_known, V.noL, C.noL, S_noL, R.noL, Option.map, true_and, and_true, ge_iff_le, gt_iff_lt, implies_true, q_ite_t, q_ite_f, beq_iff_eq, bne_iff_ne, q_ne, Nat.reduceAdd, Nat.reducePow, Int.reducePow, Nat.reduceMul, Nat.reduceSub, Nat.reduceLeDiff, Nat.reduceLT, Nat.reduceEqDiff, Int.reduceNeg, Int.reduceLT, Int.reduceLE, Int.reduceEq, Int.reduceNe, Int.reduceAdd, Int.reduceSub, Int.reduceMul, Int.reduceToNat, Int.reduceBEq, Int.reduceBNe, q_cast, Nat.reduceSub]
  · rintro X ⟨n, t', r⟩ ⟨hn4, hrw, hF⟩ IH
    simp only at hn4 hrw hF IH ⊢
    obtain ⟨m2, hm2⟩ : ∃ m2, x.m.loadX ca [cw] = m2 := ⟨_, rfl⟩
    have hA : Ag ca m m2 := fun i hi => by
      have := Ag.load x.m ca cw hcw i hi
      rw [hm2] at this
      rw [← readV_w xw, ← has_w xw]
      exact this
    have hy := fun e => walkR_apart (t := t) (v := v) hA e
    rw [hx] at hy
    have hcw1 : ∀ v, v ∈ [cw] → u64 v := fun v hv => by rw [List.mem_singleton.1 hv]; exact hcw
    have hc4 : ∀ m2 m3 : M, clean (h.length + 4) (h ++ [MB (h.length + 1) m2, MW m2, MB (h.length + 3) m3, MW m3]) = true := fun m2 m3 => by
      rw [clean_h hc (Nat.le_add_right _ _)]
      simp only [clean_cons, clean_nil, vals_MB, MW_vals]; decide
    have hus4 := hus (h.length + 4) (Nat.le_add_right _ _)
    cases n with
    | zero =>
      have hF : freeB v ca 4 m t 0 = true := hF
      obtain ⟨y1, y2, y3, y4⟩ := hy hF
      refine run_sound (Tab.ok_Γ _) 400 _ _ _ _ ?_
      simp (config := { maxSteps := 10000000 }) only [EV1, EV2, EV3, EV4, EV5, EV6, addT, istep, lenR_sl, lenR_ns, lenR_es, pickR, putD, bin1R, un1R, slcR, bnd, capsOf, fillP, S_plain, V_plain, V.cells, S_known, V_known, C.v, blk, setL, setH, eqS, eq1, cmpS, cmp1, isNil, popTo, killT, setT, leT, V.below, C.below, S_below, R.below, V.val, C.val, S_val, R.val, R.takes, vals, shows, List.any_cons, List.any_nil, unnamed, V.kill, V.names, C.names, S_names, R.names, List.set, List.replicate, ↓q_cond_t, ↓q_cond_f, if_true, if_false, reduceCtorEq, rvals, rvC, result, C_known, V.noL, C.noL, S_noL, R.noL, Option.map, true_and, and_true, ge_iff_le, gt_iff_lt, implies_true, q_ite_t, q_ite_f, beq_iff_eq, bne_iff_ne, q_ne, Nat.reduceAdd, Nat.reducePow, Int.reducePow, Nat.reduceMul, Nat.reduceSub, Nat.reduceLeDiff, Nat.reduceLT, Nat.reduceEqDiff, Int.reduceNeg, Int.reduceLT, Int.reduceLE, Int.reduceEq, Int.reduceNe, Int.reduceAdd, Int.reduceSub, Int.reduceMul, Int.reduceToNat, Int.reduceBEq, Int.reduceBNe, q_cast, Nat.reduceSub, Int.lt_irrefl, T7, load2G, memAt_0, memF_0, R.lend, R.unlend, S_ren, C.ren, V.ren, app_taken, app_dropn, app_take0, app_drop0, List.take_succ_cons, List.take_zero, List.drop_succ_cons, List.drop_zero, Nat.not_lt_zero, Nat.lt_irrefl, Nat.add_sub_cancel_left, Nat.not_lt, Nat.le_add_right, Blk.ren, hls, hus4, app_len, nnn, listOf_g, app_getn, lstB_rw, unwc_cons, unwc_nil, o_bind, lenIs_t, some_is, apartS, Nat.add_left_cancel_iff, at0_set, hc4, hcw1, nlt0, nltn, Nat.add_le_add_iff_left, Nat.reduceLeDiff, hm2, walk2G, walk2M, WR.v, y1, y2, y3, y4]
      exact ⟨hcw1, hK _⟩
    | succ n =>
      obtain ⟨l, hl⟩ : ∃ l : Nat, 4 - (n + 1) = l := ⟨_, rfl⟩
      rw [hl] at hF ⊢
      have hF := hF.trans (freeB_s v ca n m t' (l : Int))
      have l1 : IntKind.i64.wrap ((l : Int) + 1) = ((l + 1 : Nat) : Int) := by rw [wrap64] <;> omega
      have l4 : 4 - n = l + 1 := by omega
      have hlt : (l : Int) < 4 := by omega
      obtain ⟨i, hi⟩ : ∃ i, IntKind.i64.wrap (t' + idxV v l) = i := ⟨_, rfl⟩
      rw [hi] at hF
      by_cases c1 : i = ca
      · refine run_sound (Tab.ok_Γ _) 400 _ _ _ _ ?_
        simp (config := { maxSteps := 10000000 }) only [EV1, EV2, EV3, EV4, EV5, EV6, addT, istep, lenR_sl, lenR_ns, lenR_es, pickR, putD, bin1R, un1R, slcR, bnd, capsOf, fillP, S_plain, V_plain, V.cells, S_known, V_known, C.v, blk, setL, setH, eqS, eq1, cmpS, cmp1, isNil, popTo, killT, setT, leT, V.below, C.below, S_below, R.below, V.val, C.val, S_val, R.val, R.takes, vals, shows, List.any_cons, List.any_nil, unnamed, V.kill, V.names, C.names, S_names, R.names, List.set, List.replicate, ↓q_cond_t, ↓q_cond_f, if_true, if_false, reduceCtorEq, rvals, rvC, result, C_known, V.noL, C.noL, S_noL, R.noL, Option.map, true_and, and_true, ge_iff_le, gt_iff_lt, implies_true, q_ite_t, q_ite_f, beq_iff_eq, bne_iff_ne, q_ne, Nat.reduceAdd, Nat.reducePow, Int.reducePow, Nat.reduceMul, Nat.reduceSub, Nat.reduceLeDiff, Nat.reduceLT, Nat.reduceEqDiff, Int.reduceNeg, Int.reduceLT, Int.reduceLE, Int.reduceEq, Int.reduceNe, Int.reduceAdd, Int.reduceSub, Int.reduceMul, Int.reduceToNat, Int.reduceBEq, Int.reduceBNe, T7, idxG, hlt, hi, c1]
        exact hK _
      have c2 : (i == ca) = false := by simpa using c1
      rw [c2] at hF
      have e1 := readV_w hrw i
      have e2 := has_w hrw i 1
      have hur := M.readV_u m i
      have hrX := M.readX_w r i
      have wn : (r.readX i).w = m.w := by rw [hrX, hrw]
      obtain ⟨r', hr'⟩ : ∃ r', r.readX i = r' := ⟨_, rfl⟩
      rw [hr'] at wn
      cases hh : m.has i 1 with
      | false =>
        rw [hh] at hF e2
        have v0 := M.readV_out e2
        have e0 := M.readE_out e2
        have hF : freeB v ca 4 m t 0 = true := hF
        obtain ⟨y1, y2, y3, y4⟩ := hy hF
        refine run_sound (Tab.ok_Γ _) 400 _ _ _ _ ?_
        simp (config := { maxSteps := 10000000 }) only [EV1, EV2, EV3, EV4, EV5, EV6, addT, istep, lenR_sl, lenR_ns, lenR_es, pickR, putD, bin1R, un1R, slcR, bnd, capsOf, fillP, S_plain, V_plain, V.cells, S_known, V_known, C.v, blk, setL, setH, eqS, eq1, cmpS, cmp1, isNil, popTo, killT, setT, leT, V.below, C.below, S_below, R.below, V.val, C.val, S_val, R.val, R.takes, vals, shows, List.any_cons, List.any_nil, unnamed, V.kill, V.names, C.names, S_names, R.names, List.set, List.replicate, ↓q_cond_t, ↓q_cond_f, if_true, if_false, reduceCtorEq, rvals, rvC, result, C_known, V.noL, C.noL, S_noL, R.noL, Option.map, true_and, and_true, ge_iff_le, gt_iff_lt, implies_true, q_ite_t, q_ite_f, beq_iff_eq, bne_iff_ne, q_ne, Nat.reduceAdd, Nat.reducePow, Int.reducePow, Nat.reduceMul, Nat.reduceSub, Nat.reduceLeDiff, Nat.reduceLT, Nat.reduceEqDiff, Int.reduceNeg, Int.reduceLT, Int.reduceLE, Int.reduceEq, Int.reduceNe, Int.reduceAdd, Int.reduceSub, Int.reduceMul, Int.reduceToNat, Int.reduceBEq, Int.reduceBNe, idxG, hlt, hi, c1, c2, read2G, read2M, memF_2, v0, e0, enB_0, u64_0, hr', decEG, En.c, T7, load2G, memAt_0, memF_0, R.lend, R.unlend, S_ren, C.ren, V.ren, app_taken, app_dropn, app_take0, app_drop0, List.take_succ_cons, List.take_zero, List.drop_succ_cons, List.drop_zero, Nat.not_lt_zero, Nat.lt_irrefl, Nat.add_sub_cancel_left, Nat.not_lt, Nat.le_add_right, Blk.ren, hls, hus4, app_len, nnn, listOf_g, app_getn, lstB_rw, unwc_cons, unwc_nil, o_bind, lenIs_t, some_is, apartS, Nat.add_left_cancel_iff, at0_set, hc4, hcw1, nlt0, nltn, Nat.add_le_add_iff_left, Nat.reduceLeDiff, hm2, walk2G, walk2M, WR.v, y1, y2, y3, y4]
        exact ⟨hcw1, hK _⟩
      | true =>
        rw [hh] at hF e2
        have e0 := M.readE_in e2
        obtain ⟨w, hw⟩ : ∃ w, m.readV i = w := ⟨_, rfl⟩
        rw [hw] at hF hur e1
        have stop : goesB w = false → freeB v ca 4 m t 0 = true := fun e => by rw [hF, e]; rfl
        have on : goesB w = true → freeB v ca 4 m t 0 = freeB v ca n m (enOf w).a ((l : Int) + 1) := fun e => by rw [hF, e]; rfl
        cases hb : enB w with
        | false =>
          obtain ⟨y1, y2, y3, y4⟩ := hy (stop (by simp [goesB, hb]))
          refine run_sound (Tab.ok_Γ _) 400 _ _ _ _ ?_
          simp (config := { maxSteps := 10000000 }) only [EV1, EV2, EV3, EV4, EV5, EV6, addT, istep, lenR_sl, lenR_ns, lenR_es, pickR, putD, bin1R, un1R, slcR, bnd, capsOf, fillP, S_plain, V_plain, V.cells, S_known, V_known, C.v, blk, setL, setH, eqS, eq1, cmpS, cmp1, isNil, popTo, killT, setT, leT, V.below, C.below, S_below, R.below, V.val, C.val, S_val, R.val, R.takes, vals, shows, List.any_cons, List.any_nil, unnamed, V.kill, V.names, C.names, S_names, R.names, List.set, List.replicate, ↓q_cond_t, ↓q_cond_f, if_true, if_false, reduceCtorEq, rvals, rvC, result, C_known, V.noL, C.noL, S_noL, R.noL, Option.map, true_and, and_true, ge_iff_le, gt_iff_lt, implies_true, q_ite_t, q_ite_f, beq_iff_eq, bne_iff_ne, q_ne, Nat.reduceAdd, Nat.reducePow, Int.reducePow, Nat.reduceMul, Nat.reduceSub, Nat.reduceLeDiff, Nat.reduceLT, Nat.reduceEqDiff, Int.reduceNeg, Int.reduceLT, Int.reduceLE, Int.reduceEq, Int.reduceNe, Int.reduceAdd, Int.reduceSub, Int.reduceMul, Int.reduceToNat, Int.reduceBEq, Int.reduceBNe, idxG, hlt, hi, c1, c2, read2G, read2M, memF_2, e0, e1, hur, hb, hr', decEG, En.c, T7, load2G, memAt_0, memF_0, R.lend, R.unlend, S_ren, C.ren, V.ren, app_taken, app_dropn, app_take0, app_drop0, List.take_succ_cons, List.take_zero, List.drop_succ_cons, List.drop_zero, Nat.not_lt_zero, Nat.lt_irrefl, Nat.add_sub_cancel_left, Nat.not_lt, Nat.le_add_right, Blk.ren, hls, hus4, app_len, nnn, listOf_g, app_getn, lstB_rw, unwc_cons, unwc_nil, o_bind, lenIs_t, some_is, apartS, Nat.add_left_cancel_iff, at0_set, hc4, hcw1, nlt0, nltn, Nat.add_le_add_iff_left, Nat.reduceLeDiff, hm2, walk2G, walk2M, WR.v, y1, y2, y3, y4]
          exact ⟨hcw1, hK _⟩
        | true =>
          cases hv : (enOf w).v with
          | false =>
            obtain ⟨y1, y2, y3, y4⟩ := hy (stop (by simp [goesB, hb, hv]))
            refine run_sound (Tab.ok_Γ _) 400 _ _ _ _ ?_
            simp (config := { maxSteps := 10000000 }) only [EV1, EV2, EV3, EV4, EV5, EV6, addT, istep, lenR_sl, lenR_ns, lenR_es, pickR, putD, bin1R, un1R, slcR, bnd, capsOf, fillP, S_plain, V_plain, V.cells, S_known, V_known, C.v, blk, setL, setH, eqS, eq1, cmpS, cmp1, isNil, popTo, killT, setT, leT, V.below, C.below, S_below, R.below, V.val, C.val, S_val, R.val, R.takes, vals, shows, List.any_cons, List.any_nil, unnamed, V.kill, V.names, C.names, S_names, R.names, List.set, List.replicate, ↓q_cond_t, ↓q_cond_f, if_true, if_false, reduceCtorEq, rvals, rvC, result, C_known, V.noL, C.noL, S_noL, R.noL, Option.map, true_and, and_true, ge_iff_le, gt_iff_lt, implies_true, q_ite_t, q_ite_f, beq_iff_eq, bne_iff_ne, q_ne, Nat.reduceAdd, Nat.reducePow, Int.reducePow, Nat.reduceMul, Nat.reduceSub, Nat.reduceLeDiff, Nat.reduceLT, Nat.reduceEqDiff, Int.reduceNeg, Int.reduceLT, Int.reduceLE, Int.reduceEq, Int.reduceNe, Int.reduceAdd, Int.reduceSub, Int.reduceMul, Int.reduceToNat, Int.reduceBEq, Int.reduceBNe, idxG, hlt, hi, c1, c2, read2G, read2M, memF_2, e0, e1, hur, hb, hv, hr', decEG, En.c, T7, load2G, memAt_0, memF_0, R.lend, R.unlend, S_ren, C.ren, V.ren, app_taken, app_dropn, app_take0, app_drop0, List.take_succ_cons, List.take_zero, List.drop_succ_cons, List.drop_zero, Nat.not_lt_zero, Nat.lt_irrefl, Nat.add_sub_cancel_left, Nat.not_lt, Nat.le_add_right, Blk.ren, hls, hus4, app_len, nnn, listOf_g, app_getn, lstB_rw, unwc_cons, unwc_nil, o_bind, lenIs_t, some_is, apartS, Nat.add_left_cancel_iff, at0_set, hc4, hcw1, nlt0, nltn, Nat.add_le_add_iff_left, Nat.reduceLeDiff, hm2, walk2G, walk2M, WR.v, y1, y2, y3, y4]
            exact ⟨hcw1, hK _⟩
          | true =>
            cases hlf : (enOf w).l with
            | true =>
              obtain ⟨y1, y2, y3, y4⟩ := hy (stop (by simp [goesB, hb, hv, hlf]))
              refine run_sound (Tab.ok_Γ _) 400 _ _ _ _ ?_
              simp (config := { maxSteps := 10000000 }) only [EV1, EV2, EV3, EV4, EV5, EV6, addT, istep, lenR_sl, lenR_ns, lenR_es, pickR, putD, bin1R, un1R, slcR, bnd, capsOf, fillP, S_plain, V_plain, V.cells, S_known, V_known, C.v, blk, setL, setH, eqS, eq1, cmpS, cmp1, isNil, popTo, killT, setT, leT, V.below, C.below, S_below, R.below, V.val, C.val, S_val, R.val, R.takes, vals, shows, List.any_cons, List.any_nil, unnamed, V.kill, V.names, C.names, S_names, R.names, List.set, List.replicate, ↓q_cond_t, ↓q_cond_f, if_true, if_false, reduceCtorEq, rvals, rvC, result, C_known, V.noL, C.noL, S_noL, R.noL, Option.map, true_and, and_true, ge_iff_le, gt_iff_lt, implies_true, q_ite_t, q_ite_f, beq_iff_eq, bne_iff_ne, q_ne, Nat.reduceAdd, Nat.reducePow, Int.reducePow, Nat.reduceMul, Nat.reduceSub, Nat.reduceLeDiff, Nat.reduceLT, Nat.reduceEqDiff, Int.reduceNeg, Int.reduceLT, Int.reduceLE, Int.reduceEq, Int.reduceNe, Int.reduceAdd, Int.reduceSub, Int.reduceMul, Int.reduceToNat, Int.reduceBEq, Int.reduceBNe, idxG, hlt, hi, c1, c2, read2G, read2M, memF_2, e0, e1, hur, hb, hv, hlf, hr', decEG, En.c, T7, load2G, memAt_0, memF_0, R.lend, R.unlend, S_ren, C.ren, V.ren, app_taken, app_dropn, app_take0, app_drop0, List.take_succ_cons, List.take_zero, List.drop_succ_cons, List.drop_zero, Nat.not_lt_zero, Nat.lt_irrefl, Nat.add_sub_cancel_left, Nat.not_lt, Nat.le_add_right, Blk.ren, hls, hus4, app_len, nnn, listOf_g, app_getn, lstB_rw, unwc_cons, unwc_nil, o_bind, lenIs_t, some_is, apartS, Nat.add_left_cancel_iff, at0_set, hc4, hcw1, nlt0, nltn, Nat.add_le_add_iff_left, Nat.reduceLeDiff, hm2, walk2G, walk2M, WR.v, y1, y2, y3, y4]
              exact ⟨hcw1, hK _⟩
            | false =>
              have on := on (by simp [goesB, hb, hv, hlf])
              refine run_sound (Tab.ok_Γ _) 400 _ _ _ _ ?_
              simp (config := { maxSteps := 10000000 }) only [EV1, EV2, EV3, EV4, EV5, EV6, addT, istep, lenR_sl, lenR_ns, lenR_es, pickR, putD, bin1R, un1R, slcR, bnd, capsOf, fillP, S_plain, V_plain, V.cells, S_known, V_known, C.v, blk, setL, setH, eqS, eq1, cmpS, cmp1, isNil, popTo, killT, setT, leT, V.below, C.below, S_below, R.below, V.val, C.val, S_val, R.val, R.takes, vals, shows, List.any_cons, List.any_nil, unnamed, V.kill, V.names, C.names, S_names, R.names, List.set, List.replicate, ↓q_cond_t, ↓q_cond_f, if_true, if_false, reduceCtorEq, rvals, rvC, result, C_known, V.noL, C.noL, S_noL, R.noL, Option.map, true_and, and_true, ge_iff_le, gt_iff_lt, implies_true, q_ite_t, q_ite_f, beq_iff_eq, bne_iff_ne, q_ne, Nat.reduceAdd, Nat.reducePow, Int.reducePow, Nat.reduceMul, Nat.reduceSub, Nat.reduceLeDiff, Nat.reduceLT, Nat.reduceEqDiff, Int.reduceNeg, Int.reduceLT, Int.reduceLE, Int.reduceEq, Int.reduceNe, Int.reduceAdd, Int.reduceSub, Int.reduceMul, Int.reduceToNat, Int.reduceBEq, Int.reduceBNe, T7, idxG, hlt, hi, c1, c2, read2G, read2M, memF_2, e0, e1, hur, hb, hv, hlf, hr', decEG, En.c, l1, put, fillP]
              refine IH (n, (enOf w).a, r') _ (Nat.lt_succ_self n) ⟨by simp only; omega, wn, ?_⟩ (Wk.keep 2 rfl rfl ?_ ?_ ?_)
              · simp only [l4]; rw [on]; rfl
              · simp (config := { maxSteps := 10000000 }) only [EV1, EV2, EV3, EV4, EV5, EV6, addT, istep, lenR_sl, lenR_ns, lenR_es, pickR, putD, bin1R, un1R, slcR, bnd, capsOf, fillP, S_plain, V_plain, V.cells, S_known, V_known, C.v, blk, setL, setH, eqS, eq1, cmpS, cmp1, isNil, popTo, killT, setT, leT, V.below, C.below, S_below, R.below, V.val, C.val, S_val, R.val, R.takes, vals, shows, List.any_cons, List.any_nil, unnamed, V.kill, V.names, C.names, S_names, R.names, List.set, List.replicate, ↓q_cond_t, ↓q_cond_f, if_true, if_false, reduceCtorEq, rvals, rvC, result, C_known, V.noL, C.noL, S_noL, R.noL, Option.map, true_and, and_true, ge_iff_le, gt_iff_lt, implies_true, q_ite_t, q_ite_f, beq_iff_eq, bne_iff_ne, q_ne, Nat.reduceAdd, Nat.reducePow, Int.reducePow, Nat.reduceMul, Nat.reduceSub, Nat.reduceLeDiff, Nat.reduceLT, Nat.reduceEqDiff, Int.reduceNeg, Int.reduceLT, Int.reduceLE, Int.reduceEq, Int.reduceNe, Int.reduceAdd, Int.reduceSub, Int.reduceMul, Int.reduceToNat, Int.reduceBEq, Int.reduceBNe, l4]
              · simp (config := { maxSteps := 10000000 }) only [EV1, EV2, EV3, EV4, EV5, EV6, addT, istep, lenR_sl, lenR_ns, lenR_es, pickR, putD, bin1R, un1R, slcR, bnd, capsOf, fillP, S_plain, V_plain, V.cells, S_known, V_known, C.v, blk, setL, setH, eqS, eq1, cmpS, cmp1, isNil, popTo, killT, setT, leT, V.below, C.below, S_below, R.below, V.val, C.val, S_val, R.val, R.takes, vals, shows, List.any_cons, List.any_nil, unnamed, V.kill, V.names, C.names, S_names, R.names, List.set, List.replicate, ↓q_cond_t, ↓q_cond_f, if_true, if_false, reduceCtorEq, rvals, rvC, result, C_known, V.noL, C.noL, S_noL, R.noL, Option.map, true_and, and_true, ge_iff_le, gt_iff_lt, implies_true, q_ite_t, q_ite_f, beq_iff_eq, bne_iff_ne, q_ne, Nat.reduceAdd, Nat.reducePow, Int.reducePow, Nat.reduceMul, Nat.reduceSub, Nat.reduceLeDiff, Nat.reduceLT, Nat.reduceEqDiff, Int.reduceNeg, Int.reduceLT, Int.reduceLE, Int.reduceEq, Int.reduceNe, Int.reduceAdd, Int.reduceSub, Int.reduceMul, Int.reduceToNat, Int.reduceBEq, Int.reduceBNe, hbl]
              · simp (config := { maxSteps := 10000000 }) only [EV1, EV2, EV3, EV4, EV5, EV6, addT, istep, lenR_sl, lenR_ns, lenR_es, pickR, putD, bin1R, un1R, slcR, bnd, capsOf, fillP, S_plain, V_plain, V.cells, S_known, V_known, C.v, blk, setL, setH, eqS, eq1, cmpS, cmp1, isNil, popTo, killT, setT, leT, V.below, C.below, S_below, R.below, V.val, C.val, S_val, R.val, R.takes, vals, shows, List.any_cons, List.any_nil, unnamed, V.kill, V.names, C.names, S_names, R.names, List.set, List.replicate, ↓q_cond_t, ↓q_cond_f, if_true, if_false, reduceCtorEq, rvals, rvC, result, C_known, V.noL, C.noL, S_noL, R.noL, Option.map, true_and, and_true, ge_iff_le, gt_iff_lt, implies_true, q_ite_t, q_ite_f, beq_iff_eq, bne_iff_ne, q_ne, Nat.reduceAdd, Nat.reducePow, Int.reducePow, Nat.reduceMul, Nat.reduceSub, Nat.reduceLeDiff, Nat.reduceLT, Nat.reduceEqDiff, Int.reduceNeg, Int.reduceLT, Int.reduceLE, Int.reduceEq, Int.reduceNe, Int.reduceAdd, Int.reduceSub, Int.reduceMul, Int.reduceToNat, Int.reduceBEq, Int.reduceBNe, hbl]
end Go.Proofs.Yteeeidldknlblaa

/- Law 05: WalkReaches. -/
namespace Go.Proofs.Yteeeidldknlblaa
open Go.D
set_option linter.all false
set_option maxRecDepth 100000
set_option maxHeartbeats 8000000

def lines5G : List V → List Blk → Res
  | [.s (.p (.g k) 0), .s (.p (.g j) 0)], h => match h[k]?, h[j]? with
    | some B, some B' => .ob (Tl.isTlb B ∧ B' = B) (.ok (.s (.b true)) [] h)
    | _, _ => .bad
  | _, _ => .bad
noncomputable def TLi : Tab := addT 20 Tl.linesG (noT)
theorem TLi_snd : TLi.Snd Try.prog := addT_snd ok20 Tl.lines_snd ((noT_snd _))
theorem lines5_snd : Snd Try.prog 51 (FSpec.of lines5G) := snd_cut TLi_snd mixed Try.func51 dc51 100 fun args h K hc hS => by
  unfold lines5G at hS
  split at hS
  · rename_i k j
    split at hS
    · rename_i B B' hk hj
      obtain ⟨⟨⟨hB, h8⟩, rfl⟩, hS⟩ := hS
      generalize Tl.dec B'.cells = L at *
      subst hB
      rw [spec_ok] at hS
      have hjl : j < h.length := (List.getElem?_eq_some_iff.1 hj).1
      have hjx : ∀ X, (h ++ X)[j]? = some (Tl.tlbB L) := fun X => by rw [app_getl hjl, hj]
      simp (config := { maxSteps := 10000000 }) only [EV1, EV2, EV3, EV4, EV5, EV6, addT, istep, lenR_sl, lenR_ns, lenR_es, pickR, putD, bin1R, un1R, slcR, bnd, capsOf, fillP, S_plain, V_plain, V.cells, S_known, V_known, C.v, blk, setL, setH, eqS, eq1, cmpS, cmp1, isNil, popTo, killT, setT, leT, V.below, C.below, S_below, R.below, V.val, C.val, S_val, R.val, R.takes, vals, shows, List.any_cons, List.any_nil, unnamed, V.kill, V.names, C.names, S_names, R.names, List.set, List.replicate, ↓q_cond_t, ↓q_cond_f, if_true, if_false, reduceCtorEq, rvals, rvC, result, C_known, V.noL, C.noL, S_noL, R.noL, Option.map, true_and, and_true, ge_iff_le, gt_iff_lt, implies_true, q_ite_t, q_ite_f, beq_iff_eq, bne_iff_ne, q_ne, Nat.reduceAdd, Nat.reducePow, Int.reducePow, Nat.reduceMul, Nat.reduceSub, Nat.reduceLeDiff, Nat.reduceLT, Nat.reduceEqDiff, Int.reduceNeg, Int.reduceLT, Int.reduceLE, Int.reduceEq, Int.reduceNe, Int.reduceAdd, Int.reduceSub, Int.reduceMul, Int.reduceToNat, Int.reduceBEq, Int.reduceBNe, df51, TLi, Tl.linesG, hk, Tl.isTlb_tlbB, Tl.tlbB_cells, Tl.dec_arr, h8, Tl.ownB]
      refine loop_rule (α := Nat) [4, 6, 12, 13, 14, 15, 16, 17, 18, 19, 20, 21, 22, 23, 24, 25, 26, 27, 28, 29, 30, 31, 32, 33, 34, 35, 36, 37, 38, 39, 40, 41, 42, 43, 44, 45, 46, 47, 48, 49, 50, 51, 52, 53, 54, 55, 56, 57, 58, 59, 60, 61, 62, 63, 64, 65, 66, 67, 68, 69, 70, 71, 72, 73] (fun i => [(6, .s (.i .i64 i))]) (fun _ => []) (fun i => h ++ [⟨.rw, arr Tl.Ln.c L, 32⟩])
        (fun i => i ≤ 8) (fun i => 8 - i) 0 (by omega) ?_ ?_
      · refine Wk.same rfl rfl ?_
        simp (config := { maxSteps := 10000000 }) only [EV1, EV2, EV3, EV4, EV5, EV6, addT, istep, lenR_sl, lenR_ns, lenR_es, pickR, putD, bin1R, un1R, slcR, bnd, capsOf, fillP, S_plain, V_plain, V.cells, S_known, V_known, C.v, blk, setL, setH, eqS, eq1, cmpS, cmp1, isNil, popTo, killT, setT, leT, V.below, C.below, S_below, R.below, V.val, C.val, S_val, R.val, R.takes, vals, shows, List.any_cons, List.any_nil, unnamed, V.kill, V.names, C.names, S_names, R.names, List.set, List.replicate, ↓q_cond_t, ↓q_cond_f, if_true, if_false, reduceCtorEq, rvals, rvC, result, C_known, V.noL, C.noL, S_noL, R.noL, Option.map, true_and, and_true, ge_iff_le, gt_iff_lt, implies_true, q_ite_t, q_ite_f, beq_iff_eq, bne_iff_ne, q_ne, Nat.reduceAdd, Nat.reducePow, Int.reducePow, Nat.reduceMul, Nat.reduceSub, Nat.reduceLeDiff, Nat.reduceLT, Nat.reduceEqDiff, Int.reduceNeg, Int.reduceLT, Int.reduceLE, Int.reduceEq, Int.reduceNe, Int.reduceAdd, Int.reduceSub, Int.reduceMul, Int.reduceToNat, Int.reduceBEq, Int.reduceBNe, Int.natCast_zero]
      · rintro X i hi IH
        rcases Nat.lt_or_ge i 8 with hi8 | hi8
        · have F := Tl.idx hi8 (by omega)
          have E := Tl.Ln.at_ (L := L) (i := i) (by omega)
          have hi8' : (i : Int) < 8 := by omega
          refine run_sound (Tab.ok_Γ _) 200 _ _ _ _ ?_
          simp (config := { maxSteps := 10000000 }) only [EV1, EV2, EV3, EV4, EV5, EV6, addT, istep, lenR_sl, lenR_ns, lenR_es, pickR, putD, bin1R, un1R, slcR, bnd, capsOf, fillP, S_plain, V_plain, V.cells, S_known, V_known, C.v, blk, setL, setH, eqS, eq1, cmpS, cmp1, isNil, popTo, killT, setT, leT, V.below, C.below, S_below, R.below, V.val, C.val, S_val, R.val, R.takes, vals, shows, List.any_cons, List.any_nil, unnamed, V.kill, V.names, C.names, S_names, R.names, List.set, List.replicate, ↓q_cond_t, ↓q_cond_f, if_true, if_false, reduceCtorEq, rvals, rvC, result, C_known, V.noL, C.noL, S_noL, R.noL, Option.map, true_and, and_true, ge_iff_le, gt_iff_lt, implies_true, q_ite_t, q_ite_f, beq_iff_eq, bne_iff_ne, q_ne, Nat.reduceAdd, Nat.reducePow, Int.reducePow, Nat.reduceMul, Nat.reduceSub, Nat.reduceLeDiff, Nat.reduceLT, Nat.reduceEqDiff, Int.reduceNeg, Int.reduceLT, Int.reduceLE, Int.reduceEq, Int.reduceNe, Int.reduceAdd, Int.reduceSub, Int.reduceMul, Int.reduceToNat, Int.reduceBEq, Int.reduceBNe, F, E, hi8', hjx, Tl.tlbB_st, Tl.tlbB_cells]
          exact IH (i + 1) _ (by omega) (by omega) (Wk.same rfl rfl (by simp (config := { maxSteps := 10000000 }) only [EV1, EV2, EV3, EV4, EV5, EV6, addT, istep, lenR_sl, lenR_ns, lenR_es, pickR, putD, bin1R, un1R, slcR, bnd, capsOf, fillP, S_plain, V_plain, V.cells, S_known, V_known, C.v, blk, setL, setH, eqS, eq1, cmpS, cmp1, isNil, popTo, killT, setT, leT, V.below, C.below, S_below, R.below, V.val, C.val, S_val, R.val, R.takes, vals, shows, List.any_cons, List.any_nil, unnamed, V.kill, V.names, C.names, S_names, R.names, List.set, List.replicate, ↓q_cond_t, ↓q_cond_f, if_true, if_false, reduceCtorEq, rvals, rvC, result, C_known, V.noL, C.noL, S_noL, R.noL, Option.map, true_and, and_true, ge_iff_le, gt_iff_lt, implies_true, q_ite_t, q_ite_f, beq_iff_eq, bne_iff_ne, q_ne, Nat.reduceAdd, Nat.reducePow, Int.reducePow, Nat.reduceMul, Nat.reduceSub, Nat.reduceLeDiff, Nat.reduceLT, Nat.reduceEqDiff, Int.reduceNeg, Int.reduceLT, Int.reduceLE, Int.reduceEq, Int.reduceNe, Int.reduceAdd, Int.reduceSub, Int.reduceMul, Int.reduceToNat, Int.reduceBEq, Int.reduceBNe]))
        · have : i = 8 := by omega
          subst this
          refine run_sound (Tab.ok_Γ _) 100 _ _ _ _ ?_
          simp (config := { maxSteps := 10000000 }) only [EV1, EV2, EV3, EV4, EV5, EV6, addT, istep, lenR_sl, lenR_ns, lenR_es, pickR, putD, bin1R, un1R, slcR, bnd, capsOf, fillP, S_plain, V_plain, V.cells, S_known, V_known, C.v, blk, setL, setH, eqS, eq1, cmpS, cmp1, isNil, popTo, killT, setT, leT, V.below, C.below, S_below, R.below, V.val, C.val, S_val, R.val, R.takes, vals, shows, List.any_cons, List.any_nil, unnamed, V.kill, V.names, C.names, S_names, R.names, List.set, List.replicate, ↓q_cond_t, ↓q_cond_f, if_true, if_false, reduceCtorEq, rvals, rvC, result, C_known, V.noL, C.noL, S_noL, R.noL, Option.map, true_and, and_true, ge_iff_le, gt_iff_lt, implies_true, q_ite_t, q_ite_f, beq_iff_eq, bne_iff_ne, q_ne, Nat.reduceAdd, Nat.reducePow, Int.reducePow, Nat.reduceMul, Nat.reduceSub, Nat.reduceLeDiff, Nat.reduceLT, Nat.reduceEqDiff, Int.reduceNeg, Int.reduceLT, Int.reduceLE, Int.reduceEq, Int.reduceNe, Int.reduceAdd, Int.reduceSub, Int.reduceMul, Int.reduceToNat, Int.reduceBEq, Int.reduceBNe, Int.lt_irrefl, q_cast]
          exact cut_app (Nat.le_refl _) hc rfl hS
    · exact hS.elim
  · exact hS.elim

structure OpW where
  root : Int
  asid : Int
  v : Int
  wr : Bool
  at_ : Int
  ev : Bool
  fl : Bool
def OpW.c (x : OpW) : List S := [.i .i64 x.root, .i .i64 x.asid, .i .i64 x.v, .b x.wr, .i .i64 x.at_, .b x.ev, .b x.fl]
theorem OpW.c_len (x : OpW) : x.c.length = 7 := rfl
def opWZ : OpW := ⟨0, 0, 0, false, 0, false, false⟩
theorem okM_set' {L : List Tl.Ln} (h : okM L) {l : Tl.Ln} (hl : l = Tl.Ln.z ∨ l.may = true) (i : Nat) : okM (L.set i l) := okM_set h hl i
theorem okM_sieve {L : List Tl.Ln} (h : okM L) (q : Tl.Ln → Bool) : okM (Tl.sieve q L) := fun x hx => by
  obtain ⟨y, hy, rfl⟩ := List.mem_map.1 hx
  split
  · exact .inl rfl
  · exact h y hy
theorem reachEnd_L (m : M) (L : List Tl.Ln) (a r v : Int) (w : Bool) : (reachEnd m L a r v w).L = L := by
  unfold reachEnd; split <;> rfl
theorem reachEnd_m (m : M) (L : List Tl.Ln) (a r v : Int) (w : Bool) : (reachEnd m L a r v w).m = m := by
  unfold reachEnd; split <;> rfl
/-- A line that a walk made. -/
theorem walk_line {asid v at_ root : Int} {m : M} (ha : askB root asid v at_ = true) (he : (walkF v 4 m root 0).e = 0) : Tl.fillB ⟨asid, v / 16, (walkF v 4 m root 0).a, (walkF v 4 m root 0).r⟩ at_ = true := by
  obtain ⟨h1, h2, h3, h4⟩ := askB_iff.1 ha
  have hv : 0 ≤ v ∧ v ≤ 65535 := by simpa [virtB] using h1
  rcases walkF_ok v 4 m root 0 with ⟨_, w1, w2, w3, w4, w5⟩ | ⟨e, _⟩
  · simp only [Tl.fillB, Tl.Ln.may, Bool.and_eq_true, decide_eq_true_eq]
    omega
  · rw [e] at he; exact absurd he (by decide)
theorem reachF_ok {m : M} {L : List Tl.Ln} {root asid v at_ : Int} {w : Bool} (h1 : Tl.okT L) (h2 : okM L) : Tl.okT (reachF m L root asid v w at_).L ∧ okM (reachF m L root asid v w at_).L := by
  unfold reachF
  split
  · rename_i ha
    split
    · split
      · rename_i he
        rw [reachEnd_L]
        have hf := walk_line ha he
        have hl := hf
        simp only [Tl.fillB, Bool.and_eq_true] at hl
        exact ⟨Tl.okT_fill h1 hf, okM_set h2 (.inr hl.1) _⟩
      · exact ⟨h1, h2⟩
    · rw [reachEnd_L]; exact ⟨h1, h2⟩
  · exact ⟨h1, h2⟩
theorem evict_ok {L : List Tl.Ln} {at_ : Int} (h1 : Tl.okT L) (h2 : okM L) (ha : 0 ≤ at_ ∧ at_ ≤ 7) : Tl.okT (L.set at_.toNat Tl.Ln.z) ∧ okM (L.set at_.toNat Tl.Ln.z) := by
  refine ⟨?_, okM_set h2 (.inl rfl) _⟩
  have := Tl.okT_step h1 3 0 0 0 0 at_
  simpa [Tl.stepF, ha.1, ha.2] using this
theorem flush_ok {L : List Tl.Ln} (q : Tl.Ln → Bool) (h1 : Tl.okT L) (h2 : okM L) : Tl.okT (Tl.sieve q L) ∧ okM (Tl.sieve q L) := ⟨Tl.okT_sieve h1 q, okM_sieve h2 q⟩
theorem blk_ren (ρ : R → R) (st : BK) (c : List S) (n : Nat) : Blk.ren ρ ⟨st, c, n⟩ = ⟨st, c.map (S.ren ρ), n⟩ := rfl
theorem tlbB_ren (ρ : R → R) (L : List Tl.Ln) : (Tl.tlbB L).ren ρ = Tl.tlbB L := by
  simp only [Tl.tlbB, Blk.ren]
  congr 1
  induction L with
  | nil => rfl
  | cons l L ih => simp only [arr, List.map_append, ih]; rfl
theorem tlbB_vals (n k : Nat) (L : List Tl.Ln) : vals n k (Tl.tlbB L).cells = true := by
  simp only [Tl.tlbB, vals]; exact Tl.arr_ints _ (fun _ => rfl) L
theorem tlbB_below (k : Nat) (L : List Tl.Ln) : (Tl.tlbB L).cells.all (S.below k) = true := Tl.arr_ints _ (fun _ => rfl) L
noncomputable def T8 : Tab := addT 14 Tl.newG (addT 51 lines5G (addT 46 reachG (addT 50 reachG (addT 47 allowG (addT 25 stepsG (addT 16 Tl.evictG (addT 18 Tl.flushAsidG (addT 48 Tl.evictG (addT 49 Tl.flushAsidG (T7))))))))))
theorem T8_snd : T8.Snd Try.prog := addT_snd ok14 Tl.new_snd (addT_snd ok51 lines5_snd (addT_snd ok46 wReach_snd (addT_snd ok50 rReach_snd (addT_snd ok47 allow_snd (addT_snd ok25 msteps_snd (addT_snd ok16 Tl.evict_snd (addT_snd ok18 Tl.flushAsid_snd (addT_snd ok48 Tl.rEvict_snd (addT_snd ok49 Tl.rFlushAsid_snd (T7_snd))))))))))

def reachesS : FSpec := fun args h K => ∃ s L s2 A, args = [.s s, .s s2] ∧ IsArr Wd.c h s L ∧ (∀ x, x ∈ L → u64 x.w) ∧ L.length ≤ 140737488355328 ∧ IsArr OpW.c h s2 A ∧ ∀ h', K (.s (.b true)) h'
theorem reaches_snd : Snd Try.prog 12 reachesS := (fwp_sound (Tab.snd_Γ T8_snd) mixed Try.func12 dc12).weaken fun args h K hc hS => by
  obtain ⟨s, L, s2, A, rfl, Hs, hu, hn, Ha, hK⟩ := hS
  refine fwp_run (Tab.ok_Γ _) 600 ?_
  have hlen := fun ls h' => Hs.sl.len (ls := ls) (h := h')
  have hlen2 := fun ls h' => Ha.sl.len (ls := ls) (h := h')
  have hkn := Hs.sl.known
  have hnl := Hs.sl.noL
  have hbl : ∀ k, S.below k s = true := Hs.sl.below
  have hbl2 : ∀ k, S.below k s2 = true := Ha.sl.below
  by_cases c0 : (2147483647 : Int) < L.length
  · simp (config := { maxSteps := 10000000 }) only [EV1, EV2, EV3, EV4, EV5, EV6, addT, istep, lenR_sl, lenR_ns, lenR_es, pickR, putD, bin1R, un1R, slcR, bnd, capsOf, fillP, S_plain, V_plain, V.cells, S_known, V_known, C.v, blk, setL, setH, eqS, eq1, cmpS, cmp1, isNil, popTo, killT, setT, leT, V.below, C.below, S_below, R.below, V.val, C.val, S_val, R.val, R.takes, vals, shows, List.any_cons, List.any_nil, unnamed, V.kill, V.names, C.names, S_names, R.names, List.set, List.replicate, ↓q_cond_t, ↓q_cond_f, if_true, if_false, reduceCtorEq, rvals, rvC, result, C_known, V.noL, C.noL, S_noL, R.noL, Option.map, true_and, and_true, ge_iff_le, gt_iff_lt, implies_true, q_ite_t, q_ite_f, beq_iff_eq, bne_iff_ne, q_ne, Nat.reduceAdd, Nat.reducePow, Int.reducePow, Nat.reduceMul, Nat.reduceSub, Nat.reduceLeDiff, Nat.reduceLT, Nat.reduceEqDiff, Int.reduceNeg, Int.reduceLT, Int.reduceLE, Int.reduceEq, Int.reduceNe, Int.reduceAdd, Int.reduceSub, Int.reduceMul, Int.reduceToNat, Int.reduceBEq, Int.reduceBNe, df12, hlen, hlen2, c0]
    exact hK _
  by_cases c1 : (2147483647 : Int) < A.length
  · simp (config := { maxSteps := 10000000 }) only [EV1, EV2, EV3, EV4, EV5, EV6, addT, istep, lenR_sl, lenR_ns, lenR_es, pickR, putD, bin1R, un1R, slcR, bnd, capsOf, fillP, S_plain, V_plain, V.cells, S_known, V_known, C.v, blk, setL, setH, eqS, eq1, cmpS, cmp1, isNil, popTo, killT, setT, leT, V.below, C.below, S_below, R.below, V.val, C.val, S_val, R.val, R.takes, vals, shows, List.any_cons, List.any_nil, unnamed, V.kill, V.names, C.names, S_names, R.names, List.set, List.replicate, ↓q_cond_t, ↓q_cond_f, if_true, if_false, reduceCtorEq, rvals, rvC, result, C_known, V.noL, C.noL, S_noL, R.noL, Option.map, true_and, and_true, ge_iff_le, gt_iff_lt, implies_true, q_ite_t, q_ite_f, beq_iff_eq, bne_iff_ne, q_ne, Nat.reduceAdd, Nat.reducePow, Int.reducePow, Nat.reduceMul, Nat.reduceSub, Nat.reduceLeDiff, Nat.reduceLT, Nat.reduceEqDiff, Int.reduceNeg, Int.reduceLT, Int.reduceLE, Int.reduceEq, Int.reduceNe, Int.reduceAdd, Int.reduceSub, Int.reduceMul, Int.reduceToNat, Int.reduceBEq, Int.reduceBNe, df12, hlen, hlen2, c0, c1]
    exact hK _
  obtain ⟨z, hz⟩ : ∃ z, M.zero 12 = z := ⟨_, rfl⟩
  have l0 : z.w.length = 4096 := by rw [← hz]; exact M.zero_len 12
  have hl := fun X => laidG_eq (h := h) (m := z) (WdsAt.of Hs X) hu hn
  obtain ⟨m, hm⟩ : ∃ m, z.laid L = m := ⟨_, rfl⟩
  simp only [hm] at hl
  have lz : (List.replicate 8 Tl.Ln.z) = linesZ := rfl
  have hbx : ([.i .i64 0, .i .i64 0, .i .i64 0, .i .i64 0, .i .i64 0, .i .i64 0, .i .i64 0, .i .i64 0, .i .i64 0, .i .i64 0, .i .i64 0, .i .i64 0, .i .i64 0, .i .i64 0, .i .i64 0, .i .i64 0, .i .i64 0, .i .i64 0, .i .i64 0, .i .i64 0, .i .i64 0, .i .i64 0, .i .i64 0, .i .i64 0, .i .i64 0, .i .i64 0, .i .i64 0, .i .i64 0, .i .i64 0, .i .i64 0, .i .i64 0, .i .i64 0] : List S) = (Tl.tlbB linesZ).cells := rfl
  simp (config := { maxSteps := 10000000 }) only [EV1, EV2, EV3, EV4, EV5, EV6, addT, istep, lenR_sl, lenR_ns, lenR_es, pickR, putD, bin1R, un1R, slcR, bnd, capsOf, fillP, S_plain, V_plain, V.cells, S_known, V_known, C.v, blk, setL, setH, eqS, eq1, cmpS, cmp1, isNil, popTo, killT, setT, leT, V.below, C.below, S_below, R.below, V.val, C.val, S_val, R.val, R.takes, vals, shows, List.any_cons, List.any_nil, unnamed, V.kill, V.names, C.names, S_names, R.names, List.set, List.replicate, ↓q_cond_t, ↓q_cond_f, if_true, if_false, reduceCtorEq, rvals, rvC, result, C_known, V.noL, C.noL, S_noL, R.noL, Option.map, true_and, and_true, ge_iff_le, gt_iff_lt, implies_true, q_ite_t, q_ite_f, beq_iff_eq, bne_iff_ne, q_ne, Nat.reduceAdd, Nat.reducePow, Int.reducePow, Nat.reduceMul, Nat.reduceSub, Nat.reduceLeDiff, Nat.reduceLT, Nat.reduceEqDiff, Int.reduceNeg, Int.reduceLT, Int.reduceLE, Int.reduceEq, Int.reduceNe, Int.reduceAdd, Int.reduceSub, Int.reduceMul, Int.reduceToNat, Int.reduceBEq, Int.reduceBNe, df12, hlen, hlen2, hkn, hnl, c0, c1, T8, T7, awake5G, newM, hz, memH, app_len, n21, Tl.newG, ↓lz, hl, put, fillP]
  refine loop_rule (α := Nat × M × List Tl.Ln) [4, 13, 14, 15, 16, 17, 18, 19, 60, 61, 62, 63, 64, 65, 66, 67, 68, 69, 70, 71, 72, 73, 74, 75, 76, 77, 78, 79, 80, 81, 82, 83, 84, 85, 86, 87, 88, 89, 90, 91, 92, 93, 94, 95, 96, 97, 98, 99, 100, 101, 102, 103, 104, 105, 106, 107, 108, 109, 110, 111, 112, 113, 114, 115, 116, 117, 118, 119, 120, 121, 122, 123, 124, 125, 126, 127, 128, 129, 130, 131, 132, 133, 134, 135, 136, 137, 138, 139] (fun y => [(13, .s (.i .i64 y.1))]) (fun y => [Tl.tlbB y.2.2])
    (fun y => h ++ [MB (h.length + 1) y.2.1, MW y.2.1, MB (h.length + 3) y.2.1, MW y.2.1, Tl.tlbB y.2.2])
    (fun y => y.1 ≤ A.length ∧ Tl.okT y.2.2 ∧ okM y.2.2) (fun y => A.length - y.1) (0, m, linesZ) ⟨Nat.zero_le _, Tl.okT_z, okM_linesZ⟩ ?_ ?_
  · refine Wk.same rfl rfl ?_
    simp (config := { maxSteps := 10000000 }) only [EV1, EV2, EV3, EV4, EV5, EV6, addT, istep, lenR_sl, lenR_ns, lenR_es, pickR, putD, bin1R, un1R, slcR, bnd, capsOf, fillP, S_plain, V_plain, V.cells, S_known, V_known, C.v, blk, setL, setH, eqS, eq1, cmpS, cmp1, isNil, popTo, killT, setT, leT, V.below, C.below, S_below, R.below, V.val, C.val, S_val, R.val, R.takes, vals, shows, List.any_cons, List.any_nil, unnamed, V.kill, V.names, C.names, S_names, R.names, List.set, List.replicate, ↓q_cond_t, ↓q_cond_f, if_true, if_false, reduceCtorEq, rvals, rvC, result, C_known, V.noL, C.noL, S_noL, R.noL, Option.map, true_and, and_true, ge_iff_le, gt_iff_lt, implies_true, q_ite_t, q_ite_f, beq_iff_eq, bne_iff_ne, q_ne, Nat.reduceAdd, Nat.reducePow, Int.reducePow, Nat.reduceMul, Nat.reduceSub, Nat.reduceLeDiff, Nat.reduceLT, Nat.reduceEqDiff, Int.reduceNeg, Int.reduceLT, Int.reduceLE, Int.reduceEq, Int.reduceNe, Int.reduceAdd, Int.reduceSub, Int.reduceMul, Int.reduceToNat, Int.reduceBEq, Int.reduceBNe, q_cast, Int.natCast_zero]
  · rintro X ⟨i, m, L⟩ ⟨hi, hT, hM⟩ IH
    simp only at hi hT hM IH ⊢
    have h8 := hT.len
    rcases Nat.lt_or_ge i A.length with h1 | h1
    · obtain ⟨d1, d2, d3, d4⟩ := idx h1 (by omega)
      obtain ⟨j, c', st, room, hse, hj, hd⟩ := Ha.at h1
      obtain ⟨⟨root, asid, v, wr, at_, ev, fl⟩, ho⟩ : ∃ o, nth opWZ A i = o := ⟨_, rfl⟩
      have hs : sub (arr OpW.c A) (i * 7) 7 = [.i .i64 root, .i .i64 asid, .i .i64 v, .b wr, .i .i64 at_, .b ev, .b fl] := by
        have : sub (arr OpW.c A) (i * 7) 7 = (OpW.mk root asid v wr at_ ev fl).c := by rw [← ho, nth_eq h1]; exact arr_sub OpW.c_len h1
        exact this
      have hle : i * 7 + 7 ≤ (arr OpW.c A).length := by
        rw [arr_length OpW.c_len]
        have : (i + 1) * 7 ≤ A.length * 7 := Nat.mul_le_mul_right _ h1
        omega
      have hjl : j < h.length := (List.getElem?_eq_some_iff.1 hj).1
      have hjx : ∀ X, (h ++ X)[j]? = some ⟨st, arr OpW.c A, room⟩ := fun X => by rw [app_getl hjl, hj]
      have z2 : A.length - (i + 1) < A.length - i := by omega
      have hc5 : ∀ (m2 m3 : M) (L : List Tl.Ln), clean (h.length + 5) (h ++ [MB (h.length + 1) m2, MW m2, MB (h.length + 3) m3, MW m3, Tl.tlbB L]) = true := fun m2 m3 L => by
        rw [clean_h hc (Nat.le_add_right _ _)]
        simp only [clean_cons, clean_nil, vals_MB, MW_vals, tlbB_vals]; decide
      cases ev with
      | true =>
        by_cases ha : 0 ≤ at_ ∧ at_ ≤ 7
        · obtain ⟨o1, o2⟩ := evict_ok hT hM ha
          have o8 := o1.len
          obtain ⟨L', hL'⟩ : ∃ L', L.set at_.toNat Tl.Ln.z = L' := ⟨_, rfl⟩
          rw [hL'] at o1 o2 o8
          refine run_sound (Tab.ok_Γ _) 400 _ _ _ _ ?_
          simp (config := { maxSteps := 10000000 }) only [EV1, EV2, EV3, EV4, EV5, EV6, addT, istep, lenR_sl, lenR_ns, lenR_es, pickR, putD, bin1R, un1R, slcR, bnd, capsOf, fillP, S_plain, V_plain, V.cells, S_known, V_known, C.v, blk, setL, setH, eqS, eq1, cmpS, cmp1, isNil, popTo, killT, setT, leT, V.below, C.below, S_below, R.below, V.val, C.val, S_val, R.val, R.takes, vals, shows, List.any_cons, List.any_nil, unnamed, V.kill, V.names, C.names, S_names, R.names, List.set, List.replicate, ↓q_cond_t, ↓q_cond_f, if_true, if_false, reduceCtorEq, rvals, rvC, result, C_known, V.noL, C.noL, S_noL, R.noL, Option.map, true_and, and_true, ge_iff_le, gt_iff_lt, implies_true, q_ite_t, q_ite_f, beq_iff_eq, bne_iff_ne, q_ne, Nat.reduceAdd, Nat.reducePow, Int.reducePow, Nat.reduceMul, Nat.reduceSub, Nat.reduceLeDiff, Nat.reduceLT, Nat.reduceEqDiff, Int.reduceNeg, Int.reduceLT, Int.reduceLE, Int.reduceEq, Int.reduceNe, Int.reduceAdd, Int.reduceSub, Int.reduceMul, Int.reduceToNat, Int.reduceBEq, Int.reduceBNe, T8, T7, hse, d1, d2, d3, d4, hjx, hd, hs, hle, Tl.evictG, Tl.flushAsidG, app_len, nnn, app_getn, app_setn, R.lend, R.unlend, S_ren, C.ren, V.ren, app_taken, app_dropn, app_take0, app_drop0, List.take_succ_cons, List.take_zero, List.drop_succ_cons, List.drop_zero, Nat.not_lt_zero, Nat.lt_irrefl, Nat.add_sub_cancel_left, Nat.not_lt, Nat.le_add_right, blk_ren, tlbB_ren, Tl.isTlb_tlbB, Tl.tlbB_cells, Tl.dec_arr, h8, o8, ha, hL', hc5, lines5G, stepsG, stepsM, memF_0, MB_1, MB_st, Nat.add_left_cancel_iff, put, fillP]
          refine IH (i + 1, m, L') _ z2 ⟨h1, o1, o2⟩ (Wk.keep 1 rfl rfl ?_ ?_ ?_)
          · simp (config := { maxSteps := 10000000 }) only [EV1, EV2, EV3, EV4, EV5, EV6, addT, istep, lenR_sl, lenR_ns, lenR_es, pickR, putD, bin1R, un1R, slcR, bnd, capsOf, fillP, S_plain, V_plain, V.cells, S_known, V_known, C.v, blk, setL, setH, eqS, eq1, cmpS, cmp1, isNil, popTo, killT, setT, leT, V.below, C.below, S_below, R.below, V.val, C.val, S_val, R.val, R.takes, vals, shows, List.any_cons, List.any_nil, unnamed, V.kill, V.names, C.names, S_names, R.names, List.set, List.replicate, ↓q_cond_t, ↓q_cond_f, if_true, if_false, reduceCtorEq, rvals, rvC, result, C_known, V.noL, C.noL, S_noL, R.noL, Option.map, true_and, and_true, ge_iff_le, gt_iff_lt, implies_true, q_ite_t, q_ite_f, beq_iff_eq, bne_iff_ne, q_ne, Nat.reduceAdd, Nat.reducePow, Int.reducePow, Nat.reduceMul, Nat.reduceSub, Nat.reduceLeDiff, Nat.reduceLT, Nat.reduceEqDiff, Int.reduceNeg, Int.reduceLT, Int.reduceLE, Int.reduceEq, Int.reduceNe, Int.reduceAdd, Int.reduceSub, Int.reduceMul, Int.reduceToNat, Int.reduceBEq, Int.reduceBNe, hse]
          · simp (config := { maxSteps := 10000000 }) only [EV1, EV2, EV3, EV4, EV5, EV6, addT, istep, lenR_sl, lenR_ns, lenR_es, pickR, putD, bin1R, un1R, slcR, bnd, capsOf, fillP, S_plain, V_plain, V.cells, S_known, V_known, C.v, blk, setL, setH, eqS, eq1, cmpS, cmp1, isNil, popTo, killT, setT, leT, V.below, C.below, S_below, R.below, V.val, C.val, S_val, R.val, R.takes, vals, shows, List.any_cons, List.any_nil, unnamed, V.kill, V.names, C.names, S_names, R.names, List.set, List.replicate, ↓q_cond_t, ↓q_cond_f, if_true, if_false, reduceCtorEq, rvals, rvC, result, C_known, V.noL, C.noL, S_noL, R.noL, Option.map, true_and, and_true, ge_iff_le, gt_iff_lt, implies_true, q_ite_t, q_ite_f, beq_iff_eq, bne_iff_ne, q_ne, Nat.reduceAdd, Nat.reducePow, Int.reducePow, Nat.reduceMul, Nat.reduceSub, Nat.reduceLeDiff, Nat.reduceLT, Nat.reduceEqDiff, Int.reduceNeg, Int.reduceLT, Int.reduceLE, Int.reduceEq, Int.reduceNe, Int.reduceAdd, Int.reduceSub, Int.reduceMul, Int.reduceToNat, Int.reduceBEq, Int.reduceBNe, hse, hbl]
          · simp (config := { maxSteps := 10000000 }) only [EV1, EV2, EV3, EV4, EV5, EV6, addT, istep, lenR_sl, lenR_ns, lenR_es, pickR, putD, bin1R, un1R, slcR, bnd, capsOf, fillP, S_plain, V_plain, V.cells, S_known, V_known, C.v, blk, setL, setH, eqS, eq1, cmpS, cmp1, isNil, popTo, killT, setT, leT, V.below, C.below, S_below, R.below, V.val, C.val, S_val, R.val, R.takes, vals, shows, List.any_cons, List.any_nil, unnamed, V.kill, V.names, C.names, S_names, R.names, List.set, List.replicate, ↓q_cond_t, ↓q_cond_f, if_true, if_false, reduceCtorEq, rvals, rvC, result, C_known, V.noL, C.noL, S_noL, R.noL, Option.map, true_and, and_true, ge_iff_le, gt_iff_lt, implies_true, q_ite_t, q_ite_f, beq_iff_eq, bne_iff_ne, q_ne, Nat.reduceAdd, Nat.reducePow, Int.reducePow, Nat.reduceMul, Nat.reduceSub, Nat.reduceLeDiff, Nat.reduceLT, Nat.reduceEqDiff, Int.reduceNeg, Int.reduceLT, Int.reduceLE, Int.reduceEq, Int.reduceNe, Int.reduceAdd, Int.reduceSub, Int.reduceMul, Int.reduceToNat, Int.reduceBEq, Int.reduceBNe, tlbB_below]
        · have o1 := hT
          have o2 := hM
          refine run_sound (Tab.ok_Γ _) 400 _ _ _ _ ?_
          simp (config := { maxSteps := 10000000 }) only [EV1, EV2, EV3, EV4, EV5, EV6, addT, istep, lenR_sl, lenR_ns, lenR_es, pickR, putD, bin1R, un1R, slcR, bnd, capsOf, fillP, S_plain, V_plain, V.cells, S_known, V_known, C.v, blk, setL, setH, eqS, eq1, cmpS, cmp1, isNil, popTo, killT, setT, leT, V.below, C.below, S_below, R.below, V.val, C.val, S_val, R.val, R.takes, vals, shows, List.any_cons, List.any_nil, unnamed, V.kill, V.names, C.names, S_names, R.names, List.set, List.replicate, ↓q_cond_t, ↓q_cond_f, if_true, if_false, reduceCtorEq, rvals, rvC, result, C_known, V.noL, C.noL, S_noL, R.noL, Option.map, true_and, and_true, ge_iff_le, gt_iff_lt, implies_true, q_ite_t, q_ite_f, beq_iff_eq, bne_iff_ne, q_ne, Nat.reduceAdd, Nat.reducePow, Int.reducePow, Nat.reduceMul, Nat.reduceSub, Nat.reduceLeDiff, Nat.reduceLT, Nat.reduceEqDiff, Int.reduceNeg, Int.reduceLT, Int.reduceLE, Int.reduceEq, Int.reduceNe, Int.reduceAdd, Int.reduceSub, Int.reduceMul, Int.reduceToNat, Int.reduceBEq, Int.reduceBNe, T8, T7, hse, d1, d2, d3, d4, hjx, hd, hs, hle, Tl.evictG, Tl.flushAsidG, app_len, nnn, app_getn, app_setn, R.lend, R.unlend, S_ren, C.ren, V.ren, app_taken, app_dropn, app_take0, app_drop0, List.take_succ_cons, List.take_zero, List.drop_succ_cons, List.drop_zero, Nat.not_lt_zero, Nat.lt_irrefl, Nat.add_sub_cancel_left, Nat.not_lt, Nat.le_add_right, blk_ren, tlbB_ren, Tl.isTlb_tlbB, Tl.tlbB_cells, Tl.dec_arr, h8, ha, hc5, lines5G, stepsG, stepsM, memF_0, MB_1, MB_st, Nat.add_left_cancel_iff, put, fillP]
          refine IH (i + 1, m, L) _ z2 ⟨h1, o1, o2⟩ (Wk.keep 1 rfl rfl ?_ ?_ ?_)
          · simp (config := { maxSteps := 10000000 }) only [EV1, EV2, EV3, EV4, EV5, EV6, addT, istep, lenR_sl, lenR_ns, lenR_es, pickR, putD, bin1R, un1R, slcR, bnd, capsOf, fillP, S_plain, V_plain, V.cells, S_known, V_known, C.v, blk, setL, setH, eqS, eq1, cmpS, cmp1, isNil, popTo, killT, setT, leT, V.below, C.below, S_below, R.below, V.val, C.val, S_val, R.val, R.takes, vals, shows, List.any_cons, List.any_nil, unnamed, V.kill, V.names, C.names, S_names, R.names, List.set, List.replicate, ↓q_cond_t, ↓q_cond_f, if_true, if_false, reduceCtorEq, rvals, rvC, result, C_known, V.noL, C.noL, S_noL, R.noL, Option.map, true_and, and_true, ge_iff_le, gt_iff_lt, implies_true, q_ite_t, q_ite_f, beq_iff_eq, bne_iff_ne, q_ne, Nat.reduceAdd, Nat.reducePow, Int.reducePow, Nat.reduceMul, Nat.reduceSub, Nat.reduceLeDiff, Nat.reduceLT, Nat.reduceEqDiff, Int.reduceNeg, Int.reduceLT, Int.reduceLE, Int.reduceEq, Int.reduceNe, Int.reduceAdd, Int.reduceSub, Int.reduceMul, Int.reduceToNat, Int.reduceBEq, Int.reduceBNe, hse]
          · simp (config := { maxSteps := 10000000 }) only [EV1, EV2, EV3, EV4, EV5, EV6, addT, istep, lenR_sl, lenR_ns, lenR_es, pickR, putD, bin1R, un1R, slcR, bnd, capsOf, fillP, S_plain, V_plain, V.cells, S_known, V_known, C.v, blk, setL, setH, eqS, eq1, cmpS, cmp1, isNil, popTo, killT, setT, leT, V.below, C.below, S_below, R.below, V.val, C.val, S_val, R.val, R.takes, vals, shows, List.any_cons, List.any_nil, unnamed, V.kill, V.names, C.names, S_names, R.names, List.set, List.replicate, ↓q_cond_t, ↓q_cond_f, if_true, if_false, reduceCtorEq, rvals, rvC, result, C_known, V.noL, C.noL, S_noL, R.noL, Option.map, true_and, and_true, ge_iff_le, gt_iff_lt, implies_true, q_ite_t, q_ite_f, beq_iff_eq, bne_iff_ne, q_ne, Nat.reduceAdd, Nat.reducePow, Int.reducePow, Nat.reduceMul, Nat.reduceSub, Nat.reduceLeDiff, Nat.reduceLT, Nat.reduceEqDiff, Int.reduceNeg, Int.reduceLT, Int.reduceLE, Int.reduceEq, Int.reduceNe, Int.reduceAdd, Int.reduceSub, Int.reduceMul, Int.reduceToNat, Int.reduceBEq, Int.reduceBNe, hse, hbl]
          · simp (config := { maxSteps := 10000000 }) only [EV1, EV2, EV3, EV4, EV5, EV6, addT, istep, lenR_sl, lenR_ns, lenR_es, pickR, putD, bin1R, un1R, slcR, bnd, capsOf, fillP, S_plain, V_plain, V.cells, S_known, V_known, C.v, blk, setL, setH, eqS, eq1, cmpS, cmp1, isNil, popTo, killT, setT, leT, V.below, C.below, S_below, R.below, V.val, C.val, S_val, R.val, R.takes, vals, shows, List.any_cons, List.any_nil, unnamed, V.kill, V.names, C.names, S_names, R.names, List.set, List.replicate, ↓q_cond_t, ↓q_cond_f, if_true, if_false, reduceCtorEq, rvals, rvC, result, C_known, V.noL, C.noL, S_noL, R.noL, Option.map, true_and, and_true, ge_iff_le, gt_iff_lt, implies_true, q_ite_t, q_ite_f, beq_iff_eq, bne_iff_ne, q_ne, Nat.reduceAdd, Nat.reducePow, Int.reducePow, Nat.reduceMul, Nat.reduceSub, Nat.reduceLeDiff, Nat.reduceLT, Nat.reduceEqDiff, Int.reduceNeg, Int.reduceLT, Int.reduceLE, Int.reduceEq, Int.reduceNe, Int.reduceAdd, Int.reduceSub, Int.reduceMul, Int.reduceToNat, Int.reduceBEq, Int.reduceBNe, tlbB_below]
      | false =>
        cases fl with
        | true =>
          obtain ⟨o1, o2⟩ := flush_ok (fun l => l.a == asid) hT hM
          have o8 := o1.len
          obtain ⟨L', hL'⟩ : ∃ L', Tl.sieve (fun l => l.a == asid) L = L' := ⟨_, rfl⟩
          rw [hL'] at o1 o2 o8
          refine run_sound (Tab.ok_Γ _) 400 _ _ _ _ ?_
          simp (config := { maxSteps := 10000000 }) only [EV1, EV2, EV3, EV4, EV5, EV6, addT, istep, lenR_sl, lenR_ns, lenR_es, pickR, putD, bin1R, un1R, slcR, bnd, capsOf, fillP, S_plain, V_plain, V.cells, S_known, V_known, C.v, blk, setL, setH, eqS, eq1, cmpS, cmp1, isNil, popTo, killT, setT, leT, V.below, C.below, S_below, R.below, V.val, C.val, S_val, R.val, R.takes, vals, shows, List.any_cons, List.any_nil, unnamed, V.kill, V.names, C.names, S_names, R.names, List.set, List.replicate, ↓q_cond_t, ↓q_cond_f, if_true, if_false, reduceCtorEq, rvals, rvC, result, C_known, V.noL, C.noL, S_noL, R.noL, Option.map, true_and, and_true, ge_iff_le, gt_iff_lt, implies_true, q_ite_t, q_ite_f, beq_iff_eq, bne_iff_ne, q_ne, Nat.reduceAdd, Nat.reducePow, Int.reducePow, Nat.reduceMul, Nat.reduceSub, Nat.reduceLeDiff, Nat.reduceLT, Nat.reduceEqDiff, Int.reduceNeg, Int.reduceLT, Int.reduceLE, Int.reduceEq, Int.reduceNe, Int.reduceAdd, Int.reduceSub, Int.reduceMul, Int.reduceToNat, Int.reduceBEq, Int.reduceBNe, T8, T7, hse, d1, d2, d3, d4, hjx, hd, hs, hle, Tl.evictG, Tl.flushAsidG, app_len, nnn, app_getn, app_setn, R.lend, R.unlend, S_ren, C.ren, V.ren, app_taken, app_dropn, app_take0, app_drop0, List.take_succ_cons, List.take_zero, List.drop_succ_cons, List.drop_zero, Nat.not_lt_zero, Nat.lt_irrefl, Nat.add_sub_cancel_left, Nat.not_lt, Nat.le_add_right, blk_ren, tlbB_ren, Tl.isTlb_tlbB, Tl.tlbB_cells, Tl.dec_arr, h8, o8, hL', hc5, lines5G, stepsG, stepsM, memF_0, MB_1, MB_st, Nat.add_left_cancel_iff, put, fillP]
          refine IH (i + 1, m, L') _ z2 ⟨h1, o1, o2⟩ (Wk.keep 1 rfl rfl ?_ ?_ ?_)
          · simp (config := { maxSteps := 10000000 }) only [EV1, EV2, EV3, EV4, EV5, EV6, addT, istep, lenR_sl, lenR_ns, lenR_es, pickR, putD, bin1R, un1R, slcR, bnd, capsOf, fillP, S_plain, V_plain, V.cells, S_known, V_known, C.v, blk, setL, setH, eqS, eq1, cmpS, cmp1, isNil, popTo, killT, setT, leT, V.below, C.below, S_below, R.below, V.val, C.val, S_val, R.val, R.takes, vals, shows, List.any_cons, List.any_nil, unnamed, V.kill, V.names, C.names, S_names, R.names, List.set, List.replicate, ↓q_cond_t, ↓q_cond_f, if_true, if_false, reduceCtorEq, rvals, rvC, result, C_known, V.noL, C.noL, S_noL, R.noL, Option.map, true_and, and_true, ge_iff_le, gt_iff_lt, implies_true, q_ite_t, q_ite_f, beq_iff_eq, bne_iff_ne, q_ne, Nat.reduceAdd, Nat.reducePow, Int.reducePow, Nat.reduceMul, Nat.reduceSub, Nat.reduceLeDiff, Nat.reduceLT, Nat.reduceEqDiff, Int.reduceNeg, Int.reduceLT, Int.reduceLE, Int.reduceEq, Int.reduceNe, Int.reduceAdd, Int.reduceSub, Int.reduceMul, Int.reduceToNat, Int.reduceBEq, Int.reduceBNe, hse]
          · simp (config := { maxSteps := 10000000 }) only [EV1, EV2, EV3, EV4, EV5, EV6, addT, istep, lenR_sl, lenR_ns, lenR_es, pickR, putD, bin1R, un1R, slcR, bnd, capsOf, fillP, S_plain, V_plain, V.cells, S_known, V_known, C.v, blk, setL, setH, eqS, eq1, cmpS, cmp1, isNil, popTo, killT, setT, leT, V.below, C.below, S_below, R.below, V.val, C.val, S_val, R.val, R.takes, vals, shows, List.any_cons, List.any_nil, unnamed, V.kill, V.names, C.names, S_names, R.names, List.set, List.replicate, ↓q_cond_t, ↓q_cond_f, if_true, if_false, reduceCtorEq, rvals, rvC, result, C_known, V.noL, C.noL, S_noL, R.noL, Option.map, true_and, and_true, ge_iff_le, gt_iff_lt, implies_true, q_ite_t, q_ite_f, beq_iff_eq, bne_iff_ne, q_ne, Nat.reduceAdd, Nat.reducePow, Int.reducePow, Nat.reduceMul, Nat.reduceSub, Nat.reduceLeDiff, Nat.reduceLT, Nat.reduceEqDiff, Int.reduceNeg, Int.reduceLT, Int.reduceLE, Int.reduceEq, Int.reduceNe, Int.reduceAdd, Int.reduceSub, Int.reduceMul, Int.reduceToNat, Int.reduceBEq, Int.reduceBNe, hse, hbl]
          · simp (config := { maxSteps := 10000000 }) only [EV1, EV2, EV3, EV4, EV5, EV6, addT, istep, lenR_sl, lenR_ns, lenR_es, pickR, putD, bin1R, un1R, slcR, bnd, capsOf, fillP, S_plain, V_plain, V.cells, S_known, V_known, C.v, blk, setL, setH, eqS, eq1, cmpS, cmp1, isNil, popTo, killT, setT, leT, V.below, C.below, S_below, R.below, V.val, C.val, S_val, R.val, R.takes, vals, shows, List.any_cons, List.any_nil, unnamed, V.kill, V.names, C.names, S_names, R.names, List.set, List.replicate, ↓q_cond_t, ↓q_cond_f, if_true, if_false, reduceCtorEq, rvals, rvC, result, C_known, V.noL, C.noL, S_noL, R.noL, Option.map, true_and, and_true, ge_iff_le, gt_iff_lt, implies_true, q_ite_t, q_ite_f, beq_iff_eq, bne_iff_ne, q_ne, Nat.reduceAdd, Nat.reducePow, Int.reducePow, Nat.reduceMul, Nat.reduceSub, Nat.reduceLeDiff, Nat.reduceLT, Nat.reduceEqDiff, Int.reduceNeg, Int.reduceLT, Int.reduceLE, Int.reduceEq, Int.reduceNe, Int.reduceAdd, Int.reduceSub, Int.reduceMul, Int.reduceToNat, Int.reduceBEq, Int.reduceBNe, tlbB_below]
        | false =>
          obtain ⟨o1, o2⟩ := reachF_ok (m := m) (root := root) (asid := asid) (v := v) (at_ := at_) (w := wr) hT hM
          have o8 := o1.len
          obtain ⟨x, hx⟩ : ∃ x, reachF m L root asid v wr at_ = x := ⟨_, rfl⟩
          rw [hx] at o1 o2 o8
          refine run_sound (Tab.ok_Γ _) 400 _ _ _ _ ?_
          simp (config := { maxSteps := 10000000 }) only [EV1, EV2, EV3, EV4, EV5, EV6, addT, istep, lenR_sl, lenR_ns, lenR_es, pickR, putD, bin1R, un1R, slcR, bnd, capsOf, fillP, S_plain, V_plain, V.cells, S_known, V_known, C.v, blk, setL, setH, eqS, eq1, cmpS, cmp1, isNil, popTo, killT, setT, leT, V.below, C.below, S_below, R.below, V.val, C.val, S_val, R.val, R.takes, vals, shows, List.any_cons, List.any_nil, unnamed, V.kill, V.names, C.names, S_names, R.names, List.set, List.replicate, ↓q_cond_t, ↓q_cond_f, if_true, if_false, reduceCtorEq, rvals, rvC, result, C_known, V.noL, C.noL, S_noL, R.noL, Option.map, true_and, and_true, ge_iff_le, gt_iff_lt, implies_true, q_ite_t, q_ite_f, beq_iff_eq, bne_iff_ne, q_ne, Nat.reduceAdd, Nat.reducePow, Int.reducePow, Nat.reduceMul, Nat.reduceSub, Nat.reduceLeDiff, Nat.reduceLT, Nat.reduceEqDiff, Int.reduceNeg, Int.reduceLT, Int.reduceLE, Int.reduceEq, Int.reduceNe, Int.reduceAdd, Int.reduceSub, Int.reduceMul, Int.reduceToNat, Int.reduceBEq, Int.reduceBNe, T8, T7, hse, d1, d2, d3, d4, hjx, hd, hs, hle, Tl.evictG, Tl.flushAsidG, app_len, nnn, app_getn, app_setn, R.lend, R.unlend, S_ren, C.ren, V.ren, app_taken, app_dropn, app_take0, app_drop0, List.take_succ_cons, List.take_zero, List.drop_succ_cons, List.drop_zero, Nat.not_lt_zero, Nat.lt_irrefl, Nat.add_sub_cancel_left, Nat.not_lt, Nat.le_add_right, blk_ren, tlbB_ren, Tl.isTlb_tlbB, Tl.tlbB_cells, Tl.dec_arr, h8, o8, reachG, memAt_0, memAt_2, hT, hM, hx, RR.v, Nat.add_eq_left, at0_set, at2_set, hc5, lines5G, stepsG, stepsM, memF_0, MB_1, MB_st, Nat.add_left_cancel_iff, put, fillP]
          refine IH (i + 1, x.m, x.L) _ z2 ⟨h1, o1, o2⟩ (Wk.keep 1 rfl rfl ?_ ?_ ?_)
          · simp (config := { maxSteps := 10000000 }) only [EV1, EV2, EV3, EV4, EV5, EV6, addT, istep, lenR_sl, lenR_ns, lenR_es, pickR, putD, bin1R, un1R, slcR, bnd, capsOf, fillP, S_plain, V_plain, V.cells, S_known, V_known, C.v, blk, setL, setH, eqS, eq1, cmpS, cmp1, isNil, popTo, killT, setT, leT, V.below, C.below, S_below, R.below, V.val, C.val, S_val, R.val, R.takes, vals, shows, List.any_cons, List.any_nil, unnamed, V.kill, V.names, C.names, S_names, R.names, List.set, List.replicate, ↓q_cond_t, ↓q_cond_f, if_true, if_false, reduceCtorEq, rvals, rvC, result, C_known, V.noL, C.noL, S_noL, R.noL, Option.map, true_and, and_true, ge_iff_le, gt_iff_lt, implies_true, q_ite_t, q_ite_f, beq_iff_eq, bne_iff_ne, q_ne, Nat.reduceAdd, Nat.reducePow, Int.reducePow, Nat.reduceMul, Nat.reduceSub, Nat.reduceLeDiff, Nat.reduceLT, Nat.reduceEqDiff, Int.reduceNeg, Int.reduceLT, Int.reduceLE, Int.reduceEq, Int.reduceNe, Int.reduceAdd, Int.reduceSub, Int.reduceMul, Int.reduceToNat, Int.reduceBEq, Int.reduceBNe, hse]
          · simp (config := { maxSteps := 10000000 }) only [EV1, EV2, EV3, EV4, EV5, EV6, addT, istep, lenR_sl, lenR_ns, lenR_es, pickR, putD, bin1R, un1R, slcR, bnd, capsOf, fillP, S_plain, V_plain, V.cells, S_known, V_known, C.v, blk, setL, setH, eqS, eq1, cmpS, cmp1, isNil, popTo, killT, setT, leT, V.below, C.below, S_below, R.below, V.val, C.val, S_val, R.val, R.takes, vals, shows, List.any_cons, List.any_nil, unnamed, V.kill, V.names, C.names, S_names, R.names, List.set, List.replicate, ↓q_cond_t, ↓q_cond_f, if_true, if_false, reduceCtorEq, rvals, rvC, result, C_known, V.noL, C.noL, S_noL, R.noL, Option.map, true_and, and_true, ge_iff_le, gt_iff_lt, implies_true, q_ite_t, q_ite_f, beq_iff_eq, bne_iff_ne, q_ne, Nat.reduceAdd, Nat.reducePow, Int.reducePow, Nat.reduceMul, Nat.reduceSub, Nat.reduceLeDiff, Nat.reduceLT, Nat.reduceEqDiff, Int.reduceNeg, Int.reduceLT, Int.reduceLE, Int.reduceEq, Int.reduceNe, Int.reduceAdd, Int.reduceSub, Int.reduceMul, Int.reduceToNat, Int.reduceBEq, Int.reduceBNe, hse, hbl]
          · simp (config := { maxSteps := 10000000 }) only [EV1, EV2, EV3, EV4, EV5, EV6, addT, istep, lenR_sl, lenR_ns, lenR_es, pickR, putD, bin1R, un1R, slcR, bnd, capsOf, fillP, S_plain, V_plain, V.cells, S_known, V_known, C.v, blk, setL, setH, eqS, eq1, cmpS, cmp1, isNil, popTo, killT, setT, leT, V.below, C.below, S_below, R.below, V.val, C.val, S_val, R.val, R.takes, vals, shows, List.any_cons, List.any_nil, unnamed, V.kill, V.names, C.names, S_names, R.names, List.set, List.replicate, ↓q_cond_t, ↓q_cond_f, if_true, if_false, reduceCtorEq, rvals, rvC, result, C_known, V.noL, C.noL, S_noL, R.noL, Option.map, true_and, and_true, ge_iff_le, gt_iff_lt, implies_true, q_ite_t, q_ite_f, beq_iff_eq, bne_iff_ne, q_ne, Nat.reduceAdd, Nat.reducePow, Int.reducePow, Nat.reduceMul, Nat.reduceSub, Nat.reduceLeDiff, Nat.reduceLT, Nat.reduceEqDiff, Int.reduceNeg, Int.reduceLT, Int.reduceLE, Int.reduceEq, Int.reduceNe, Int.reduceAdd, Int.reduceSub, Int.reduceMul, Int.reduceToNat, Int.reduceBEq, Int.reduceBNe, tlbB_below]
    · have : i = A.length := by omega
      subst this
      refine run_sound (Tab.ok_Γ _) 300 _ _ _ _ ?_
      simp (config := { maxSteps := 10000000 }) only [EV1, EV2, EV3, EV4, EV5, EV6, addT, istep, lenR_sl, lenR_ns, lenR_es, pickR, putD, bin1R, un1R, slcR, bnd, capsOf, fillP, S_plain, V_plain, V.cells, S_known, V_known, C.v, blk, setL, setH, eqS, eq1, cmpS, cmp1, isNil, popTo, killT, setT, leT, V.below, C.below, S_below, R.below, V.val, C.val, S_val, R.val, R.takes, vals, shows, List.any_cons, List.any_nil, unnamed, V.kill, V.names, C.names, S_names, R.names, List.set, List.replicate, ↓q_cond_t, ↓q_cond_f, if_true, if_false, reduceCtorEq, rvals, rvC, result, C_known, V.noL, C.noL, S_noL, R.noL, Option.map, true_and, and_true, ge_iff_le, gt_iff_lt, implies_true, q_ite_t, q_ite_f, beq_iff_eq, bne_iff_ne, q_ne, Nat.reduceAdd, Nat.reducePow, Int.reducePow, Nat.reduceMul, Nat.reduceSub, Nat.reduceLeDiff, Nat.reduceLT, Nat.reduceEqDiff, Int.reduceNeg, Int.reduceLT, Int.reduceLE, Int.reduceEq, Int.reduceNe, Int.reduceAdd, Int.reduceSub, Int.reduceMul, Int.reduceToNat, Int.reduceBEq, Int.reduceBNe, hlen2, Int.lt_irrefl]
      exact hK _
end Go.Proofs.Yteeeidldknlblaa

/- Law 05: WalkBuffered. -/
namespace Go.Proofs.Yteeeidldknlblaa
open Go.D
set_option linter.all false
set_option maxRecDepth 100000
set_option maxHeartbeats 8000000

theorem idxV_page {v : Int} (hv : virtB v = true) (l : Int) : idxV (v / 16 * 16) l = idxV v l := by
  have hb : 0 ≤ v ∧ v ≤ 65535 := by simpa [virtB] using hv
  have hp : virtB (v / 16 * 16) = true := by simp [virtB]; omega
  by_cases hl : 0 ≤ l ∧ l ≤ 3
  · have h1 : inIdx v l = true := inIdx_iff.2 ⟨hv, hl⟩
    have h2 : inIdx (v / 16 * 16) l = true := inIdx_iff.2 ⟨hp, hl⟩
    unfold idxV
    rw [if_pos h1, if_pos h2]
    have : l = 0 ∨ l = 1 ∨ l = 2 ∨ l = 3 := by omega
    rcases this with rfl | rfl | rfl | rfl
    · show v / 16 * 16 / 8192 % 8 = v / 8192 % 8; omega
    · show v / 16 * 16 / 1024 % 8 = v / 1024 % 8; omega
    · show v / 16 * 16 / 128 % 8 = v / 128 % 8; omega
    · show v / 16 * 16 / 16 % 8 = v / 16 % 8; omega
  · unfold idxV
    rw [if_neg (fun e => hl (inIdx_iff.1 e).2), if_neg (fun e => hl (inIdx_iff.1 e).2)]
theorem walkF_same {v v' : Int} (hv : ∀ l, idxV v' l = idxV v l) : ∀ (n : Nat) (m k : M) (t l : Int), k.w = m.w →
    (walkF v' n k t l).a = (walkF v n m t l).a ∧ (walkF v' n k t l).r = (walkF v n m t l).r ∧ (walkF v' n k t l).l = (walkF v n m t l).l ∧ (walkF v' n k t l).e = (walkF v n m t l).e
  | 0, _, _, _, _, _ => ⟨rfl, rfl, rfl, rfl⟩
  | n + 1, m, k, t, l, hw => by
    have ha : atW t v' l = atW t v l := by rw [atW, atW, hv]
    have hr := readV_w hw (atW t v l)
    have hs : stepB k t v' l = stepB m t v l := by
      unfold stepB; rw [ha, hr, has_w hw]
    cases hm : stepB m t v l with
    | false =>
      rw [walk_stop hm, walk_stop (hs.trans hm)]
      exact ⟨rfl, rfl, rfl, rfl⟩
    | true =>
      by_cases h3 : l = 3
      · rw [walk_end hm h3, walk_end (hs.trans hm) h3, ha, hr]
        exact ⟨rfl, rfl, rfl, rfl⟩
      · rw [walk_on hm h3, walk_on (hs.trans hm) h3, ha, hr]
        exact walkF_same hv n _ _ _ _ (by rw [M.readX_w, M.readX_w, hw])
def rootOf (Rs : List Int) (a : Int) : Int := nth 0 Rs (a % (Rs.length : Int)).toNat
/-- What is remembered is as the tables say. -/
def Buf (m : M) (Rs : List Int) (L : List Tl.Ln) : Prop := ∀ l, l ∈ L → l.nil = false → (walkF (l.p * 16) 4 m (rootOf Rs l.a) 0).e = 0 ∧ (walkF (l.p * 16) 4 m (rootOf Rs l.a) 0).a = l.x ∧ (walkF (l.p * 16) 4 m (rootOf Rs l.a) 0).r = l.r
theorem Buf.set {m : M} {Rs : List Int} {L : List Tl.Ln} (h : Buf m Rs L) {l : Tl.Ln} (i : Nat) (hl : l.nil = false → (walkF (l.p * 16) 4 m (rootOf Rs l.a) 0).e = 0 ∧ (walkF (l.p * 16) 4 m (rootOf Rs l.a) 0).a = l.x ∧ (walkF (l.p * 16) 4 m (rootOf Rs l.a) 0).r = l.r) : Buf m Rs (L.set i l) := fun x hx => by
  rcases List.mem_or_eq_of_mem_set hx with h1 | h1
  · exact h x h1
  · rw [h1]; exact hl
theorem Buf.sieve {m : M} {Rs : List Int} {L : List Tl.Ln} (h : Buf m Rs L) (q : Tl.Ln → Bool) : Buf m Rs (Tl.sieve q L) := fun x hx hn => by
  obtain ⟨y, hy, rfl⟩ := List.mem_map.1 hx
  split at hn
  · exact absurd hn (by decide)
  · rename_i e
    rw [if_neg e]
    exact h y hy hn
theorem Buf.zero (m : M) (Rs : List Int) : Buf m Rs linesZ := fun x hx hn => by
  rw [List.eq_of_mem_replicate hx] at hn; exact absurd hn (by decide)
/-- What an access is answered, as the tables and the rights say. -/
theorem buf_reach {m0 m : M} {Rs : List Int} {L : List Tl.Ln} {asid v at_ : Int} {w : Bool} (hB : Buf m0 Rs L) (hM : okM L) (hw : m.w = m0.w) (ha : askB (rootOf Rs asid) asid v at_ = true) :
    Buf m0 Rs (reachF m L (rootOf Rs asid) asid v w at_).L ∧ (reachF m L (rootOf Rs asid) asid v w at_).m.w = m0.w ∧
    (((walkF v 4 m0 (rootOf Rs asid) 0).e = 0 ∧ (reachF m L (rootOf Rs asid) asid v w at_).a = (if allowB (walkF v 4 m0 (rootOf Rs asid) 0).r w then (walkF v 4 m0 (rootOf Rs asid) 0).a + v % 16 else 0) ∧ (reachF m L (rootOf Rs asid) asid v w at_).e = (if allowB (walkF v 4 m0 (rootOf Rs asid) 0).r w then 0 else 50)) ∨
      ((walkF v 4 m0 (rootOf Rs asid) 0).e = 50 ∧ (reachF m L (rootOf Rs asid) asid v w at_).a = 0 ∧ (reachF m L (rootOf Rs asid) asid v w at_).e = 50)) := by
  obtain ⟨h1, h2, h3, h4⟩ := askB_iff.1 ha
  have hpg := fun l => idxV_page h1 l
  have hs := walkF_same (v := v) (v' := v) (fun _ => rfl) 4 m0 m (rootOf Rs asid) 0 hw
  have hs2 := walkF_same hpg 4 m0 m0 (rootOf Rs asid) 0 rfl
  by_cases hf : Tl.atF asid (v / 16) L 0 < 0
  · rcases walkF_ok v 4 m (rootOf Rs asid) 0 with ⟨he, w1, w2, w3, w4, w5⟩ | ⟨he, _⟩
    · rw [reach_walk ha hf he, reachEnd_L, reachEnd_m]
      refine ⟨hB.set _ fun _ => ?_, by rw [walkF_w, hw], .inl ⟨by rw [← hs.2.2.2]; exact he, ?_, ?_⟩⟩
      · simp only
        rw [hs2.1, hs2.2.1, hs2.2.2.2, hs.1, hs.2.1, ← hs.2.2.2]
        exact ⟨he, rfl, rfl⟩
      · rw [← hs.1, ← hs.2.1]; unfold reachEnd; split <;> rfl
      · rw [← hs.2.1]; unfold reachEnd; split <;> rfl
    · rw [reach_fault ha hf (by rw [he]; decide)]
      exact ⟨hB, by rw [walkF_w, hw], .inr ⟨by rw [← hs.2.2.2]; exact he, rfl, he⟩⟩
  · rw [reach_found ha hf, reachEnd_L, reachEnd_m]
    rcases Tl.atF_spec asid (v / 16) L 0 with ⟨e, _⟩ | ⟨j, hj, e, hh⟩
    · rw [e] at hf; exact absurd (by decide) hf
    · have e2 : (Tl.atF asid (v / 16) L 0).toNat = j := by rw [e]; omega
      rw [e2, nth_eq hj]
      have hq : L[j].nil = false ∧ L[j].a = asid ∧ L[j].p = v / 16 := by simpa [Tl.Ln.hit] using hh
      have hb := hB _ (List.getElem_mem hj) hq.1
      rw [hq.2.1, hq.2.2, hs2.1, hs2.2.1, hs2.2.2.2] at hb
      refine ⟨hB, hw, .inl ⟨hb.1, ?_, ?_⟩⟩
      · rw [hb.2.1, hb.2.2]; unfold reachEnd; split <;> rfl
      · rw [hb.2.2]; unfold reachEnd; split <;> rfl

def bufferedS : FSpec := fun args h K => ∃ s L s2 Rs s3 A, args = [.s s, .s s2, .s s3] ∧ IsArr Wd.c h s L ∧ (∀ x, x ∈ L → u64 x.w) ∧ L.length ≤ 140737488355328 ∧ IsArr In.c h s2 Rs ∧ IsArr OpW.c h s3 A ∧ ∀ h', K (.s (.b true)) h'
theorem buffered_snd : Snd Try.prog 11 bufferedS := (fwp_sound (Tab.snd_Γ T8_snd) mixed Try.func11 dc11).weaken fun args h K hc hS => by
  obtain ⟨s, L, s2, Rs, s3, A, rfl, Hs, hu, hn, Hr, Ha, hK⟩ := hS
  refine fwp_run (Tab.ok_Γ _) 600 ?_
  have hlen := fun ls h' => Hs.sl.len (ls := ls) (h := h')
  have hlen2 := fun ls h' => Hr.sl.len (ls := ls) (h := h')
  have hlen3 := fun ls h' => Ha.sl.len (ls := ls) (h := h')
  have hkn := Hs.sl.known
  have hnl := Hs.sl.noL
  have hbl : ∀ k, S.below k s = true := Hs.sl.below
  have hbl2 : ∀ k, S.below k s2 = true := Hr.sl.below
  have hbl3 : ∀ k, S.below k s3 = true := Ha.sl.below
  by_cases c0 : (2147483647 : Int) < L.length
  · simp (config := { maxSteps := 10000000 }) only [EV1, EV2, EV3, EV4, EV5, EV6, addT, istep, lenR_sl, lenR_ns, lenR_es, pickR, putD, bin1R, un1R, slcR, bnd, capsOf, fillP, S_plain, V_plain, V.cells, S_known, V_known, C.v, blk, setL, setH, eqS, eq1, cmpS, cmp1, isNil, popTo, killT, setT, leT, V.below, C.below, S_below, R.below, V.val, C.val, S_val, R.val, R.takes, vals, shows, List.any_cons, List.any_nil, unnamed, V.kill, V.names, C.names, S_names, R.names, List.set, List.replicate, ↓q_cond_t, ↓q_cond_f, if_true, if_false, reduceCtorEq, rvals, rvC, result, C_known, V.noL, C.noL, S_noL, R.noL, Option.map, true_and, and_true, ge_iff_le, gt_iff_lt, implies_true, q_ite_t, q_ite_f, beq_iff_eq, bne_iff_ne, q_ne, Nat.reduceAdd, Nat.reducePow, Int.reducePow, Nat.reduceMul, Nat.reduceSub, Nat.reduceLeDiff, Nat.reduceLT, Nat.reduceEqDiff, Int.reduceNeg, Int.reduceLT, Int.reduceLE, Int.reduceEq, Int.reduceNe, Int.reduceAdd, Int.reduceSub, Int.reduceMul, Int.reduceToNat, Int.reduceBEq, Int.reduceBNe, df11, hlen, hlen2, hlen3, c0]
    exact hK _
  by_cases c1 : (2147483647 : Int) < Rs.length
  · simp (config := { maxSteps := 10000000 }) only [EV1, EV2, EV3, EV4, EV5, EV6, addT, istep, lenR_sl, lenR_ns, lenR_es, pickR, putD, bin1R, un1R, slcR, bnd, capsOf, fillP, S_plain, V_plain, V.cells, S_known, V_known, C.v, blk, setL, setH, eqS, eq1, cmpS, cmp1, isNil, popTo, killT, setT, leT, V.below, C.below, S_below, R.below, V.val, C.val, S_val, R.val, R.takes, vals, shows, List.any_cons, List.any_nil, unnamed, V.kill, V.names, C.names, S_names, R.names, List.set, List.replicate, ↓q_cond_t, ↓q_cond_f, if_true, if_false, reduceCtorEq, rvals, rvC, result, C_known, V.noL, C.noL, S_noL, R.noL, Option.map, true_and, and_true, ge_iff_le, gt_iff_lt, implies_true, q_ite_t, q_ite_f, beq_iff_eq, bne_iff_ne, q_ne, Nat.reduceAdd, Nat.reducePow, Int.reducePow, Nat.reduceMul, Nat.reduceSub, Nat.reduceLeDiff, Nat.reduceLT, Nat.reduceEqDiff, Int.reduceNeg, Int.reduceLT, Int.reduceLE, Int.reduceEq, Int.reduceNe, Int.reduceAdd, Int.reduceSub, Int.reduceMul, Int.reduceToNat, Int.reduceBEq, Int.reduceBNe, df11, hlen, hlen2, hlen3, c0, c1]
    exact hK _
  by_cases c2 : (2147483647 : Int) < A.length
  · simp (config := { maxSteps := 10000000 }) only [EV1, EV2, EV3, EV4, EV5, EV6, addT, istep, lenR_sl, lenR_ns, lenR_es, pickR, putD, bin1R, un1R, slcR, bnd, capsOf, fillP, S_plain, V_plain, V.cells, S_known, V_known, C.v, blk, setL, setH, eqS, eq1, cmpS, cmp1, isNil, popTo, killT, setT, leT, V.below, C.below, S_below, R.below, V.val, C.val, S_val, R.val, R.takes, vals, shows, List.any_cons, List.any_nil, unnamed, V.kill, V.names, C.names, S_names, R.names, List.set, List.replicate, ↓q_cond_t, ↓q_cond_f, if_true, if_false, reduceCtorEq, rvals, rvC, result, C_known, V.noL, C.noL, S_noL, R.noL, Option.map, true_and, and_true, ge_iff_le, gt_iff_lt, implies_true, q_ite_t, q_ite_f, beq_iff_eq, bne_iff_ne, q_ne, Nat.reduceAdd, Nat.reducePow, Int.reducePow, Nat.reduceMul, Nat.reduceSub, Nat.reduceLeDiff, Nat.reduceLT, Nat.reduceEqDiff, Int.reduceNeg, Int.reduceLT, Int.reduceLE, Int.reduceEq, Int.reduceNe, Int.reduceAdd, Int.reduceSub, Int.reduceMul, Int.reduceToNat, Int.reduceBEq, Int.reduceBNe, df11, hlen, hlen2, hlen3, c0, c1, c2]
    exact hK _
  obtain ⟨z, hz⟩ : ∃ z, M.zero 12 = z := ⟨_, rfl⟩
  have l0 : z.w.length = 4096 := by rw [← hz]; exact M.zero_len 12
  have hl := fun X => laidG_eq (h := h) (m := z) (WdsAt.of Hs X) hu hn
  obtain ⟨m0, hm⟩ : ∃ m, z.laid L = m := ⟨_, rfl⟩
  simp only [hm] at hl
  have lz : (List.replicate 8 Tl.Ln.z) = linesZ := rfl
  by_cases c3 : (Rs.length : Int) = 0
  · simp (config := { maxSteps := 10000000 }) only [EV1, EV2, EV3, EV4, EV5, EV6, addT, istep, lenR_sl, lenR_ns, lenR_es, pickR, putD, bin1R, un1R, slcR, bnd, capsOf, fillP, S_plain, V_plain, V.cells, S_known, V_known, C.v, blk, setL, setH, eqS, eq1, cmpS, cmp1, isNil, popTo, killT, setT, leT, V.below, C.below, S_below, R.below, V.val, C.val, S_val, R.val, R.takes, vals, shows, List.any_cons, List.any_nil, unnamed, V.kill, V.names, C.names, S_names, R.names, List.set, List.replicate, ↓q_cond_t, ↓q_cond_f, if_true, if_false, reduceCtorEq, rvals, rvC, result, C_known, V.noL, C.noL, S_noL, R.noL, Option.map, true_and, and_true, ge_iff_le, gt_iff_lt, implies_true, q_ite_t, q_ite_f, beq_iff_eq, bne_iff_ne, q_ne, Nat.reduceAdd, Nat.reducePow, Int.reducePow, Nat.reduceMul, Nat.reduceSub, Nat.reduceLeDiff, Nat.reduceLT, Nat.reduceEqDiff, Int.reduceNeg, Int.reduceLT, Int.reduceLE, Int.reduceEq, Int.reduceNe, Int.reduceAdd, Int.reduceSub, Int.reduceMul, Int.reduceToNat, Int.reduceBEq, Int.reduceBNe, df11, hlen, hlen2, hlen3, hkn, hnl, c0, c1, c2, c3, T8, T7, awake5G, newM, hz, memH, app_len, n21, Tl.newG, ↓lz, hl, put, fillP]
    exact hK _
  simp (config := { maxSteps := 10000000 }) only [EV1, EV2, EV3, EV4, EV5, EV6, addT, istep, lenR_sl, lenR_ns, lenR_es, pickR, putD, bin1R, un1R, slcR, bnd, capsOf, fillP, S_plain, V_plain, V.cells, S_known, V_known, C.v, blk, setL, setH, eqS, eq1, cmpS, cmp1, isNil, popTo, killT, setT, leT, V.below, C.below, S_below, R.below, V.val, C.val, S_val, R.val, R.takes, vals, shows, List.any_cons, List.any_nil, unnamed, V.kill, V.names, C.names, S_names, R.names, List.set, List.replicate, ↓q_cond_t, ↓q_cond_f, if_true, if_false, reduceCtorEq, rvals, rvC, result, C_known, V.noL, C.noL, S_noL, R.noL, Option.map, true_and, and_true, ge_iff_le, gt_iff_lt, implies_true, q_ite_t, q_ite_f, beq_iff_eq, bne_iff_ne, q_ne, Nat.reduceAdd, Nat.reducePow, Int.reducePow, Nat.reduceMul, Nat.reduceSub, Nat.reduceLeDiff, Nat.reduceLT, Nat.reduceEqDiff, Int.reduceNeg, Int.reduceLT, Int.reduceLE, Int.reduceEq, Int.reduceNe, Int.reduceAdd, Int.reduceSub, Int.reduceMul, Int.reduceToNat, Int.reduceBEq, Int.reduceBNe, df11, hlen, hlen2, hlen3, hkn, hnl, c0, c1, c2, c3, T8, T7, awake5G, newM, hz, memH, app_len, n21, Tl.newG, ↓lz, hl, put, fillP]
  refine loop_rule (α := Nat × M × List Tl.Ln) [6, 14, 15, 16, 17, 18, 19, 20, 21, 22, 23, 71, 72, 73, 74, 75, 76, 77, 78, 79, 80, 81, 82, 83, 84, 85, 86, 87, 88, 89, 90, 91, 92, 93, 94, 95, 96, 97, 98, 99, 100, 101, 102, 103, 104, 105, 106, 107, 108, 109, 110, 111, 112, 113, 114, 115, 116, 117, 118, 119, 120, 121, 122, 123, 124, 125, 126, 127, 128, 129, 130, 131, 132, 133, 134, 135, 136, 137, 138, 139, 140, 141, 142, 143, 144, 145, 146, 147, 148, 149, 150, 151, 152, 153, 154, 155, 156, 157, 158, 159, 160, 161, 162, 163, 164, 165, 166, 167, 168, 169, 170, 171, 172, 173, 174, 175, 176, 177, 178, 179, 180, 181, 182, 183, 184, 185] (fun y => [(14, .s (.i .i64 y.1))]) (fun y => [])
    (fun y => h ++ [MB (h.length + 1) y.2.1, MW y.2.1, MB (h.length + 3) m0, MW m0, Tl.tlbB y.2.2])
    (fun y => y.1 ≤ A.length ∧ Tl.okT y.2.2 ∧ okM y.2.2 ∧ y.2.1.w = m0.w ∧ Buf m0 Rs y.2.2) (fun y => A.length - y.1) (0, m0, linesZ) ⟨Nat.zero_le _, Tl.okT_z, okM_linesZ, rfl, Buf.zero _ _⟩ ?_ ?_
  · refine Wk.same rfl rfl ?_
    simp (config := { maxSteps := 10000000 }) only [EV1, EV2, EV3, EV4, EV5, EV6, addT, istep, lenR_sl, lenR_ns, lenR_es, pickR, putD, bin1R, un1R, slcR, bnd, capsOf, fillP, S_plain, V_plain, V.cells, S_known, V_known, C.v, blk, setL, setH, eqS, eq1, cmpS, cmp1, isNil, popTo, killT, setT, leT, V.below, C.below, S_below, R.below, V.val, C.val, S_val, R.val, R.takes, vals, shows, List.any_cons, List.any_nil, unnamed, V.kill, V.names, C.names, S_names, R.names, List.set, List.replicate, ↓q_cond_t, ↓q_cond_f, if_true, if_false, reduceCtorEq, rvals, rvC, result, C_known, V.noL, C.noL, S_noL, R.noL, Option.map, true_and, and_true, ge_iff_le, gt_iff_lt, implies_true, q_ite_t, q_ite_f, beq_iff_eq, bne_iff_ne, q_ne, Nat.reduceAdd, Nat.reducePow, Int.reducePow, Nat.reduceMul, Nat.reduceSub, Nat.reduceLeDiff, Nat.reduceLT, Nat.reduceEqDiff, Int.reduceNeg, Int.reduceLT, Int.reduceLE, Int.reduceEq, Int.reduceNe, Int.reduceAdd, Int.reduceSub, Int.reduceMul, Int.reduceToNat, Int.reduceBEq, Int.reduceBNe, q_cast, Int.natCast_zero]
  · rintro X ⟨i, m, L⟩ ⟨hi, hT, hM, hmw, hB⟩ IH
    simp only at hi hT hM hmw hB IH ⊢
    have h8 := hT.len
    rcases Nat.lt_or_ge i A.length with h1 | h1
    · obtain ⟨d1, d2, d3, d4⟩ := idx h1 (by omega)
      obtain ⟨j, c', st, room, hse, hj, hd⟩ := Ha.at h1
      obtain ⟨⟨root, asid, v, wr, at_, ev, fl⟩, ho⟩ : ∃ o, nth opWZ A i = o := ⟨_, rfl⟩
      have hs : sub (arr OpW.c A) (i * 7) 7 = [.i .i64 root, .i .i64 asid, .i .i64 v, .b wr, .i .i64 at_, .b ev, .b fl] := by
        have : sub (arr OpW.c A) (i * 7) 7 = (OpW.mk root asid v wr at_ ev fl).c := by rw [← ho, nth_eq h1]; exact arr_sub OpW.c_len h1
        exact this
      have hle : i * 7 + 7 ≤ (arr OpW.c A).length := by
        rw [arr_length OpW.c_len]
        have : (i + 1) * 7 ≤ A.length * 7 := Nat.mul_le_mul_right _ h1
        omega
      have hjl : j < h.length := (List.getElem?_eq_some_iff.1 hj).1
      have hjx : ∀ X, (h ++ X)[j]? = some ⟨st, arr OpW.c A, room⟩ := fun X => by rw [app_getl hjl, hj]
      have z2 : A.length - (i + 1) < A.length - i := by omega
      cases ev with
      | true =>
        by_cases ha : 0 ≤ at_ ∧ at_ ≤ 7
        · obtain ⟨o1, o2⟩ := evict_ok hT hM ha
          have o3 : Buf m0 Rs (L.set at_.toNat Tl.Ln.z) := hB.set _ fun e => absurd e (by decide)
          obtain ⟨L', hL'⟩ : ∃ L', L.set at_.toNat Tl.Ln.z = L' := ⟨_, rfl⟩
          rw [hL'] at o1 o2 o3
          refine run_sound (Tab.ok_Γ _) 400 _ _ _ _ ?_
          simp (config := { maxSteps := 10000000 }) only [EV1, EV2, EV3, EV4, EV5, EV6, addT, istep, lenR_sl, lenR_ns, lenR_es, pickR, putD, bin1R, un1R, slcR, bnd, capsOf, fillP, S_plain, V_plain, V.cells, S_known, V_known, C.v, blk, setL, setH, eqS, eq1, cmpS, cmp1, isNil, popTo, killT, setT, leT, V.below, C.below, S_below, R.below, V.val, C.val, S_val, R.val, R.takes, vals, shows, List.any_cons, List.any_nil, unnamed, V.kill, V.names, C.names, S_names, R.names, List.set, List.replicate, ↓q_cond_t, ↓q_cond_f, if_true, if_false, reduceCtorEq, rvals, rvC, result, C_known, V.noL, C.noL, S_noL, R.noL, Option.map, true_and, and_true, ge_iff_le, gt_iff_lt, implies_true, q_ite_t, q_ite_f, beq_iff_eq, bne_iff_ne, q_ne, Nat.reduceAdd, Nat.reducePow, Int.reducePow, Nat.reduceMul, Nat.reduceSub, Nat.reduceLeDiff, Nat.reduceLT, Nat.reduceEqDiff, Int.reduceNeg, Int.reduceLT, Int.reduceLE, Int.reduceEq, Int.reduceNe, Int.reduceAdd, Int.reduceSub, Int.reduceMul, Int.reduceToNat, Int.reduceBEq, Int.reduceBNe, T8, T7, hse, d1, d2, d3, d4, hjx, hd, hs, hle, Tl.evictG, app_getn, app_setn, Tl.isTlb_tlbB, Tl.tlbB_cells, Tl.dec_arr, h8, ha, hL', put, fillP]
          refine IH (i + 1, m, L') _ z2 ⟨h1, o1, o2, hmw, o3⟩ (Wk.keep 0 rfl rfl ?_ ?_ rfl)
          · simp (config := { maxSteps := 10000000 }) only [EV1, EV2, EV3, EV4, EV5, EV6, addT, istep, lenR_sl, lenR_ns, lenR_es, pickR, putD, bin1R, un1R, slcR, bnd, capsOf, fillP, S_plain, V_plain, V.cells, S_known, V_known, C.v, blk, setL, setH, eqS, eq1, cmpS, cmp1, isNil, popTo, killT, setT, leT, V.below, C.below, S_below, R.below, V.val, C.val, S_val, R.val, R.takes, vals, shows, List.any_cons, List.any_nil, unnamed, V.kill, V.names, C.names, S_names, R.names, List.set, List.replicate, ↓q_cond_t, ↓q_cond_f, if_true, if_false, reduceCtorEq, rvals, rvC, result, C_known, V.noL, C.noL, S_noL, R.noL, Option.map, true_and, and_true, ge_iff_le, gt_iff_lt, implies_true, q_ite_t, q_ite_f, beq_iff_eq, bne_iff_ne, q_ne, Nat.reduceAdd, Nat.reducePow, Int.reducePow, Nat.reduceMul, Nat.reduceSub, Nat.reduceLeDiff, Nat.reduceLT, Nat.reduceEqDiff, Int.reduceNeg, Int.reduceLT, Int.reduceLE, Int.reduceEq, Int.reduceNe, Int.reduceAdd, Int.reduceSub, Int.reduceMul, Int.reduceToNat, Int.reduceBEq, Int.reduceBNe, hse]
          · simp (config := { maxSteps := 10000000 }) only [EV1, EV2, EV3, EV4, EV5, EV6, addT, istep, lenR_sl, lenR_ns, lenR_es, pickR, putD, bin1R, un1R, slcR, bnd, capsOf, fillP, S_plain, V_plain, V.cells, S_known, V_known, C.v, blk, setL, setH, eqS, eq1, cmpS, cmp1, isNil, popTo, killT, setT, leT, V.below, C.below, S_below, R.below, V.val, C.val, S_val, R.val, R.takes, vals, shows, List.any_cons, List.any_nil, unnamed, V.kill, V.names, C.names, S_names, R.names, List.set, List.replicate, ↓q_cond_t, ↓q_cond_f, if_true, if_false, reduceCtorEq, rvals, rvC, result, C_known, V.noL, C.noL, S_noL, R.noL, Option.map, true_and, and_true, ge_iff_le, gt_iff_lt, implies_true, q_ite_t, q_ite_f, beq_iff_eq, bne_iff_ne, q_ne, Nat.reduceAdd, Nat.reducePow, Int.reducePow, Nat.reduceMul, Nat.reduceSub, Nat.reduceLeDiff, Nat.reduceLT, Nat.reduceEqDiff, Int.reduceNeg, Int.reduceLT, Int.reduceLE, Int.reduceEq, Int.reduceNe, Int.reduceAdd, Int.reduceSub, Int.reduceMul, Int.reduceToNat, Int.reduceBEq, Int.reduceBNe, hse, hbl, hbl2]
        · refine run_sound (Tab.ok_Γ _) 400 _ _ _ _ ?_
          simp (config := { maxSteps := 10000000 }) only [EV1, EV2, EV3, EV4, EV5, EV6, addT, istep, lenR_sl, lenR_ns, lenR_es, pickR, putD, bin1R, un1R, slcR, bnd, capsOf, fillP, S_plain, V_plain, V.cells, S_known, V_known, C.v, blk, setL, setH, eqS, eq1, cmpS, cmp1, isNil, popTo, killT, setT, leT, V.below, C.below, S_below, R.below, V.val, C.val, S_val, R.val, R.takes, vals, shows, List.any_cons, List.any_nil, unnamed, V.kill, V.names, C.names, S_names, R.names, List.set, List.replicate, ↓q_cond_t, ↓q_cond_f, if_true, if_false, reduceCtorEq, rvals, rvC, result, C_known, V.noL, C.noL, S_noL, R.noL, Option.map, true_and, and_true, ge_iff_le, gt_iff_lt, implies_true, q_ite_t, q_ite_f, beq_iff_eq, bne_iff_ne, q_ne, Nat.reduceAdd, Nat.reducePow, Int.reducePow, Nat.reduceMul, Nat.reduceSub, Nat.reduceLeDiff, Nat.reduceLT, Nat.reduceEqDiff, Int.reduceNeg, Int.reduceLT, Int.reduceLE, Int.reduceEq, Int.reduceNe, Int.reduceAdd, Int.reduceSub, Int.reduceMul, Int.reduceToNat, Int.reduceBEq, Int.reduceBNe, T8, T7, hse, d1, d2, d3, d4, hjx, hd, hs, hle, Tl.evictG, app_getn, app_setn, Tl.isTlb_tlbB, Tl.tlbB_cells, Tl.dec_arr, h8, ha, put, fillP]
          refine IH (i + 1, m, L) _ z2 ⟨h1, hT, hM, hmw, hB⟩ (Wk.keep 0 rfl rfl ?_ ?_ rfl)
          · simp (config := { maxSteps := 10000000 }) only [EV1, EV2, EV3, EV4, EV5, EV6, addT, istep, lenR_sl, lenR_ns, lenR_es, pickR, putD, bin1R, un1R, slcR, bnd, capsOf, fillP, S_plain, V_plain, V.cells, S_known, V_known, C.v, blk, setL, setH, eqS, eq1, cmpS, cmp1, isNil, popTo, killT, setT, leT, V.below, C.below, S_below, R.below, V.val, C.val, S_val, R.val, R.takes, vals, shows, List.any_cons, List.any_nil, unnamed, V.kill, V.names, C.names, S_names, R.names, List.set, List.replicate, ↓q_cond_t, ↓q_cond_f, if_true, if_false, reduceCtorEq, rvals, rvC, result, C_known, V.noL, C.noL, S_noL, R.noL, Option.map, true_and, and_true, ge_iff_le, gt_iff_lt, implies_true, q_ite_t, q_ite_f, beq_iff_eq, bne_iff_ne, q_ne, Nat.reduceAdd, Nat.reducePow, Int.reducePow, Nat.reduceMul, Nat.reduceSub, Nat.reduceLeDiff, Nat.reduceLT, Nat.reduceEqDiff, Int.reduceNeg, Int.reduceLT, Int.reduceLE, Int.reduceEq, Int.reduceNe, Int.reduceAdd, Int.reduceSub, Int.reduceMul, Int.reduceToNat, Int.reduceBEq, Int.reduceBNe, hse]
          · simp (config := { maxSteps := 10000000 }) only [EV1, EV2, EV3, EV4, EV5, EV6, addT, istep, lenR_sl, lenR_ns, lenR_es, pickR, putD, bin1R, un1R, slcR, bnd, capsOf, fillP, S_plain, V_plain, V.cells, S_known, V_known, C.v, blk, setL, setH, eqS, eq1, cmpS, cmp1, isNil, popTo, killT, setT, leT, V.below, C.below, S_below, R.below, V.val, C.val, S_val, R.val, R.takes, vals, shows, List.any_cons, List.any_nil, unnamed, V.kill, V.names, C.names, S_names, R.names, List.set, List.replicate, ↓q_cond_t, ↓q_cond_f, if_true, if_false, reduceCtorEq, rvals, rvC, result, C_known, V.noL, C.noL, S_noL, R.noL, Option.map, true_and, and_true, ge_iff_le, gt_iff_lt, implies_true, q_ite_t, q_ite_f, beq_iff_eq, bne_iff_ne, q_ne, Nat.reduceAdd, Nat.reducePow, Int.reducePow, Nat.reduceMul, Nat.reduceSub, Nat.reduceLeDiff, Nat.reduceLT, Nat.reduceEqDiff, Int.reduceNeg, Int.reduceLT, Int.reduceLE, Int.reduceEq, Int.reduceNe, Int.reduceAdd, Int.reduceSub, Int.reduceMul, Int.reduceToNat, Int.reduceBEq, Int.reduceBNe, hse, hbl, hbl2]
      | false =>
        cases fl with
        | true =>
          obtain ⟨o1, o2⟩ := flush_ok (fun l => l.a == asid) hT hM
          have o3 := hB.sieve (fun l => l.a == asid)
          obtain ⟨L', hL'⟩ : ∃ L', Tl.sieve (fun l => l.a == asid) L = L' := ⟨_, rfl⟩
          rw [hL'] at o1 o2 o3
          refine run_sound (Tab.ok_Γ _) 400 _ _ _ _ ?_
          simp (config := { maxSteps := 10000000 }) only [EV1, EV2, EV3, EV4, EV5, EV6, addT, istep, lenR_sl, lenR_ns, lenR_es, pickR, putD, bin1R, un1R, slcR, bnd, capsOf, fillP, S_plain, V_plain, V.cells, S_known, V_known, C.v, blk, setL, setH, eqS, eq1, cmpS, cmp1, isNil, popTo, killT, setT, leT, V.below, C.below, S_below, R.below, V.val, C.val, S_val, R.val, R.takes, vals, shows, List.any_cons, List.any_nil, unnamed, V.kill, V.names, C.names, S_names, R.names, List.set, List.replicate, ↓q_cond_t, ↓q_cond_f, if_true, if_false, reduceCtorEq, rvals, rvC, result, C_known, V.noL, C.noL, S_noL, R.noL, Option.map, true_and, and_true, ge_iff_le, gt_iff_lt, implies_true, q_ite_t, q_ite_f, beq_iff_eq, bne_iff_ne, q_ne, Nat.reduceAdd, Nat.reducePow, Int.reducePow, Nat.reduceMul, Nat.reduceSub, Nat.reduceLeDiff, Nat.reduceLT, Nat.reduceEqDiff, Int.reduceNeg, Int.reduceLT, Int.reduceLE, Int.reduceEq, Int.reduceNe, Int.reduceAdd, Int.reduceSub, Int.reduceMul, Int.reduceToNat, Int.reduceBEq, Int.reduceBNe, T8, T7, hse, d1, d2, d3, d4, hjx, hd, hs, hle, Tl.flushAsidG, app_getn, app_setn, Tl.isTlb_tlbB, Tl.tlbB_cells, Tl.dec_arr, h8, hL', put, fillP]
          refine IH (i + 1, m, L') _ z2 ⟨h1, o1, o2, hmw, o3⟩ (Wk.keep 0 rfl rfl ?_ ?_ rfl)
          · simp (config := { maxSteps := 10000000 }) only [EV1, EV2, EV3, EV4, EV5, EV6, addT, istep, lenR_sl, lenR_ns, lenR_es, pickR, putD, bin1R, un1R, slcR, bnd, capsOf, fillP, S_plain, V_plain, V.cells, S_known, V_known, C.v, blk, setL, setH, eqS, eq1, cmpS, cmp1, isNil, popTo, killT, setT, leT, V.below, C.below, S_below, R.below, V.val, C.val, S_val, R.val, R.takes, vals, shows, List.any_cons, List.any_nil, unnamed, V.kill, V.names, C.names, S_names, R.names, List.set, List.replicate, ↓q_cond_t, ↓q_cond_f, if_true, if_false, reduceCtorEq, rvals, rvC, result, C_known, V.noL, C.noL, S_noL, R.noL, Option.map, true_and, and_true, ge_iff_le, gt_iff_lt, implies_true, q_ite_t, q_ite_f, beq_iff_eq, bne_iff_ne, q_ne, Nat.reduceAdd, Nat.reducePow, Int.reducePow, Nat.reduceMul, Nat.reduceSub, Nat.reduceLeDiff, Nat.reduceLT, Nat.reduceEqDiff, Int.reduceNeg, Int.reduceLT, Int.reduceLE, Int.reduceEq, Int.reduceNe, Int.reduceAdd, Int.reduceSub, Int.reduceMul, Int.reduceToNat, Int.reduceBEq, Int.reduceBNe, hse]
          · simp (config := { maxSteps := 10000000 }) only [EV1, EV2, EV3, EV4, EV5, EV6, addT, istep, lenR_sl, lenR_ns, lenR_es, pickR, putD, bin1R, un1R, slcR, bnd, capsOf, fillP, S_plain, V_plain, V.cells, S_known, V_known, C.v, blk, setL, setH, eqS, eq1, cmpS, cmp1, isNil, popTo, killT, setT, leT, V.below, C.below, S_below, R.below, V.val, C.val, S_val, R.val, R.takes, vals, shows, List.any_cons, List.any_nil, unnamed, V.kill, V.names, C.names, S_names, R.names, List.set, List.replicate, ↓q_cond_t, ↓q_cond_f, if_true, if_false, reduceCtorEq, rvals, rvC, result, C_known, V.noL, C.noL, S_noL, R.noL, Option.map, true_and, and_true, ge_iff_le, gt_iff_lt, implies_true, q_ite_t, q_ite_f, beq_iff_eq, bne_iff_ne, q_ne, Nat.reduceAdd, Nat.reducePow, Int.reducePow, Nat.reduceMul, Nat.reduceSub, Nat.reduceLeDiff, Nat.reduceLT, Nat.reduceEqDiff, Int.reduceNeg, Int.reduceLT, Int.reduceLE, Int.reduceEq, Int.reduceNe, Int.reduceAdd, Int.reduceSub, Int.reduceMul, Int.reduceToNat, Int.reduceBEq, Int.reduceBNe, hse, hbl, hbl2]
        | false =>
          by_cases hask : 1 ≤ asid ∧ asid ≤ 63 ∧ 0 ≤ at_ ∧ at_ ≤ 7
          · obtain ⟨g1, g2, g3, g4⟩ := hask
            have f1 : ¬ asid < 1 := by omega
            have f2 : ¬ 63 < asid := by omega
            have f3 : ¬ at_ < 0 := by omega
            have f4 : ¬ 7 < at_ := by omega
            have tm : asid.tmod (Rs.length : Int) = asid % (Rs.length : Int) := Int.tmod_eq_emod_of_nonneg (by omega)
            have b0 : 0 ≤ asid % (Rs.length : Int) := Int.emod_nonneg _ c3
            have b1 : asid % (Rs.length : Int) < Rs.length := Int.emod_lt_of_pos _ (by omega)
            obtain ⟨k, hk⟩ : ∃ k : Nat, asid % (Rs.length : Int) = k := ⟨(asid % (Rs.length : Int)).toNat, by omega⟩
            have hkR : k < Rs.length := by omega
            obtain ⟨j2, c2', st2, room2, hse2, hj2, hd2⟩ := Hr.at hkR
            have hj2l : j2 < h.length := (List.getElem?_eq_some_iff.1 hj2).1
            have hj2x : ∀ X, (h ++ X)[j2]? = some ⟨st2, arr In.c Rs, room2⟩ := fun X => by rw [app_getl hj2l, hj2]
            have hro : rootOf Rs asid = nth 0 Rs k := by rw [rootOf, hk]; rfl
            have gk : (arr In.c Rs)[k]? = some (.i .i64 (rootOf Rs asid)) := by
              have := arr_get0 In.c_len hkR (by omega)
              rw [Nat.mul_one] at this
              rw [this, hro, nth_eq hkR]; rfl
            have k0 : (0 : Int) ≤ k := by omega
            have k1 : (k : Int) < Rs.length := by omega
            obtain ⟨rt, hrt⟩ : ∃ r, rootOf Rs asid = r := ⟨_, rfl⟩
            rw [hrt] at gk
            obtain ⟨o1, o2⟩ := reachF_ok (m := m) (root := rt) (asid := asid) (v := v) (at_ := at_) (w := wr) hT hM
            cases hv2 : (virtB v && virtB rt) with
            | false =>
              have ha : askB rt asid v at_ = false := by
                rw [Bool.eq_false_iff]; intro e
                obtain ⟨e1, _, e2, _⟩ := askB_iff.1 e
                rw [e1, e2] at hv2; cases hv2
              have e1 : reachF m L rt asid v wr at_ = ⟨0, 1, m, L⟩ := reach_bad ha
              have e2 : walkR m rt v = ⟨0, 0, 0, 1, m⟩ := by unfold walkR; rw [hv2]; rfl
              have z03 : (0 : Int) ≤ 0 ∧ (0 : Int) ≤ 3 := by decide
              have o1 := hT
              have o2 := hM
              have o3 := hB
              have o4 := hmw
              refine run_sound (Tab.ok_Γ _) 400 _ _ _ _ ?_
              simp (config := { maxSteps := 10000000 }) only [EV1, EV2, EV3, EV4, EV5, EV6, addT, istep, lenR_sl, lenR_ns, lenR_es, pickR, putD, bin1R, un1R, slcR, bnd, capsOf, fillP, S_plain, V_plain, V.cells, S_known, V_known, C.v, blk, setL, setH, eqS, eq1, cmpS, cmp1, isNil, popTo, killT, setT, leT, V.below, C.below, S_below, R.below, V.val, C.val, S_val, R.val, R.takes, vals, shows, List.any_cons, List.any_nil, unnamed, V.kill, V.names, C.names, S_names, R.names, List.set, List.replicate, ↓q_cond_t, ↓q_cond_f, if_true, if_false, reduceCtorEq, rvals, rvC, result, C_known, V.noL, C.noL, S_noL, R.noL, Option.map, true_and, and_true, ge_iff_le, gt_iff_lt, implies_true, q_ite_t, q_ite_f, beq_iff_eq, bne_iff_ne, q_ne, Nat.reduceAdd, Nat.reducePow, Int.reducePow, Nat.reduceMul, Nat.reduceSub, Nat.reduceLeDiff, Nat.reduceLT, Nat.reduceEqDiff, Int.reduceNeg, Int.reduceLT, Int.reduceLE, Int.reduceEq, Int.reduceNe, Int.reduceAdd, Int.reduceSub, Int.reduceMul, Int.reduceToNat, Int.reduceBEq, Int.reduceBNe, T8, T7, hse, hse2, d1, d2, d3, d4, hjx, hd, hj2x, hd2, hs, hle, f1, f2, f3, f4, tm, hk, k0, k1, gk, c3, app_getn, app_setn, Tl.isTlb_tlbB, Tl.tlbB_cells, Tl.dec_arr, h8, hT, hM, reachG, memAt_0, at0_set, Nat.add_left_cancel_iff, Nat.add_eq_left, RR.v, walk2G, walk2M, memF_0, WR.v, allowG, put, fillP, Int.toNat_natCast, e1, e2, z03]
              refine IH (i + 1, m, L) _ z2 ⟨h1, o1, o2, o4, o3⟩ (Wk.keep 0 rfl rfl ?_ ?_ rfl)
              · simp (config := { maxSteps := 10000000 }) only [EV1, EV2, EV3, EV4, EV5, EV6, addT, istep, lenR_sl, lenR_ns, lenR_es, pickR, putD, bin1R, un1R, slcR, bnd, capsOf, fillP, S_plain, V_plain, V.cells, S_known, V_known, C.v, blk, setL, setH, eqS, eq1, cmpS, cmp1, isNil, popTo, killT, setT, leT, V.below, C.below, S_below, R.below, V.val, C.val, S_val, R.val, R.takes, vals, shows, List.any_cons, List.any_nil, unnamed, V.kill, V.names, C.names, S_names, R.names, List.set, List.replicate, ↓q_cond_t, ↓q_cond_f, if_true, if_false, reduceCtorEq, rvals, rvC, result, C_known, V.noL, C.noL, S_noL, R.noL, Option.map, true_and, and_true, ge_iff_le, gt_iff_lt, implies_true, q_ite_t, q_ite_f, beq_iff_eq, bne_iff_ne, q_ne, Nat.reduceAdd, Nat.reducePow, Int.reducePow, Nat.reduceMul, Nat.reduceSub, Nat.reduceLeDiff, Nat.reduceLT, Nat.reduceEqDiff, Int.reduceNeg, Int.reduceLT, Int.reduceLE, Int.reduceEq, Int.reduceNe, Int.reduceAdd, Int.reduceSub, Int.reduceMul, Int.reduceToNat, Int.reduceBEq, Int.reduceBNe, hse, hse2]
              · simp (config := { maxSteps := 10000000 }) only [EV1, EV2, EV3, EV4, EV5, EV6, addT, istep, lenR_sl, lenR_ns, lenR_es, pickR, putD, bin1R, un1R, slcR, bnd, capsOf, fillP, S_plain, V_plain, V.cells, S_known, V_known, C.v, blk, setL, setH, eqS, eq1, cmpS, cmp1, isNil, popTo, killT, setT, leT, V.below, C.below, S_below, R.below, V.val, C.val, S_val, R.val, R.takes, vals, shows, List.any_cons, List.any_nil, unnamed, V.kill, V.names, C.names, S_names, R.names, List.set, List.replicate, ↓q_cond_t, ↓q_cond_f, if_true, if_false, reduceCtorEq, rvals, rvC, result, C_known, V.noL, C.noL, S_noL, R.noL, Option.map, true_and, and_true, ge_iff_le, gt_iff_lt, implies_true, q_ite_t, q_ite_f, beq_iff_eq, bne_iff_ne, q_ne, Nat.reduceAdd, Nat.reducePow, Int.reducePow, Nat.reduceMul, Nat.reduceSub, Nat.reduceLeDiff, Nat.reduceLT, Nat.reduceEqDiff, Int.reduceNeg, Int.reduceLT, Int.reduceLE, Int.reduceEq, Int.reduceNe, Int.reduceAdd, Int.reduceSub, Int.reduceMul, Int.reduceToNat, Int.reduceBEq, Int.reduceBNe, hse, hse2, hbl]
            | true =>
              rw [Bool.and_eq_true] at hv2
              have ha : askB rt asid v at_ = true := askB_iff.2 ⟨hv2.1, ⟨g1, g2⟩, hv2.2, g3, g4⟩
              have hbr := buf_reach (m0 := m0) (m := m) (Rs := Rs) (L := L) (asid := asid) (v := v) (at_ := at_) (w := wr) hB hM hmw (by rw [hrt]; exact ha)
              rw [hrt] at hbr
              obtain ⟨o3, o4, hres⟩ := hbr
              obtain ⟨x, hx⟩ : ∃ x, reachF m L rt asid v wr at_ = x := ⟨_, rfl⟩
              rw [hx] at o1 o2 o3 o4 hres
              have hyw := walkR_w x.m rt v
              have hwk : walkR x.m rt v = walkF v 4 x.m rt 0 := by unfold walkR; rw [hv2.1, hv2.2]; rfl
              have hys := walkF_same (v := v) (v' := v) (fun _ => rfl) 4 m0 x.m rt 0 o4
              rw [← hwk] at hys
              obtain ⟨y, hy⟩ : ∃ y, walkR x.m rt v = y := ⟨_, rfl⟩
              obtain ⟨u, hu⟩ : ∃ u, walkF v 4 m0 rt 0 = u := ⟨_, rfl⟩
              rw [hy] at hys hyw
              have huo := walkF_ok v 4 m0 rt 0
              rw [hu] at hys hres huo
              obtain ⟨y1, y2, y3, y4⟩ := hys
              rw [o4] at hyw
              have o4 := hyw
              rcases hres with ⟨r1, r2, r3⟩ | ⟨r1, r2, r3⟩
              · rcases huo with ⟨_, w1, w2, w3, w4, w5⟩ | ⟨e, _⟩
                · have hww : IntKind.i64.wrap (u.a + v % 16) = u.a + v % 16 := by rw [wrap64] <;> omega
                  have hv0 : 0 ≤ v := by have := hv2.1; simp [virtB] at this; exact this.1
                  have p2 : v.tmod 16 = v % 16 := Int.tmod_eq_emod_of_nonneg hv0
                  cases hq : allowB u.r wr with
                  | true =>
                    rw [hq, if_pos rfl] at r2 r3
                    refine run_sound (Tab.ok_Γ _) 400 _ _ _ _ ?_
                    simp (config := { maxSteps := 10000000 }) only [EV1, EV2, EV3, EV4, EV5, EV6, addT, istep, lenR_sl, lenR_ns, lenR_es, pickR, putD, bin1R, un1R, slcR, bnd, capsOf, fillP, S_plain, V_plain, V.cells, S_known, V_known, C.v, blk, setL, setH, eqS, eq1, cmpS, cmp1, isNil, popTo, killT, setT, leT, V.below, C.below, S_below, R.below, V.val, C.val, S_val, R.val, R.takes, vals, shows, List.any_cons, List.any_nil, unnamed, V.kill, V.names, C.names, S_names, R.names, List.set, List.replicate, ↓q_cond_t, ↓q_cond_f, if_true, if_false, reduceCtorEq, rvals, rvC, result, C_known, V.noL, C.noL, S_noL, R.noL, Option.map, true_and, and_true, ge_iff_le, gt_iff_lt, implies_true, q_ite_t, q_ite_f, beq_iff_eq, bne_iff_ne, q_ne, Nat.reduceAdd, Nat.reducePow, Int.reducePow, Nat.reduceMul, Nat.reduceSub, Nat.reduceLeDiff, Nat.reduceLT, Nat.reduceEqDiff, Int.reduceNeg, Int.reduceLT, Int.reduceLE, Int.reduceEq, Int.reduceNe, Int.reduceAdd, Int.reduceSub, Int.reduceMul, Int.reduceToNat, Int.reduceBEq, Int.reduceBNe, T8, T7, hse, hse2, d1, d2, d3, d4, hjx, hd, hj2x, hd2, hs, hle, f1, f2, f3, f4, tm, hk, k0, k1, gk, c3, app_getn, app_setn, Tl.isTlb_tlbB, Tl.tlbB_cells, Tl.dec_arr, h8, hT, hM, reachG, memAt_0, at0_set, Nat.add_left_cancel_iff, Nat.add_eq_left, RR.v, walk2G, walk2M, memF_0, WR.v, allowG, put, fillP, Int.toNat_natCast, hx, hy, y1, y2, y4, r1, r2, r3, w4, w5, hq, hww, p2]
                    refine IH (i + 1, y.m, x.L) _ z2 ⟨h1, o1, o2, o4, o3⟩ (Wk.keep 0 rfl rfl ?_ ?_ rfl)
                    · simp (config := { maxSteps := 10000000 }) only [EV1, EV2, EV3, EV4, EV5, EV6, addT, istep, lenR_sl, lenR_ns, lenR_es, pickR, putD, bin1R, un1R, slcR, bnd, capsOf, fillP, S_plain, V_plain, V.cells, S_known, V_known, C.v, blk, setL, setH, eqS, eq1, cmpS, cmp1, isNil, popTo, killT, setT, leT, V.below, C.below, S_below, R.below, V.val, C.val, S_val, R.val, R.takes, vals, shows, List.any_cons, List.any_nil, unnamed, V.kill, V.names, C.names, S_names, R.names, List.set, List.replicate, ↓q_cond_t, ↓q_cond_f, if_true, if_false, reduceCtorEq, rvals, rvC, result, C_known, V.noL, C.noL, S_noL, R.noL, Option.map, true_and, and_true, ge_iff_le, gt_iff_lt, implies_true, q_ite_t, q_ite_f, beq_iff_eq, bne_iff_ne, q_ne, Nat.reduceAdd, Nat.reducePow, Int.reducePow, Nat.reduceMul, Nat.reduceSub, Nat.reduceLeDiff, Nat.reduceLT, Nat.reduceEqDiff, Int.reduceNeg, Int.reduceLT, Int.reduceLE, Int.reduceEq, Int.reduceNe, Int.reduceAdd, Int.reduceSub, Int.reduceMul, Int.reduceToNat, Int.reduceBEq, Int.reduceBNe, hse, hse2]
                    · simp (config := { maxSteps := 10000000 }) only [EV1, EV2, EV3, EV4, EV5, EV6, addT, istep, lenR_sl, lenR_ns, lenR_es, pickR, putD, bin1R, un1R, slcR, bnd, capsOf, fillP, S_plain, V_plain, V.cells, S_known, V_known, C.v, blk, setL, setH, eqS, eq1, cmpS, cmp1, isNil, popTo, killT, setT, leT, V.below, C.below, S_below, R.below, V.val, C.val, S_val, R.val, R.takes, vals, shows, List.any_cons, List.any_nil, unnamed, V.kill, V.names, C.names, S_names, R.names, List.set, List.replicate, ↓q_cond_t, ↓q_cond_f, if_true, if_false, reduceCtorEq, rvals, rvC, result, C_known, V.noL, C.noL, S_noL, R.noL, Option.map, true_and, and_true, ge_iff_le, gt_iff_lt, implies_true, q_ite_t, q_ite_f, beq_iff_eq, bne_iff_ne, q_ne, Nat.reduceAdd, Nat.reducePow, Int.reducePow, Nat.reduceMul, Nat.reduceSub, Nat.reduceLeDiff, Nat.reduceLT, Nat.reduceEqDiff, Int.reduceNeg, Int.reduceLT, Int.reduceLE, Int.reduceEq, Int.reduceNe, Int.reduceAdd, Int.reduceSub, Int.reduceMul, Int.reduceToNat, Int.reduceBEq, Int.reduceBNe, hse, hse2, hbl]
                  | false =>
                    rw [hq] at r2 r3
                    have r2 : x.a = 0 := r2
                    have r3 : x.e = 50 := r3
                    refine run_sound (Tab.ok_Γ _) 400 _ _ _ _ ?_
                    simp (config := { maxSteps := 10000000 }) only [EV1, EV2, EV3, EV4, EV5, EV6, addT, istep, lenR_sl, lenR_ns, lenR_es, pickR, putD, bin1R, un1R, slcR, bnd, capsOf, fillP, S_plain, V_plain, V.cells, S_known, V_known, C.v, blk, setL, setH, eqS, eq1, cmpS, cmp1, isNil, popTo, killT, setT, leT, V.below, C.below, S_below, R.below, V.val, C.val, S_val, R.val, R.takes, vals, shows, List.any_cons, List.any_nil, unnamed, V.kill, V.names, C.names, S_names, R.names, List.set, List.replicate, ↓q_cond_t, ↓q_cond_f, if_true, if_false, reduceCtorEq, rvals, rvC, result, C_known, V.noL, C.noL, S_noL, R.noL, Option.map, true_and, and_true, ge_iff_le, gt_iff_lt, implies_true, q_ite_t, q_ite_f, beq_iff_eq, bne_iff_ne, q_ne, Nat.reduceAdd, Nat.reducePow, Int.reducePow, Nat.reduceMul, Nat.reduceSub, Nat.reduceLeDiff, Nat.reduceLT, Nat.reduceEqDiff, Int.reduceNeg, Int.reduceLT, Int.reduceLE, Int.reduceEq, Int.reduceNe, Int.reduceAdd, Int.reduceSub, Int.reduceMul, Int.reduceToNat, Int.reduceBEq, Int.reduceBNe, T8, T7, hse, hse2, d1, d2, d3, d4, hjx, hd, hj2x, hd2, hs, hle, f1, f2, f3, f4, tm, hk, k0, k1, gk, c3, app_getn, app_setn, Tl.isTlb_tlbB, Tl.tlbB_cells, Tl.dec_arr, h8, hT, hM, reachG, memAt_0, at0_set, Nat.add_left_cancel_iff, Nat.add_eq_left, RR.v, walk2G, walk2M, memF_0, WR.v, allowG, put, fillP, Int.toNat_natCast, hx, hy, y1, y2, y4, r1, r2, r3, w4, w5, hq, hww, p2]
                    refine IH (i + 1, y.m, x.L) _ z2 ⟨h1, o1, o2, o4, o3⟩ (Wk.keep 0 rfl rfl ?_ ?_ rfl)
                    · simp (config := { maxSteps := 10000000 }) only [EV1, EV2, EV3, EV4, EV5, EV6, addT, istep, lenR_sl, lenR_ns, lenR_es, pickR, putD, bin1R, un1R, slcR, bnd, capsOf, fillP, S_plain, V_plain, V.cells, S_known, V_known, C.v, blk, setL, setH, eqS, eq1, cmpS, cmp1, isNil, popTo, killT, setT, leT, V.below, C.below, S_below, R.below, V.val, C.val, S_val, R.val, R.takes, vals, shows, List.any_cons, List.any_nil, unnamed, V.kill, V.names, C.names, S_names, R.names, List.set, List.replicate, ↓q_cond_t, ↓q_cond_f, if_true, if_false, reduceCtorEq, rvals, rvC, result, C_known, V.noL, C.noL, S_noL, R.noL, Option.map, true_and, and_true, ge_iff_le, gt_iff_lt, implies_true, q_ite_t, q_ite_f, beq_iff_eq, bne_iff_ne, q_ne, Nat.reduceAdd, Nat.reducePow, Int.reducePow, Nat.reduceMul, Nat.reduceSub, Nat.reduceLeDiff, Nat.reduceLT, Nat.reduceEqDiff, Int.reduceNeg, Int.reduceLT, Int.reduceLE, Int.reduceEq, Int.reduceNe, Int.reduceAdd, Int.reduceSub, Int.reduceMul, Int.reduceToNat, Int.reduceBEq, Int.reduceBNe, hse, hse2]
                    · simp (config := { maxSteps := 10000000 }) only [EV1, EV2, EV3, EV4, EV5, EV6, addT, istep, lenR_sl, lenR_ns, lenR_es, pickR, putD, bin1R, un1R, slcR, bnd, capsOf, fillP, S_plain, V_plain, V.cells, S_known, V_known, C.v, blk, setL, setH, eqS, eq1, cmpS, cmp1, isNil, popTo, killT, setT, leT, V.below, C.below, S_below, R.below, V.val, C.val, S_val, R.val, R.takes, vals, shows, List.any_cons, List.any_nil, unnamed, V.kill, V.names, C.names, S_names, R.names, List.set, List.replicate, ↓q_cond_t, ↓q_cond_f, if_true, if_false, reduceCtorEq, rvals, rvC, result, C_known, V.noL, C.noL, S_noL, R.noL, Option.map, true_and, and_true, ge_iff_le, gt_iff_lt, implies_true, q_ite_t, q_ite_f, beq_iff_eq, bne_iff_ne, q_ne, Nat.reduceAdd, Nat.reducePow, Int.reducePow, Nat.reduceMul, Nat.reduceSub, Nat.reduceLeDiff, Nat.reduceLT, Nat.reduceEqDiff, Int.reduceNeg, Int.reduceLT, Int.reduceLE, Int.reduceEq, Int.reduceNe, Int.reduceAdd, Int.reduceSub, Int.reduceMul, Int.reduceToNat, Int.reduceBEq, Int.reduceBNe, hse, hse2, hbl]
                · rw [r1] at e; exact absurd e (by decide)
              · rcases huo with ⟨e, _⟩ | ⟨_, w1, w2⟩
                · rw [r1] at e; exact absurd e (by decide)
                · have z03 : (0 : Int) ≤ 0 ∧ (0 : Int) ≤ 3 := by decide
                  refine run_sound (Tab.ok_Γ _) 400 _ _ _ _ ?_
                  simp (config := { maxSteps := 10000000 }) only [EV1, EV2, EV3, EV4, EV5, EV6, addT, istep, lenR_sl, lenR_ns, lenR_es, pickR, putD, bin1R, un1R, slcR, bnd, capsOf, fillP, S_plain, V_plain, V.cells, S_known, V_known, C.v, blk, setL, setH, eqS, eq1, cmpS, cmp1, isNil, popTo, killT, setT, leT, V.below, C.below, S_below, R.below, V.val, C.val, S_val, R.val, R.takes, vals, shows, List.any_cons, List.any_nil, unnamed, V.kill, V.names, C.names, S_names, R.names, List.set, List.replicate, ↓q_cond_t, ↓q_cond_f, if_true, if_false, reduceCtorEq, rvals, rvC, result, C_known, V.noL, C.noL, S_noL, R.noL, Option.map, true_and, and_true, ge_iff_le, gt_iff_lt, implies_true, q_ite_t, q_ite_f, beq_iff_eq, bne_iff_ne, q_ne, Nat.reduceAdd, Nat.reducePow, Int.reducePow, Nat.reduceMul, Nat.reduceSub, Nat.reduceLeDiff, Nat.reduceLT, Nat.reduceEqDiff, Int.reduceNeg, Int.reduceLT, Int.reduceLE, Int.reduceEq, Int.reduceNe, Int.reduceAdd, Int.reduceSub, Int.reduceMul, Int.reduceToNat, Int.reduceBEq, Int.reduceBNe, T8, T7, hse, hse2, d1, d2, d3, d4, hjx, hd, hj2x, hd2, hs, hle, f1, f2, f3, f4, tm, hk, k0, k1, gk, c3, app_getn, app_setn, Tl.isTlb_tlbB, Tl.tlbB_cells, Tl.dec_arr, h8, hT, hM, reachG, memAt_0, at0_set, Nat.add_left_cancel_iff, Nat.add_eq_left, RR.v, walk2G, walk2M, memF_0, WR.v, allowG, put, fillP, Int.toNat_natCast, hx, hy, y1, y2, y4, r1, r2, r3, w1, w2, z03]
                  refine IH (i + 1, y.m, x.L) _ z2 ⟨h1, o1, o2, o4, o3⟩ (Wk.keep 0 rfl rfl ?_ ?_ rfl)
                  · simp (config := { maxSteps := 10000000 }) only [EV1, EV2, EV3, EV4, EV5, EV6, addT, istep, lenR_sl, lenR_ns, lenR_es, pickR, putD, bin1R, un1R, slcR, bnd, capsOf, fillP, S_plain, V_plain, V.cells, S_known, V_known, C.v, blk, setL, setH, eqS, eq1, cmpS, cmp1, isNil, popTo, killT, setT, leT, V.below, C.below, S_below, R.below, V.val, C.val, S_val, R.val, R.takes, vals, shows, List.any_cons, List.any_nil, unnamed, V.kill, V.names, C.names, S_names, R.names, List.set, List.replicate, ↓q_cond_t, ↓q_cond_f, if_true, if_false, reduceCtorEq, rvals, rvC, result, C_known, V.noL, C.noL, S_noL, R.noL, Option.map, true_and, and_true, ge_iff_le, gt_iff_lt, implies_true, q_ite_t, q_ite_f, beq_iff_eq, bne_iff_ne, q_ne, Nat.reduceAdd, Nat.reducePow, Int.reducePow, Nat.reduceMul, Nat.reduceSub, Nat.reduceLeDiff, Nat.reduceLT, Nat.reduceEqDiff, Int.reduceNeg, Int.reduceLT, Int.reduceLE, Int.reduceEq, Int.reduceNe, Int.reduceAdd, Int.reduceSub, Int.reduceMul, Int.reduceToNat, Int.reduceBEq, Int.reduceBNe, hse, hse2]
                  · simp (config := { maxSteps := 10000000 }) only [EV1, EV2, EV3, EV4, EV5, EV6, addT, istep, lenR_sl, lenR_ns, lenR_es, pickR, putD, bin1R, un1R, slcR, bnd, capsOf, fillP, S_plain, V_plain, V.cells, S_known, V_known, C.v, blk, setL, setH, eqS, eq1, cmpS, cmp1, isNil, popTo, killT, setT, leT, V.below, C.below, S_below, R.below, V.val, C.val, S_val, R.val, R.takes, vals, shows, List.any_cons, List.any_nil, unnamed, V.kill, V.names, C.names, S_names, R.names, List.set, List.replicate, ↓q_cond_t, ↓q_cond_f, if_true, if_false, reduceCtorEq, rvals, rvC, result, C_known, V.noL, C.noL, S_noL, R.noL, Option.map, true_and, and_true, ge_iff_le, gt_iff_lt, implies_true, q_ite_t, q_ite_f, beq_iff_eq, bne_iff_ne, q_ne, Nat.reduceAdd, Nat.reducePow, Int.reducePow, Nat.reduceMul, Nat.reduceSub, Nat.reduceLeDiff, Nat.reduceLT, Nat.reduceEqDiff, Int.reduceNeg, Int.reduceLT, Int.reduceLE, Int.reduceEq, Int.reduceNe, Int.reduceAdd, Int.reduceSub, Int.reduceMul, Int.reduceToNat, Int.reduceBEq, Int.reduceBNe, hse, hse2, hbl]
          · have hor : (decide (asid < 1) || (decide (63 < asid) || (decide (at_ < 0) || decide (7 < at_)))) = true := by
              simp only [Bool.or_eq_true, decide_eq_true_eq]; omega
            have hor2 : asid < 1 ∨ 63 < asid ∨ at_ < 0 ∨ 7 < at_ := by omega
            have o1 := hT
            have o2 := hM
            have o3 := hB
            have o4 := hmw
            refine run_sound (Tab.ok_Γ _) 400 _ _ _ _ ?_
            simp (config := { maxSteps := 10000000 }) only [EV1, EV2, EV3, EV4, EV5, EV6, addT, istep, lenR_sl, lenR_ns, lenR_es, pickR, putD, bin1R, un1R, slcR, bnd, capsOf, fillP, S_plain, V_plain, V.cells, S_known, V_known, C.v, blk, setL, setH, eqS, eq1, cmpS, cmp1, isNil, popTo, killT, setT, leT, V.below, C.below, S_below, R.below, V.val, C.val, S_val, R.val, R.takes, vals, shows, List.any_cons, List.any_nil, unnamed, V.kill, V.names, C.names, S_names, R.names, List.set, List.replicate, ↓q_cond_t, ↓q_cond_f, if_true, if_false, reduceCtorEq, rvals, rvC, result, C_known, V.noL, C.noL, S_noL, R.noL, Option.map, true_and, and_true, ge_iff_le, gt_iff_lt, implies_true, q_ite_t, q_ite_f, beq_iff_eq, bne_iff_ne, q_ne, Nat.reduceAdd, Nat.reducePow, Int.reducePow, Nat.reduceMul, Nat.reduceSub, Nat.reduceLeDiff, Nat.reduceLT, Nat.reduceEqDiff, Int.reduceNeg, Int.reduceLT, Int.reduceLE, Int.reduceEq, Int.reduceNe, Int.reduceAdd, Int.reduceSub, Int.reduceMul, Int.reduceToNat, Int.reduceBEq, Int.reduceBNe, T8, T7, hse, d1, d2, d3, d4, hjx, hd, hs, hle, put, fillP]
            refine ⟨fun _ => ?_, fun e => absurd hor2 e⟩
            refine IH (i + 1, m, L) _ z2 ⟨h1, o1, o2, o4, o3⟩ (Wk.keep 0 rfl rfl ?_ ?_ rfl)
            · simp (config := { maxSteps := 10000000 }) only [EV1, EV2, EV3, EV4, EV5, EV6, addT, istep, lenR_sl, lenR_ns, lenR_es, pickR, putD, bin1R, un1R, slcR, bnd, capsOf, fillP, S_plain, V_plain, V.cells, S_known, V_known, C.v, blk, setL, setH, eqS, eq1, cmpS, cmp1, isNil, popTo, killT, setT, leT, V.below, C.below, S_below, R.below, V.val, C.val, S_val, R.val, R.takes, vals, shows, List.any_cons, List.any_nil, unnamed, V.kill, V.names, C.names, S_names, R.names, List.set, List.replicate, ↓q_cond_t, ↓q_cond_f, if_true, if_false, reduceCtorEq, rvals, rvC, result, C_known, V.noL, C.noL, S_noL, R.noL, Option.map, true_and, and_true, ge_iff_le, gt_iff_lt, implies_true, q_ite_t, q_ite_f, beq_iff_eq, bne_iff_ne, q_ne, Nat.reduceAdd, Nat.reducePow, Int.reducePow, Nat.reduceMul, Nat.reduceSub, Nat.reduceLeDiff, Nat.reduceLT, Nat.reduceEqDiff, Int.reduceNeg, Int.reduceLT, Int.reduceLE, Int.reduceEq, Int.reduceNe, Int.reduceAdd, Int.reduceSub, Int.reduceMul, Int.reduceToNat, Int.reduceBEq, Int.reduceBNe, hse]
            · simp (config := { maxSteps := 10000000 }) only [EV1, EV2, EV3, EV4, EV5, EV6, addT, istep, lenR_sl, lenR_ns, lenR_es, pickR, putD, bin1R, un1R, slcR, bnd, capsOf, fillP, S_plain, V_plain, V.cells, S_known, V_known, C.v, blk, setL, setH, eqS, eq1, cmpS, cmp1, isNil, popTo, killT, setT, leT, V.below, C.below, S_below, R.below, V.val, C.val, S_val, R.val, R.takes, vals, shows, List.any_cons, List.any_nil, unnamed, V.kill, V.names, C.names, S_names, R.names, List.set, List.replicate, ↓q_cond_t, ↓q_cond_f, if_true, if_false, reduceCtorEq, rvals, rvC, result, C_known, V.noL, C.noL, S_noL, R.noL, Option.map, true_and, and_true, ge_iff_le, gt_iff_lt, implies_true, q_ite_t, q_ite_f, beq_iff_eq, bne_iff_ne, q_ne, Nat.reduceAdd, Nat.reducePow, Int.reducePow, Nat.reduceMul, Nat.reduceSub, Nat.reduceLeDiff, Nat.reduceLT, Nat.reduceEqDiff, Int.reduceNeg, Int.reduceLT, Int.reduceLE, Int.reduceEq, Int.reduceNe, Int.reduceAdd, Int.reduceSub, Int.reduceMul, Int.reduceToNat, Int.reduceBEq, Int.reduceBNe, hse, hbl, hbl2]
    · have : i = A.length := by omega
      subst this
      refine run_sound (Tab.ok_Γ _) 300 _ _ _ _ ?_
      simp (config := { maxSteps := 10000000 }) only [EV1, EV2, EV3, EV4, EV5, EV6, addT, istep, lenR_sl, lenR_ns, lenR_es, pickR, putD, bin1R, un1R, slcR, bnd, capsOf, fillP, S_plain, V_plain, V.cells, S_known, V_known, C.v, blk, setL, setH, eqS, eq1, cmpS, cmp1, isNil, popTo, killT, setT, leT, V.below, C.below, S_below, R.below, V.val, C.val, S_val, R.val, R.takes, vals, shows, List.any_cons, List.any_nil, unnamed, V.kill, V.names, C.names, S_names, R.names, List.set, List.replicate, ↓q_cond_t, ↓q_cond_f, if_true, if_false, reduceCtorEq, rvals, rvC, result, C_known, V.noL, C.noL, S_noL, R.noL, Option.map, true_and, and_true, ge_iff_le, gt_iff_lt, implies_true, q_ite_t, q_ite_f, beq_iff_eq, bne_iff_ne, q_ne, Nat.reduceAdd, Nat.reducePow, Int.reducePow, Nat.reduceMul, Nat.reduceSub, Nat.reduceLeDiff, Nat.reduceLT, Nat.reduceEqDiff, Int.reduceNeg, Int.reduceLT, Int.reduceLE, Int.reduceEq, Int.reduceNe, Int.reduceAdd, Int.reduceSub, Int.reduceMul, Int.reduceToNat, Int.reduceBEq, Int.reduceBNe, hlen3, Int.lt_irrefl]
      exact hK _
end Go.Proofs.Yteeeidldknlblaa

/- WalkApart, WalkReaches, WalkBuffered: for every input the law's Go function answers true, and its arguments read behind the call as before. No conditions. -/
namespace Go.Proofs.Yteeeidldknlblaa
open Go.D
set_option linter.all false
set_option maxRecDepth 100000

abbrev OpWT : List TY := [.int .i64, .int .i64, .int .i64, .bool, .int .i64, .bool, .bool]
theorem hasTs_opw {h : List Blk} {ss : List S} (H : hasTs h OpWT ss) : ∃ o : OpW, ss = o.c ∧ True := by
  obtain ⟨_, _, rfl, ⟨a, rfl, _⟩, H0⟩ := hasTs_cons H
  obtain ⟨_, _, rfl, ⟨b, rfl, _⟩, H1⟩ := hasTs_cons H0
  obtain ⟨_, _, rfl, ⟨c, rfl, _⟩, H2⟩ := hasTs_cons H1
  obtain ⟨_, _, rfl, ⟨w, rfl⟩, H3⟩ := hasTs_cons H2
  obtain ⟨_, _, rfl, ⟨d, rfl, _⟩, H4⟩ := hasTs_cons H3
  obtain ⟨_, _, rfl, ⟨e, rfl⟩, H5⟩ := hasTs_cons H4
  obtain ⟨_, _, rfl, ⟨f, rfl⟩, H6⟩ := hasTs_cons H5
  obtain rfl := hasTs_nil H6
  exact ⟨⟨a, b, c, w, d, e, f⟩, rfl, trivial⟩
theorem hasTs_wds {h : List Blk} {s : S} (H : hasT h (.slice WdT) s) : ∃ L : List Wd, IsArr Wd.c h s L ∧ (∀ x, x ∈ L → u64 x.w) ∧ L.length ≤ 140737488355328 := isArr_of (c := Wd.c) (p := fun x => u64 x.w) (fun ss h => hasTs_wd h) H
theorem apart_law : Law apartS5 [(true, .slice WdT :: .int .i64 :: .int .i64 :: WdT)] := by
  intro h us H hc
  obtain ⟨_, rfl, ss, rfl, H1⟩ := law1 H
  obtain ⟨s, _, rfl, Hs, H2⟩ := hasTs_cons H1
  obtain ⟨L, e1, e2, e3⟩ := hasTs_wds Hs
  obtain ⟨_, _, rfl, ⟨t, rfl, _⟩, H3⟩ := hasTs_cons H2
  obtain ⟨_, _, rfl, ⟨v, rfl, _⟩, H4⟩ := hasTs_cons H3
  obtain ⟨o, rfl, ho⟩ := hasTs_wd H4
  exact ⟨⟨s, t, v, o⟩, L, rfl, e1, e2, e3, ho, fun _ => rfl⟩
theorem reaches_law : Law reachesS [(false, [.slice WdT]), (false, [.slice OpWT])] := by
  intro h us H hc
  obtain ⟨_, _, rfl, ⟨s, rfl, Hs, _⟩, H2⟩ := law2 H
  obtain ⟨L, e1, e2, e3⟩ := hasTs_wds Hs
  obtain ⟨s2, A, rfl, a1, _, _⟩ := hasV_slice (c := OpW.c) (p := fun _ => True) (fun ss h => hasTs_opw h) H2
  exact ⟨s, L, s2, A, rfl, e1, e2, e3, a1, fun _ => rfl⟩
theorem buffered_law : Law bufferedS [(false, [.slice WdT]), (false, [.slice [.int .i64]]), (false, [.slice OpWT])] := by
  intro h us H hc
  obtain ⟨_, _, _, rfl, ⟨s, rfl, Hs, _⟩, H2, H3⟩ := law3 H
  obtain ⟨L, e1, e2, e3⟩ := hasTs_wds Hs
  obtain ⟨s2, Q, rfl, b1, _, _⟩ := hasV_slice (c := In.c) (p := fun _ => True) (fun ss h => by
    obtain ⟨_, _, rfl, ⟨n, rfl, _⟩, H2⟩ := hasTs_cons h
    obtain rfl := hasTs_nil H2
    exact ⟨n, rfl, trivial⟩) H2
  obtain ⟨s3, A, rfl, a1, _, _⟩ := hasV_slice (c := OpW.c) (p := fun _ => True) (fun ss h => hasTs_opw h) H3
  exact ⟨s, L, s2, Q, s3, A, rfl, e1, e2, e3, b1, a1, fun _ => rfl⟩

theorem walkApart_row : RowOk Try.prog 9 Try.f9 Rows.walkApartSpec [(true, .slice WdT :: .int .i64 :: .int .i64 :: WdT)] where
  own := own
  noInit := by kernel_rfl
  isf := Try.func9
  laid := laid
  rowed := rowed
  full := full
  params := by kernel_rfl
  vars := rfl
  ret := ⟨_, rfl, by kernel_rfl⟩
  spec := fun H ds e => by
    match ds, e with
    | [_], _ => rfl
  tys := ⟨20, by kernel_rfl⟩
theorem walkApart_holds : Rows.WalkApartSaid :=
  OpenClaim.holds_of_wide 9 Try.f9 rfl rfl rfl rfl rfl rfl rfl ⟨rfl, rfl, rfl, rfl, rfl⟩ rfl rfl rfl rfl rfl (by kernel_rfl) Try.func9 (by kernel_rfl)
    (of_decide_eq_true (by kernel_rfl)) (by unfold Func.isWrapper; first | (rw [if_pos (by decide +kernel)]; kernel_rfl) | (rw [if_neg (by decide +kernel)]; exact ⟨rfl, rfl⟩))
    (fun os started H enc _ => walkApart_row.lifted (C := Try.checked) apart_snd apart_law started (ChangeSpec.witness6 (enc := enc) (C := Try.checked) false ⟨#[], #[.agg #[.slice none 0 0, .int .i64 0, .int .i64 0, .int .i64 0, .bool false, .bool false, .int .i64 0, .int .i64 0, .bool false, .int .u64 0]], []⟩ 8 (by kernel_rfl) (by kernel_rfl) (by kernel_rfl) (by kernel_rfl)))
theorem walkReaches_row : RowOk Try.prog 12 Try.f12 Rows.walkReachesSpec [(false, [.slice WdT]), (false, [.slice OpWT])] where
  own := own
  noInit := by kernel_rfl
  isf := Try.func12
  laid := laid
  rowed := rowed
  full := full
  params := by kernel_rfl
  vars := rfl
  ret := ⟨_, rfl, by kernel_rfl⟩
  spec := fun H ds e => by
    match ds, e with
    | [_, _], _ => rfl
  tys := ⟨20, by kernel_rfl⟩
theorem walkReaches_holds : Rows.WalkReachesSaid :=
  OpenClaim.holds_of_wide 12 Try.f12 rfl rfl rfl rfl rfl rfl rfl ⟨rfl, rfl, rfl, rfl, rfl⟩ rfl rfl rfl rfl rfl (by kernel_rfl) Try.func12 (by kernel_rfl)
    (of_decide_eq_true (by kernel_rfl)) (by unfold Func.isWrapper; first | (rw [if_pos (by decide +kernel)]; kernel_rfl) | (rw [if_neg (by decide +kernel)]; exact ⟨rfl, rfl⟩))
    (fun os started H enc _ => walkReaches_row.lifted (C := Try.checked) reaches_snd reaches_law started (ChangeSpec.witness6 (enc := enc) (C := Try.checked) false ⟨#[], #[.slice none 0 0, .slice none 0 0], []⟩ 8 (by kernel_rfl) (by kernel_rfl) (by kernel_rfl) (by kernel_rfl)))
theorem walkBuffered_row : RowOk Try.prog 11 Try.f11 Rows.walkBufferedSpec [(false, [.slice WdT]), (false, [.slice [.int .i64]]), (false, [.slice OpWT])] where
  own := own
  noInit := by kernel_rfl
  isf := Try.func11
  laid := laid
  rowed := rowed
  full := full
  params := by kernel_rfl
  vars := rfl
  ret := ⟨_, rfl, by kernel_rfl⟩
  spec := fun H ds e => by
    match ds, e with
    | [_, _, _], _ => rfl
  tys := ⟨20, by kernel_rfl⟩
theorem walkBuffered_holds : Rows.WalkBufferedSaid :=
  OpenClaim.holds_of_wide 11 Try.f11 rfl rfl rfl rfl rfl rfl rfl ⟨rfl, rfl, rfl, rfl, rfl⟩ rfl rfl rfl rfl rfl (by kernel_rfl) Try.func11 (by kernel_rfl)
    (of_decide_eq_true (by kernel_rfl)) (by unfold Func.isWrapper; first | (rw [if_pos (by decide +kernel)]; kernel_rfl) | (rw [if_neg (by decide +kernel)]; exact ⟨rfl, rfl⟩))
    (fun os started H enc _ => walkBuffered_row.lifted (C := Try.checked) buffered_snd buffered_law started (ChangeSpec.witness6 (enc := enc) (C := Try.checked) false ⟨#[], #[.slice none 0 0, .slice none 0 0, .slice none 0 0], []⟩ 8 (by kernel_rfl) (by kernel_rfl) (by kernel_rfl) (by kernel_rfl)))
end Go.Proofs.Yteeeidldknlblaa

