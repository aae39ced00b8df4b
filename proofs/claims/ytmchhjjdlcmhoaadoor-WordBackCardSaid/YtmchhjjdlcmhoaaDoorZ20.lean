/- Pack and Unpack over slices of whatever form. -/
import Derived.Test.YtmchhjjdlcmhoaaDoorZ19
import Derived.LaidMore
import Derived.Lib.LaidTab
import Derived.Stop.Joined
import Derived.Test.YtmchhjjdlcmhoaaDoorRows
import Derived.Test.YtmchhjjdlcmhoaaDoorTie
import Derived.Test.YtmchhjjdlcmhoaaDoorCards
import Derived.Test.YtmchhjjdlcmhoaaDoorZ18
import Derived.SevenTiedAt
import Derived.Test.YtmchhjjdlcmhoaaDoorZ13
import Derived.Test.YtmchhjjdlcmhoaaDoorZ12
/- A row whose law reads variables of the program: what they read as when the call begins is a condition of the row. -/
namespace Go.D
set_option linter.all false
variable [Tabs]
open Go.ChangeShapes Go.WideShapes

/-- A cell that is there lies in the heap. -/
theorem cell_lt {w : World} {b o : Nat} {v : Value} (h : w.cell? ⟨b, o, none⟩ = some v) : b < w.heap.size := by
  rcases Nat.lt_or_ge b w.heap.size with h1 | h1
  · exact h1
  · simp [World.cell?, h1] at h

/-- What is asked of the program and the law's function, by reckoning. -/
structure RowOkL (P : Program) (f : FuncId) (fn : Func) (s : ChangeSpec) (xs : List (Bool × List TY)) (L : List (String × DataW Unit)) : Prop where
  own : ownKnob P.godebug = none
  tabs : ∀ W : World, laidMetH P L W → ∀ x, x ∈ Tabs.cells → W.cell? ⟨x.1, x.2.1, none⟩ = some x.2.2 ∧ x.1 < W.heap.size
  noInit : P.inits.idxOf? f = none
  isf : P.funcs[f]? = some fn
  laid : laidOutB P = true
  rowed : mapsRowed P = true
  full : slicesFull P = true
  params : fn.params.toList.all (fun t => decide (t < P.types.size)) = true
  vars : s.vars = []
  ret : ∃ bt, fn.resultTypes = #[bt] ∧ P.underlying bt = some .bool
  spec : ∀ (H : Type) (ds : List (DataW H)), ds.length = fn.params.toList.length → s.fn H ds = { results := [.lit (.bool true)], args := ds }
  tys : ∃ D, paramTys P D fn.params.toList = some xs

theorem RowOkL.calls {P : Program} {f : FuncId} {fn : Func} {s : ChangeSpec} {xs : List (Bool × List TY)} {L : List (String × DataW Unit)} (R : RowOkL P f fn s xs L) {S : FSpec} (hS : Snd P f S) (hL : Law S xs)
    {H : Type} {enc : TypeId × Value → H} {W : World} {base : Nat} {r : Reach} {args : Array Value} {ds gs : List (DataW H)} {before : List MemPlace} {apart fresh handsOn : Bool}
    (hW0 : laidMetH P L W) (hval : ∀ (j : Nat) t v, fn.params[j]? = some t → args[j]? = some v → Value.okWide P W r base t v) (hW : DataW.Whole enc P fn.params.toList s.vars apart W args.toList ds gs before)
    (hZ : (DataW.weightsEach P (fn.params.toList ++ s.plain.varTypes P) (ds ++ gs)).all (· ≤ reachBytes) = true) :
    Calls P f args W fun e W' => ∃ v, e = .returned v ∧ s.post enc P fn apart fresh handsOn false W args v W' := by
  obtain ⟨D, hx⟩ := R.tys
  obtain ⟨bt, hrt, hbt⟩ := R.ret
  obtain ⟨p, q, hA, hV, hb, hfz, hnd⟩ := id hW
  have hc := law_calls (R.tabs W hW0) hS hL (fun j t v h1 h2 => hval j t v (by simpa using h1) h2) hA hx (fun j t d ht hd k hk => by
    have h1 : (fn.params.toList ++ s.plain.varTypes P)[j]? = some t := by rw [List.getElem?_append_left (List.getElem?_eq_some_iff.1 ht).1]; exact ht
    have h2 : (ds ++ gs)[j]? = some d := by rw [List.getElem?_append_left (List.getElem?_eq_some_iff.1 hd).1]; exact hd
    have h3 := List.all_eq_true.1 hZ _ (DataW.weights_mem_each h1 h2 k hk)
    simpa using h3)
  refine hc.mono fun e W' ⟨he, hst⟩ => ⟨_, he, ?_⟩
  have hgs : gs = [] := by
    rw [R.vars] at hV; exact (trodVars_none hV).1
  subst hgs
  refine law_post (kids_rows R.laid R.rowed) (fun t e ht hu => ?_) (fun t ht => ?_) R.vars hbt hrt ?_ hW hst
  · have := R.full
    simp only [slicesFull, List.all_eq_true, List.mem_range] at this
    have := this t ht
    rw [hu] at this
    simpa using this
  · have := R.params
    simp only [List.all_eq_true, decide_eq_true_eq] at this
    exact this t ht
  · simp only [List.append_nil]
    exact R.spec H ds (trodAll_length hA)

theorem RowOkL.lifted {C : Checked} {f : FuncId} {fn : Func} {s : ChangeSpec} {xs : List (Bool × List TY)} {L : List (String × DataW Unit)} (R : RowOkL C.prog f fn s xs L) {S : FSpec} (hS : Snd C.prog f S) (hL : Law S xs) {os : Os} (started : os.Started) {H : Type} {enc : TypeId × Value → H} {conds : List PathCond} {apart fresh handsOn : Bool}
    (witness : ∃ (w : World) (tape : Tape) (i : Input), w.os = os ∧ (w.forCall tape i).Shaped C.prog ∧ i.vars = [] ∧ Input.okWide C.prog (w.forCall tape i) .any w.heap.size f i ∧
      ((s.pre enc C.prog fn conds apart (w.forCall tape i).memory i.args ∧ laidMetH C.prog L (w.forCall tape i).memory) ∧ sizedMet enc C.prog fn (OpenSpec.ofChange s) apart (w.forCall tape i).memory i.args) ∧ ({} : Assume).holds C.prog (lone (Frame.enter C.prog f i.args .normal) [] (w.forCall tape i))) :
    ReturnsInHanded {} C os f .any (fun w args => (s.pre enc C.prog fn conds apart w args ∧ laidMetH C.prog L w) ∧ sizedMet enc C.prog fn (OpenSpec.ofChange s) apart w args) (s.post enc C.prog fn apart fresh handsOn false) :=
  returnsInHanded_of_change_and (X := fun w _ => laidMetH C.prog L w) (fun _ _ _ hh h => h.of_heap hh) R.own started R.noInit R.isf witness fun _ _ _ _ _ _ hval hW _ hZ hL0 _ => R.calls hS hL hL0 hval hW hZ

end Go.D

/- WordFields, WordBits, WordKeeps: for every input the law's Go function answers true, and its arguments read behind the call as before. math/bits.deBruijn64tab reads as the program's text lays it. -/
namespace Go.Proofs.YtmchhjjdlcmhoaaDoor
open Go.D
set_option linter.all false
set_option maxRecDepth 100000

theorem tab_named : Tryd.prog.globalNamed "math/bits.deBruijn64tab" = some 0 := by kernel_rfl
theorem tab_type : (Tryd.prog.globals[0]?).map (·.type) = some 53 := by kernel_rfl
theorem tab_arr : Tryd.prog.underlying 53 = some (.array 64 5) := by kernel_rfl
theorem tabs_met : ∀ W : World, laidMetH Tryd.prog Rows.wordFieldsRow.laid W → ∀ x, x ∈ Tabs.cells → W.cell? ⟨x.1, x.2.1, none⟩ = some x.2.2 ∧ x.1 < W.heap.size := fun W hW x hx => by
  have h1 := Lib.tabIs_of_head (zs := Lib.deBruijn64tab.map fun (n : Nat) => (n : Int)) (k := .u8) tab_named tab_type tab_arr (by kernel_rfl) (by kernel_rfl) (by kernel_rfl) hW
  obtain ⟨j, hj, rfl⟩ := List.mem_map.1 hx
  have hj := List.mem_range.1 hj
  have h2 := h1.cell tab_named j (by rw [List.length_map]; exact hj)
  have e : (Lib.deBruijn64tab.map fun (n : Nat) => (n : Int)).getD j 0 = ((Lib.deBruijn64tab.getD j 0 : Nat) : Int) := by
    simp [List.getD]
    cases Lib.deBruijn64tab[j]? <;> rfl
  rw [e] at h2
  exact ⟨h2, cell_lt h2⟩
theorem door_met (os : Os) (args : Array Value) : laidMetH Tryd.prog Rows.wordFieldsRow.laid ((World.doorLaid Tryd.prog 400 os).forCall (fun _ _ => 0) ⟨#[], args, []⟩).memory :=
  laidMet_of_run' 8 (by kernel_rfl) (by kernel_rfl)

theorem u64_wf {n : Int} (h : (Lit.int .u64 n).wf = true) : u64 n := by
  simp only [Lit.wf, IntKind.min, IntKind.max, IntKind.bits, IntKind.signed, Bool.and_eq_true, decide_eq_true_eq] at h
  have h2 := h.2
  simp at h
  exact ⟨h.1, by omega⟩
theorem i64_wf {n : Int} (h : (Lit.int .i64 n).wf = true) : -9223372036854775808 ≤ n ∧ n < 9223372036854775808 := by
  simp [Lit.wf, IntKind.min, IntKind.max, IntKind.bits, IntKind.signed] at h
  omega

theorem wordFields_law : Law (FSpec.of wordFieldsG) [(true, [.int .u64, .int .i64, .int .i64, .int .u64])] := by
  intro h us H hc
  obtain ⟨_, rfl, ss, rfl, G0⟩ := law1 H
  obtain ⟨_, _, rfl, ⟨a, rfl, ha⟩, G1⟩ := hasTs_cons G0
  obtain ⟨_, _, rfl, ⟨b, rfl, _⟩, G2⟩ := hasTs_cons G1
  obtain ⟨_, _, rfl, ⟨c, rfl, _⟩, G3⟩ := hasTs_cons G2
  obtain ⟨_, _, rfl, ⟨d, rfl, hd⟩, G4⟩ := hasTs_cons G3
  obtain rfl := hasTs_nil G4
  exact ⟨⟨u64_wf ha, u64_wf hd⟩, rfl⟩
theorem wordBits_law : Law (FSpec.of wordBitsG) [(false, [.int .u64]), (false, [.int .i64]), (false, [.int .i64])] := by
  intro h us H hc
  obtain ⟨_, _, _, rfl, H1, H2, H3⟩ := law3 H
  obtain ⟨w, rfl, hw⟩ := hasV_int H1
  obtain ⟨n, rfl, hn⟩ := hasV_int H2
  obtain ⟨b, rfl, _⟩ := hasV_int H3
  exact ⟨⟨u64_wf hw, by have := (i64_wf hn).2; omega⟩, rfl⟩
theorem wordKeeps_law : Law (FSpec.of wordKeepsG) [(true, [.int .u64, .int .i64, .int .i64, .int .u64, .int .i64, .int .i64])] := by
  intro h us H hc
  obtain ⟨_, rfl, ss, rfl, G0⟩ := law1 H
  obtain ⟨_, _, rfl, ⟨a, rfl, ha⟩, G1⟩ := hasTs_cons G0
  obtain ⟨_, _, rfl, ⟨b, rfl, _⟩, G2⟩ := hasTs_cons G1
  obtain ⟨_, _, rfl, ⟨c, rfl, _⟩, G3⟩ := hasTs_cons G2
  obtain ⟨_, _, rfl, ⟨d, rfl, hd⟩, G4⟩ := hasTs_cons G3
  obtain ⟨_, _, rfl, ⟨e, rfl, _⟩, G5⟩ := hasTs_cons G4
  obtain ⟨_, _, rfl, ⟨f, rfl, _⟩, G6⟩ := hasTs_cons G5
  obtain rfl := hasTs_nil G6
  exact ⟨⟨u64_wf ha, u64_wf hd⟩, rfl⟩

theorem wordFields_row : RowOkL Tryd.prog 3 Tryd.f3 Rows.wordFieldsSpec [(true, [.int .u64, .int .i64, .int .i64, .int .u64])] Rows.wordFieldsRow.laid where
  own := own
  tabs := tabs_met
  noInit := by kernel_rfl
  isf := Tryd.func3
  laid := laid
  rowed := rowed
  full := full
  params := by kernel_rfl
  vars := rfl
  ret := ⟨_, rfl, by kernel_rfl⟩
  spec := fun H ds e => by
    match ds, e with
    | [_], _ => rfl
  tys := ⟨20, by kernel_rfl⟩
theorem wordFields_said : Rows.WordFieldsSaid :=
  OpenClaim.holds_of_wide 3 Tryd.f3 rfl rfl rfl rfl rfl rfl rfl ⟨rfl, rfl, rfl, rfl, rfl⟩ rfl rfl rfl rfl rfl (by kernel_rfl) Tryd.func3 (by kernel_rfl)
    (of_decide_eq_true (by kernel_rfl)) (by unfold Func.isWrapper; first | (rw [if_pos (by decide +kernel)]; kernel_rfl) | (rw [if_neg (by decide +kernel)]; exact ⟨rfl, rfl⟩))
    (fun os started H enc _ => wordFields_row.lifted (C := Tryd.checked) wordFields_snd wordFields_law started (ChangeSpec.witness_shaped (enc := enc) (C := Tryd.checked) (os := os) (X := fun w _ => laidMetH Tryd.prog Rows.wordFieldsRow.laid w) false (World.doorLaid Tryd.prog 400 os) #[.agg #[.int .u64 0, .int .i64 0, .int .i64 0, .int .u64 0]] 8 rfl (World.shaped_of_RefB (by kernel_rfl) (by kernel_rfl)) (by kernel_rfl) (by kernel_rfl) (by kernel_rfl) (door_met os _)))
theorem wordFields_holds : Rows.WordFieldsCardSaid :=
  Claim7.holds_tied_plain_at .later [] [.data] true (true, Rows.wordFieldsCard.stood.harness.2) false
    wordFields_said (fun _ h => by cases h) (by kernel_rfl) (fun _ h => by cases h) wordFields_row_tie rfl ⟨rfl, rfl⟩ (by kernel_rfl) rfl
    (fun f fn hf hfn => by
      obtain rfl : f = 3 := Option.some.inj ((show Tryd.prog.funcNamed Rows.wordFieldsRow.func = some 3 by kernel_rfl).symm.trans hf) |>.symm
      obtain rfl : fn = Tryd.f3 := (Option.some.inj (Tryd.func3.symm.trans hfn)).symm
      exact ⟨by kernel_rfl, fun j t ht => by
        rw [Tryd.params3] at ht
        have hm : t ∈ [24] := by simpa using Array.mem_of_getElem? ht
        have hall : ([24].all fun u => !Tryd.prog.wantsStandIn u) = true := by kernel_rfl
        exact (show Tryd.prog.wantsStandIn t = false by simpa using List.all_eq_true.1 hall t hm)⟩)
    (by kernel_rfl)
theorem wordBits_row : RowOkL Tryd.prog 5 Tryd.f5 Rows.wordBitsSpec [(false, [.int .u64]), (false, [.int .i64]), (false, [.int .i64])] Rows.wordBitsRow.laid where
  own := own
  tabs := tabs_met
  noInit := by kernel_rfl
  isf := Tryd.func5
  laid := laid
  rowed := rowed
  full := full
  params := by kernel_rfl
  vars := rfl
  ret := ⟨_, rfl, by kernel_rfl⟩
  spec := fun H ds e => by
    match ds, e with
    | [_, _, _], _ => rfl
  tys := ⟨20, by kernel_rfl⟩
theorem wordBits_said : Rows.WordBitsSaid :=
  OpenClaim.holds_of_wide 5 Tryd.f5 rfl rfl rfl rfl rfl rfl rfl ⟨rfl, rfl, rfl, rfl, rfl⟩ rfl rfl rfl rfl rfl (by kernel_rfl) Tryd.func5 (by kernel_rfl)
    (of_decide_eq_true (by kernel_rfl)) (by unfold Func.isWrapper; first | (rw [if_pos (by decide +kernel)]; kernel_rfl) | (rw [if_neg (by decide +kernel)]; exact ⟨rfl, rfl⟩))
    (fun os started H enc _ => wordBits_row.lifted (C := Tryd.checked) wordBits_snd wordBits_law started (ChangeSpec.witness_shaped (enc := enc) (C := Tryd.checked) (os := os) (X := fun w _ => laidMetH Tryd.prog Rows.wordBitsRow.laid w) false (World.doorLaid Tryd.prog 400 os) #[.int .u64 0, .int .i64 0, .int .i64 0] 8 rfl (World.shaped_of_RefB (by kernel_rfl) (by kernel_rfl)) (by kernel_rfl) (by kernel_rfl) (by kernel_rfl) (door_met os _)))
theorem wordBits_holds : Rows.WordBitsCardSaid :=
  Claim7.holds_tied_plain_at .later [] [.data] true (true, Rows.wordBitsCard.stood.harness.2) false
    wordBits_said (fun _ h => by cases h) (by kernel_rfl) (fun _ h => by cases h) wordBits_row_tie rfl ⟨rfl, rfl⟩ (by kernel_rfl) rfl
    (fun f fn hf hfn => by
      obtain rfl : f = 5 := Option.some.inj ((show Tryd.prog.funcNamed Rows.wordBitsRow.func = some 5 by kernel_rfl).symm.trans hf) |>.symm
      obtain rfl : fn = Tryd.f5 := (Option.some.inj (Tryd.func5.symm.trans hfn)).symm
      exact ⟨by kernel_rfl, fun j t ht => by
        rw [Tryd.params5] at ht
        have hm : t ∈ [22, 3, 3] := by simpa using Array.mem_of_getElem? ht
        have hall : ([22, 3, 3].all fun u => !Tryd.prog.wantsStandIn u) = true := by kernel_rfl
        exact (show Tryd.prog.wantsStandIn t = false by simpa using List.all_eq_true.1 hall t hm)⟩)
    (by kernel_rfl)
theorem wordKeeps_row : RowOkL Tryd.prog 6 Tryd.f6 Rows.wordKeepsSpec [(true, [.int .u64, .int .i64, .int .i64, .int .u64, .int .i64, .int .i64])] Rows.wordKeepsRow.laid where
  own := own
  tabs := tabs_met
  noInit := by kernel_rfl
  isf := Tryd.func6
  laid := laid
  rowed := rowed
  full := full
  params := by kernel_rfl
  vars := rfl
  ret := ⟨_, rfl, by kernel_rfl⟩
  spec := fun H ds e => by
    match ds, e with
    | [_], _ => rfl
  tys := ⟨20, by kernel_rfl⟩
theorem wordKeeps_said : Rows.WordKeepsSaid :=
  OpenClaim.holds_of_wide 6 Tryd.f6 rfl rfl rfl rfl rfl rfl rfl ⟨rfl, rfl, rfl, rfl, rfl⟩ rfl rfl rfl rfl rfl (by kernel_rfl) Tryd.func6 (by kernel_rfl)
    (of_decide_eq_true (by kernel_rfl)) (by unfold Func.isWrapper; first | (rw [if_pos (by decide +kernel)]; kernel_rfl) | (rw [if_neg (by decide +kernel)]; exact ⟨rfl, rfl⟩))
    (fun os started H enc _ => wordKeeps_row.lifted (C := Tryd.checked) wordKeeps_snd wordKeeps_law started (ChangeSpec.witness_shaped (enc := enc) (C := Tryd.checked) (os := os) (X := fun w _ => laidMetH Tryd.prog Rows.wordKeepsRow.laid w) false (World.doorLaid Tryd.prog 400 os) #[.agg #[.int .u64 0, .int .i64 0, .int .i64 0, .int .u64 0, .int .i64 0, .int .i64 0]] 8 rfl (World.shaped_of_RefB (by kernel_rfl) (by kernel_rfl)) (by kernel_rfl) (by kernel_rfl) (by kernel_rfl) (door_met os _)))
theorem wordKeeps_holds : Rows.WordKeepsCardSaid :=
  Claim7.holds_tied_plain_at .later [] [.data] true (true, Rows.wordKeepsCard.stood.harness.2) false
    wordKeeps_said (fun _ h => by cases h) (by kernel_rfl) (fun _ h => by cases h) wordKeeps_row_tie rfl ⟨rfl, rfl⟩ (by kernel_rfl) rfl
    (fun f fn hf hfn => by
      obtain rfl : f = 6 := Option.some.inj ((show Tryd.prog.funcNamed Rows.wordKeepsRow.func = some 6 by kernel_rfl).symm.trans hf) |>.symm
      obtain rfl : fn = Tryd.f6 := (Option.some.inj (Tryd.func6.symm.trans hfn)).symm
      exact ⟨by kernel_rfl, fun j t ht => by
        rw [Tryd.params6] at ht
        have hm : t ∈ [47] := by simpa using Array.mem_of_getElem? ht
        have hall : ([47].all fun u => !Tryd.prog.wantsStandIn u) = true := by kernel_rfl
        exact (show Tryd.prog.wantsStandIn t = false by simpa using List.all_eq_true.1 hall t hm)⟩)
    (by kernel_rfl)
end Go.Proofs.YtmchhjjdlcmhoaaDoor

/- Slices of elements, as they lie in a block. -/
namespace Go.Proofs.YtmchhjjdlcmhoaaDoor
open Go.D
set_option linter.all false
set_option maxRecDepth 100000

/-- A slice of elements, as an argument. -/
def IsArr {α : Type} (c : α → List S) (h : List Blk) (s : S) (L : List α) : Prop :=
  ((s = .ns ∨ ∃ a c', s = .es a c') ∧ L = []) ∨ ∃ j c' st room, s = .sl (.g j) 0 L.length c' ∧ h[j]? = some ⟨st, arr c L, room⟩ ∧ (L.length ≠ 0 → st ≠ .dead)
theorem arr_inj {α : Type} {c : α → List S} {k : Nat} (hk : ∀ x, (c x).length = k) (hc : ∀ x y, c x = c y → x = y) : ∀ (L M : List α), L.length = M.length → arr c L = arr c M → L = M
  | [], [], _, _ => rfl
  | x :: L, y :: M, hl, e => by
    simp only [arr] at e
    obtain ⟨e1, e2⟩ := List.append_inj e (by rw [hk, hk])
    rw [hc x y e1, arr_inj hk hc L M (by simpa using hl) e2]
  | [], _ :: _, hl, _ => by simp at hl
  | _ :: _, [], hl, _ => by simp at hl
/-- Elements that can be told apart by their cells. -/
class Cells {α : Type} (c : α → List S) : Prop where
  len : ∃ k, ∀ x, (c x).length = k
  inj : ∀ x y, c x = c y → x = y
theorem IsArr.uniq {α : Type} {c : α → List S} [C : Cells c] {h : List Blk} {s : S} {L M : List α} (H : IsArr c h s L) (H' : IsArr c h s M) : L = M := by
  rcases H with ⟨e0, rfl⟩ | ⟨j, c1, st, room, rfl, e1, _⟩
  · rcases H' with ⟨_, rfl⟩ | ⟨_, _, _, _, e, _⟩
    · rfl
    · subst e; rcases e0 with e0 | ⟨_, _, e0⟩ <;> cases e0
  · rcases H' with ⟨e | ⟨_, _, e⟩, _⟩ | ⟨j', c1', st', room', e, e2, _⟩
    · cases e
    · cases e
    · simp only [S.sl.injEq, R.g.injEq, true_and] at e
      obtain ⟨rfl, hl, rfl⟩ := e
      rw [e1, Option.some.injEq, Blk.mk.injEq] at e2
      obtain ⟨k, hk⟩ := C.len
      exact arr_inj hk C.inj L M hl e2.2.1
open Classical in
noncomputable def arrOf {α : Type} (c : α → List S) (h : List Blk) (s : S) : Option (List α) := if hx : ∃ v, IsArr c h s v then some (Classical.choose hx) else none
theorem IsArr.app {α : Type} {c : α → List S} {h X : List Blk} {s : S} {L : List α} (H : IsArr c h s L) : IsArr c (h ++ X) s L := by
  rcases H with ⟨e0, rfl⟩ | ⟨j, c', st, room, rfl, e1, e2⟩
  · exact .inl ⟨e0, rfl⟩
  · exact .inr ⟨j, c', st, room, rfl, by rw [List.getElem?_append_left (List.getElem?_eq_some_iff.1 e1).1]; exact e1, e2⟩
def In.c (n : Int) : List S := [.i .i64 n]
theorem In.c_len (n : Int) : (In.c n).length = 1 := rfl
instance : Cells In.c := ⟨⟨1, In.c_len⟩, fun x y e => by simpa [In.c] using e⟩

/-! ### a slice whose form is not looked at -/
/-- A slice of so many elements; of a block that was there. -/
def IsSl (q : Nat) (s : S) (n : Nat) : Prop := (s = .ns ∧ n = 0) ∨ (∃ a c, s = .es a c ∧ n = 0) ∨ ∃ j o c, s = .sl (.g j) o n c ∧ j < q
section
variable {q : Nat} {s : S} {n : Nat} (H : IsSl q s n)
include H
theorem IsSl.len {ls h : List Blk} : lenR (.s s) ls h = .ok (.s (.i .i64 n)) ls h := by
  rcases H with ⟨rfl, rfl⟩ | ⟨a, c, rfl, rfl⟩ | ⟨j, o, c, rfl, _⟩ <;> rfl
theorem IsSl.known : V.known (.s s) = true := by
  rcases H with ⟨rfl, rfl⟩ | ⟨a, c, rfl, rfl⟩ | ⟨j, o, c, rfl, _⟩ <;> rfl
theorem IsSl.plain : V.plain (.s s) = true := by
  rcases H with ⟨rfl, rfl⟩ | ⟨a, c, rfl, rfl⟩ | ⟨j, o, c, rfl, _⟩ <;> rfl
theorem IsSl.noL : s.noL = true := by
  rcases H with ⟨rfl, rfl⟩ | ⟨a, c, rfl, rfl⟩ | ⟨j, o, c, rfl, _⟩ <;> rfl
theorem IsSl.below (m : Nat) : s.below m = true := by
  rcases H with ⟨rfl, rfl⟩ | ⟨a, c, rfl, rfl⟩ | ⟨j, o, c, rfl, _⟩ <;> rfl
theorem IsSl.names (m : Nat) : s.names m = false := by
  rcases H with ⟨rfl, rfl⟩ | ⟨a, c, rfl, rfl⟩ | ⟨j, o, c, rfl, _⟩ <;> rfl
theorem IsSl.ren {ρ : R → R} (hρ : ∀ k, ρ (.g k) = .g k) : s.ren ρ = s := by
  rcases H with ⟨rfl, rfl⟩ | ⟨a, c, rfl, rfl⟩ | ⟨j, o, c, rfl, _⟩ <;> simp [S.ren, hρ]
theorem IsSl.lend (m : Nat) : s.ren (R.lend m) = s := H.ren fun _ => rfl
theorem IsSl.unlend {k : Nat} (hk : q ≤ k) : s.ren (R.unlend k) = s := by
  rcases H with ⟨rfl, rfl⟩ | ⟨a, c, rfl, rfl⟩ | ⟨j, o, c, rfl, hj⟩
  · rfl
  · rfl
  · simp only [S.ren, R.unlend]; rw [if_pos (by omega)]
theorem IsSl.pick (l : List Nat) : s.ren (R.pick l) = s := H.ren fun _ => rfl
theorem IsSl.val {k m : Nat} (hk : q ≤ k) : s.val k m = true := by
  rcases H with ⟨rfl, rfl⟩ | ⟨a, c, rfl, rfl⟩ | ⟨j, o, c, rfl, hj⟩
  · rfl
  · rfl
  · simp only [S.val, R.val, decide_eq_true_eq]; omega
end
theorem IsArr.sl {α : Type} {c : α → List S} {h : List Blk} {s : S} {L : List α} (H : IsArr c h s L) : IsSl h.length s L.length := by
  rcases H with ⟨e0 | ⟨a, c', e0⟩, rfl⟩ | ⟨j, c', st, room, rfl, e, _⟩
  · exact .inl ⟨e0, rfl⟩
  · exact .inr (.inl ⟨a, c', e0, rfl⟩)
  · exact .inr (.inr ⟨j, 0, c', rfl, (List.getElem?_eq_some_iff.1 e).1⟩)
/-- Where there is an element the slice is a block's. -/
theorem IsArr.at {α : Type} {c : α → List S} {h : List Blk} {s : S} {L : List α} (H : IsArr c h s L) {i : Nat} (hi : i < L.length) : ∃ j c' st room, s = .sl (.g j) 0 L.length c' ∧ h[j]? = some ⟨st, arr c L, room⟩ ∧ st ≠ .dead := by
  rcases H with ⟨_, rfl⟩ | ⟨j, c', st, room, e, e1, e2⟩
  · simp at hi
  · exact ⟨j, c', st, room, e, e1, e2 (by omega)⟩
end Go.Proofs.YtmchhjjdlcmhoaaDoor

/- Pack and Unpack over slices of whatever form. -/
namespace Go.Proofs.YtmchhjjdlcmhoaaDoor
open Go.D
set_option linter.all false
set_option maxRecDepth 100000
set_option maxHeartbeats 4000000

/-- A slice of elements at a block's beginning. -/
def IsPre {α : Type} (c : α → List S) (h : List Blk) (s : S) (L : List α) : Prop :=
  ((s = .ns ∨ ∃ a c', s = .es a c') ∧ L = []) ∨ ∃ j c' st M room, s = .sl (.g j) 0 L.length c' ∧ h[j]? = some ⟨st, arr c (L ++ M), room⟩ ∧ (L.length ≠ 0 → st ≠ .dead)
theorem IsPre.uniq {α : Type} {c : α → List S} [C : Cells c] {h : List Blk} {s : S} {L M : List α} (H : IsPre c h s L) (H' : IsPre c h s M) : L = M := by
  rcases H with ⟨e0, rfl⟩ | ⟨j, c1, st, X, room, rfl, e1, _⟩
  · rcases H' with ⟨_, rfl⟩ | ⟨_, _, _, _, _, e, _⟩
    · rfl
    · subst e; rcases e0 with e0 | ⟨_, _, e0⟩ <;> cases e0
  · rcases H' with ⟨e | ⟨_, _, e⟩, _⟩ | ⟨j', c1', st', X', room', e, e2, _⟩
    · cases e
    · cases e
    · simp only [S.sl.injEq, R.g.injEq, true_and] at e
      obtain ⟨rfl, hl, rfl⟩ := e
      rw [e1, Option.some.injEq, Blk.mk.injEq] at e2
      obtain ⟨k, hk⟩ := C.len
      have e3 := e2.2.1
      rw [arr_append, arr_append] at e3
      have := (List.append_inj e3 (by rw [arr_length hk, arr_length hk, hl])).1
      exact arr_inj hk C.inj L M hl this
open Classical in
noncomputable def preOf {α : Type} (c : α → List S) (h : List Blk) (s : S) : Option (List α) := if hx : ∃ v, IsPre c h s v then some (Classical.choose hx) else none
theorem preOf_eq {α : Type} {c : α → List S} [Cells c] {h : List Blk} {s : S} {v : List α} (H : IsPre c h s v) : preOf c h s = some v := by
  have hx : ∃ v, IsPre c h s v := ⟨v, H⟩
  unfold preOf
  rw [dif_pos hx, IsPre.uniq (Classical.choose_spec hx) H]
theorem preOf_some {α : Type} {c : α → List S} {h : List Blk} {s : S} {v : List α} (e : preOf c h s = some v) : IsPre c h s v := by
  unfold preOf at e
  split at e
  · rename_i hx
    have := Classical.choose_spec hx
    rw [Option.some.injEq] at e
    rw [e] at this
    exact this
  · cases e
theorem IsArr.pre {α : Type} {c : α → List S} {h : List Blk} {s : S} {L : List α} (H : IsArr c h s L) : IsPre c h s L := by
  rcases H with H | ⟨j, c', st, room, e, e1, e2⟩
  · exact .inl H
  · exact .inr ⟨j, c', st, [], room, e, by rw [List.append_nil]; exact e1, e2⟩
theorem IsPre.app {α : Type} {c : α → List S} {h X : List Blk} {s : S} {L : List α} (H : IsPre c h s L) : IsPre c (h ++ X) s L := by
  rcases H with ⟨e0, rfl⟩ | ⟨j, c', st, M, room, rfl, e1, e2⟩
  · exact .inl ⟨e0, rfl⟩
  · exact .inr ⟨j, c', st, M, room, rfl, by rw [List.getElem?_append_left (List.getElem?_eq_some_iff.1 e1).1]; exact e1, e2⟩
instance : Cells Fd.c := ⟨⟨2, Fd.c_len⟩, fun x y e => by cases x; cases y; simpa [Fd.c] using e⟩
instance : Cells Ic := ⟨⟨1, Ic_len⟩, fun x y e => by simpa [Ic] using e⟩
instance : Cells Uc := ⟨⟨1, Uc_len⟩, fun x y e => by simpa [Uc] using e⟩

noncomputable def pack4G : List V → List Blk → Res
  | [.s s], h => match preOf Fd.c h s with
    | some F => .ob (F.length ≤ 9223372036854775807 ∧ ∀ f, f ∈ F → u64 f.v)
      (.br (packB F 0) (.ok (.tup [.s (.i .u64 (packV F 0)), .s (.i .i64 0)]) [] h) (.ok (.tup [.s (.i .u64 0), .s (.i .i64 10)]) [] h))
    | none => .bad
  | _, _ => .bad

theorem pack_loop {h : List Blk} {K : V → List Blk → Prop} {k n c : Nat} {B : Blk} {L : List Fd} (hk : h[k]? = some B) (hst0 : n ≠ 0 → B.st ≠ .dead) (hB : B.cells = arr Fd.c L) (hn : n ≤ L.length) (hn64 : n ≤ 9223372036854775807) (hu : ∀ f, f ∈ L.take n → u64 f.v)
    (hS : (packB (L.take n) 0 = true → K (.tup [.s (.i .u64 (packV (L.take n) 0)), .s (.i .i64 0)]) h) ∧ (packB (L.take n) 0 = false → K (.tup [.s (.i .u64 0), .s (.i .i64 10)]) h)) :
    holds W2.Γ h.length (finP df13.res K) (run W2 100 [.c df13.body] ([V.s (.sl (.g k) 0 n c)] ++ List.replicate 33 (.tup [])) [] h) := by
  obtain ⟨F, hF⟩ : ∃ F, F = L.take n := ⟨_, rfl⟩
  have hFl : F.length = n := by rw [hF]; simp; omega
  rw [← hF] at hS
  simp (config := { maxSteps := 10000000 }) only [run_drx, run_xd, run_xq, run_xg, run_xb, EV1, EV2, EV3, EV4, EV5, EV6, addT, istep, lenR_sl, lenR_ns, lenR_es, pickR, putD, bin1R, un1R, slcR, bnd, capsOf, fillP, S_plain, V_plain, V.cells, S_known, V_known, C.v, blk, setL, setH, eqS, eq1, cmpS, cmp1, isNil, popTo, killT, setT, leT, V.below, C.below, S_below, R.below, V.val, C.val, S_val, R.val, R.takes, vals, shows, List.any_cons, List.any_nil, unnamed, V.kill, V.names, C.names, S_names, R.names, List.set, List.replicate, ↓q_cond_t, ↓q_cond_f, if_true, if_false, reduceCtorEq, rvals, rvC, result, C_known, V.noL, C.noL, S_noL, R.noL, Option.map, true_and, and_true, ge_iff_le, gt_iff_lt, implies_true, q_ite_t, q_ite_f, beq_iff_eq, bne_iff_ne, q_ne, Nat.reduceAdd, Nat.reducePow, Int.reducePow, Nat.reduceMul, Nat.reduceSub, Nat.reduceLeDiff, Nat.reduceLT, Nat.reduceEqDiff, Int.reduceNeg, Int.reduceLT, Int.reduceLE, Int.reduceEq, Int.reduceNe, Int.reduceAdd, Int.reduceSub, Int.reduceMul, Int.reduceToNat, Int.reduceBEq, Int.reduceBNe, df13]
  refine loop_rule (α := Nat × Nat × Nat) [2, 3, 4, 5, 7, 8, 11, 12, 13, 14, 15, 16, 17, 18, 19, 20, 21, 22, 23, 24, 25, 26, 27, 28, 29, 30, 31, 32] (fun y => [(4, .s (.i .u64 y.2.2)), (5, .s (.i .i64 y.2.1)), (11, .s (.i .i64 y.1))]) (fun _ => []) (fun _ => h)
    (fun y => y.1 ≤ n ∧ y.2.1 ≤ 64 ∧ y.2.2 < 2 ^ y.2.1 ∧ packB F 0 = packB (F.drop y.1) y.2.1 ∧ packV F 0 = y.2.2 + packV (F.drop y.1) y.2.1) (fun y => n - y.1) (0, 0, 0) ⟨by simp, by simp, by simp, by simp, by simp⟩ (Wk.same rfl rfl ?_) ?_
  · simp (config := { maxSteps := 10000000 }) only [run_drx, run_xd, run_xq, run_xg, run_xb, EV1, EV2, EV3, EV4, EV5, EV6, addT, istep, lenR_sl, lenR_ns, lenR_es, pickR, putD, bin1R, un1R, slcR, bnd, capsOf, fillP, S_plain, V_plain, V.cells, S_known, V_known, C.v, blk, setL, setH, eqS, eq1, cmpS, cmp1, isNil, popTo, killT, setT, leT, V.below, C.below, S_below, R.below, V.val, C.val, S_val, R.val, R.takes, vals, shows, List.any_cons, List.any_nil, unnamed, V.kill, V.names, C.names, S_names, R.names, List.set, List.replicate, ↓q_cond_t, ↓q_cond_f, if_true, if_false, reduceCtorEq, rvals, rvC, result, C_known, V.noL, C.noL, S_noL, R.noL, Option.map, true_and, and_true, ge_iff_le, gt_iff_lt, implies_true, q_ite_t, q_ite_f, beq_iff_eq, bne_iff_ne, q_ne, Nat.reduceAdd, Nat.reducePow, Int.reducePow, Nat.reduceMul, Nat.reduceSub, Nat.reduceLeDiff, Nat.reduceLT, Nat.reduceEqDiff, Int.reduceNeg, Int.reduceLT, Int.reduceLE, Int.reduceEq, Int.reduceNe, Int.reduceAdd, Int.reduceSub, Int.reduceMul, Int.reduceToNat, Int.reduceBEq, Int.reduceBNe, Int.natCast_zero]
  · rintro X ⟨i, a, w⟩ ⟨hi, ha, hw, hpb, hpv⟩ IH
    simp only at hi ha hw hpb hpv ⊢
    rcases Nat.lt_or_ge i n with hlt | hge
    · have I := idx hlt hn64
      have hst := hst0 (by omega)
      have hiL : i < L.length := by omega
      have E : sub B.cells (i * 2) 2 = [.i .i64 (nth Fd.z L i).b, .i .u64 (nth Fd.z L i).v] := by
        rw [hB, arr_sub Fd.c_len hiL, nth_eq hiL]; rfl
      have hle : i * 2 + 2 ≤ B.cells.length := by rw [hB, arr_length Fd.c_len]; omega
      have hd : F.drop i = nth Fd.z L i :: F.drop (i + 1) := by
        rw [List.drop_eq_getElem_cons (by omega), nth_eq hiL]
        congr 1
        subst hF; simp
      obtain ⟨f, hf⟩ : ∃ f, f = nth Fd.z L i := ⟨_, rfl⟩
      rw [← hf] at E hd
      have hfu : u64 f.v := hu f (by rw [← hF]; exact List.mem_of_mem_drop (i := i) (by rw [hd]; exact List.mem_cons_self))
      obtain ⟨v, hv, hv'⟩ := hfu.nat
      have hw64 : u64 (w : Int) := u64_of (Nat.lt_of_lt_of_le hw (by have := pow_le64 (k := a) (n := 0) (by omega); simpa using this))
      rw [hd] at hpb hpv
      simp only [packB, packV] at hpb hpv
      cases hs : setB (a : Int) f.b f.v with
      | true =>
        have hs2 := hs
        simp only [setB, Bool.and_eq_true, decide_eq_true_eq] at hs2
        obtain ⟨k', m, e1, e2, h1, h2, h3⟩ := fieldB_nat hs2.1
        have : k' = a := by omega
        subst this
        have hvm : v < 2 ^ m := by have := hs2.2; rw [hv, e2] at this; simpa using this
        have hsv : setV (w : Int) (k' : Int) f.b f.v = ((w + 2 ^ k' * v : Nat) : Int) := by rw [e2, hv]; exact setV_low hw
        have hwr : IntKind.i64.wrap ((k' : Int) + f.b) = ((k' + m : Nat) : Int) := by rw [wrap64] <;> omega
        refine run_sound (Tab.ok_Γ _) 200 _ _ _ _ ?_
        simp (config := { maxSteps := 10000000 }) only [run_drx, run_xd, run_xq, run_xg, run_xb, EV1, EV2, EV3, EV4, EV5, EV6, addT, istep, lenR_sl, lenR_ns, lenR_es, pickR, putD, bin1R, un1R, slcR, bnd, capsOf, fillP, S_plain, V_plain, V.cells, S_known, V_known, C.v, blk, setL, setH, eqS, eq1, cmpS, cmp1, isNil, popTo, killT, setT, leT, V.below, C.below, S_below, R.below, V.val, C.val, S_val, R.val, R.takes, vals, shows, List.any_cons, List.any_nil, unnamed, V.kill, V.names, C.names, S_names, R.names, List.set, List.replicate, ↓q_cond_t, ↓q_cond_f, if_true, if_false, reduceCtorEq, rvals, rvC, result, C_known, V.noL, C.noL, S_noL, R.noL, Option.map, true_and, and_true, ge_iff_le, gt_iff_lt, implies_true, q_ite_t, q_ite_f, beq_iff_eq, bne_iff_ne, q_ne, Nat.reduceAdd, Nat.reducePow, Int.reducePow, Nat.reduceMul, Nat.reduceSub, Nat.reduceLeDiff, Nat.reduceLT, Nat.reduceEqDiff, Int.reduceNeg, Int.reduceLT, Int.reduceLE, Int.reduceEq, Int.reduceNe, Int.reduceAdd, Int.reduceSub, Int.reduceMul, Int.reduceToNat, Int.reduceBEq, Int.reduceBNe, I, E, hle, hk, hst, W2, setG, hw64, hfu, hs, hsv, hwr]
        refine IH (i + 1, k' + m, w + 2 ^ k' * v) _ (by simp only; omega) ⟨by simp only; omega, h3, low_step hw hvm, ?_, ?_⟩ (Wk.keep 0 rfl rfl ?_ ?_ rfl)
        · rw [hpb, hs, Bool.true_and, e2]; rfl
        · rw [hpv, hv, e2]
          simp only [Int.toNat_natCast]
          push_cast
          omega
        · simp (config := { maxSteps := 10000000 }) only [run_drx, run_xd, run_xq, run_xg, run_xb, EV1, EV2, EV3, EV4, EV5, EV6, addT, istep, lenR_sl, lenR_ns, lenR_es, pickR, putD, bin1R, un1R, slcR, bnd, capsOf, fillP, S_plain, V_plain, V.cells, S_known, V_known, C.v, blk, setL, setH, eqS, eq1, cmpS, cmp1, isNil, popTo, killT, setT, leT, V.below, C.below, S_below, R.below, V.val, C.val, S_val, R.val, R.takes, vals, shows, List.any_cons, List.any_nil, unnamed, V.kill, V.names, C.names, S_names, R.names, List.set, List.replicate, ↓q_cond_t, ↓q_cond_f, if_true, if_false, reduceCtorEq, rvals, rvC, result, C_known, V.noL, C.noL, S_noL, R.noL, Option.map, true_and, and_true, ge_iff_le, gt_iff_lt, implies_true, q_ite_t, q_ite_f, beq_iff_eq, bne_iff_ne, q_ne, Nat.reduceAdd, Nat.reducePow, Int.reducePow, Nat.reduceMul, Nat.reduceSub, Nat.reduceLeDiff, Nat.reduceLT, Nat.reduceEqDiff, Int.reduceNeg, Int.reduceLT, Int.reduceLE, Int.reduceEq, Int.reduceNe, Int.reduceAdd, Int.reduceSub, Int.reduceMul, Int.reduceToNat, Int.reduceBEq, Int.reduceBNe]
        · simp (config := { maxSteps := 10000000 }) only [run_drx, run_xd, run_xq, run_xg, run_xb, EV1, EV2, EV3, EV4, EV5, EV6, addT, istep, lenR_sl, lenR_ns, lenR_es, pickR, putD, bin1R, un1R, slcR, bnd, capsOf, fillP, S_plain, V_plain, V.cells, S_known, V_known, C.v, blk, setL, setH, eqS, eq1, cmpS, cmp1, isNil, popTo, killT, setT, leT, V.below, C.below, S_below, R.below, V.val, C.val, S_val, R.val, R.takes, vals, shows, List.any_cons, List.any_nil, unnamed, V.kill, V.names, C.names, S_names, R.names, List.set, List.replicate, ↓q_cond_t, ↓q_cond_f, if_true, if_false, reduceCtorEq, rvals, rvC, result, C_known, V.noL, C.noL, S_noL, R.noL, Option.map, true_and, and_true, ge_iff_le, gt_iff_lt, implies_true, q_ite_t, q_ite_f, beq_iff_eq, bne_iff_ne, q_ne, Nat.reduceAdd, Nat.reducePow, Int.reducePow, Nat.reduceMul, Nat.reduceSub, Nat.reduceLeDiff, Nat.reduceLT, Nat.reduceEqDiff, Int.reduceNeg, Int.reduceLT, Int.reduceLE, Int.reduceEq, Int.reduceNe, Int.reduceAdd, Int.reduceSub, Int.reduceMul, Int.reduceToNat, Int.reduceBEq, Int.reduceBNe]
      | false =>
        refine run_sound (Tab.ok_Γ _) 200 _ _ _ _ ?_
        simp (config := { maxSteps := 10000000 }) only [run_drx, run_xd, run_xq, run_xg, run_xb, EV1, EV2, EV3, EV4, EV5, EV6, addT, istep, lenR_sl, lenR_ns, lenR_es, pickR, putD, bin1R, un1R, slcR, bnd, capsOf, fillP, S_plain, V_plain, V.cells, S_known, V_known, C.v, blk, setL, setH, eqS, eq1, cmpS, cmp1, isNil, popTo, killT, setT, leT, V.below, C.below, S_below, R.below, V.val, C.val, S_val, R.val, R.takes, vals, shows, List.any_cons, List.any_nil, unnamed, V.kill, V.names, C.names, S_names, R.names, List.set, List.replicate, ↓q_cond_t, ↓q_cond_f, if_true, if_false, reduceCtorEq, rvals, rvC, result, C_known, V.noL, C.noL, S_noL, R.noL, Option.map, true_and, and_true, ge_iff_le, gt_iff_lt, implies_true, q_ite_t, q_ite_f, beq_iff_eq, bne_iff_ne, q_ne, Nat.reduceAdd, Nat.reducePow, Int.reducePow, Nat.reduceMul, Nat.reduceSub, Nat.reduceLeDiff, Nat.reduceLT, Nat.reduceEqDiff, Int.reduceNeg, Int.reduceLT, Int.reduceLE, Int.reduceEq, Int.reduceNe, Int.reduceAdd, Int.reduceSub, Int.reduceMul, Int.reduceToNat, Int.reduceBEq, Int.reduceBNe, I, E, hle, hk, hst, W2, setG, hw64, hfu, hs]
        rw [hs, Bool.false_and] at hpb
        exact hS.2 hpb
    · have : i = n := by omega
      subst this
      refine run_sound (Tab.ok_Γ _) 100 _ _ _ _ ?_
      simp (config := { maxSteps := 10000000 }) only [run_drx, run_xd, run_xq, run_xg, run_xb, EV1, EV2, EV3, EV4, EV5, EV6, addT, istep, lenR_sl, lenR_ns, lenR_es, pickR, putD, bin1R, un1R, slcR, bnd, capsOf, fillP, S_plain, V_plain, V.cells, S_known, V_known, C.v, blk, setL, setH, eqS, eq1, cmpS, cmp1, isNil, popTo, killT, setT, leT, V.below, C.below, S_below, R.below, V.val, C.val, S_val, R.val, R.takes, vals, shows, List.any_cons, List.any_nil, unnamed, V.kill, V.names, C.names, S_names, R.names, List.set, List.replicate, ↓q_cond_t, ↓q_cond_f, if_true, if_false, reduceCtorEq, rvals, rvC, result, C_known, V.noL, C.noL, S_noL, R.noL, Option.map, true_and, and_true, ge_iff_le, gt_iff_lt, implies_true, q_ite_t, q_ite_f, beq_iff_eq, bne_iff_ne, q_ne, Nat.reduceAdd, Nat.reducePow, Int.reducePow, Nat.reduceMul, Nat.reduceSub, Nat.reduceLeDiff, Nat.reduceLT, Nat.reduceEqDiff, Int.reduceNeg, Int.reduceLT, Int.reduceLE, Int.reduceEq, Int.reduceNe, Int.reduceAdd, Int.reduceSub, Int.reduceMul, Int.reduceToNat, Int.reduceBEq, Int.reduceBNe, Int.lt_irrefl]
      have hdn : F.drop i = [] := List.drop_eq_nil_of_le (by omega)
      rw [hdn] at hpb hpv
      have := hS.1 hpb
      rw [hpv] at this
      simpa [packV] using this

theorem pack4_snd : Snd Tryd.prog 13 (FSpec.of pack4G) := snd_run W2_snd mixed Tryd.func13 dc13 100 fun args h K _ hS => by
  unfold pack4G at hS
  split at hS
  · rename_i s
    split at hS
    · rename_i F hF0
      have hP := preOf_some hF0
      obtain ⟨⟨hn64, hu⟩, hS⟩ := hS
      simp only [spec_br, spec_ok] at hS
      have nil : F = [] → K (.tup [.s (.i .u64 0), .s (.i .i64 0)]) h := fun e => by
        subst e
        simpa [packV] using hS.1 rfl
      rcases hP with ⟨rfl | ⟨a, c', rfl⟩, hnil⟩ | ⟨j, c', st, M, room, rfl, e1, e2⟩
      · have hS := nil hnil
        simp (config := { maxSteps := 10000000 }) only [run_drx, run_xd, run_xq, run_xg, run_xb, EV1, EV2, EV3, EV4, EV5, EV6, addT, istep, lenR_sl, lenR_ns, lenR_es, pickR, putD, bin1R, un1R, slcR, bnd, capsOf, fillP, S_plain, V_plain, V.cells, S_known, V_known, C.v, blk, setL, setH, eqS, eq1, cmpS, cmp1, isNil, popTo, killT, setT, leT, V.below, C.below, S_below, R.below, V.val, C.val, S_val, R.val, R.takes, vals, shows, List.any_cons, List.any_nil, unnamed, V.kill, V.names, C.names, S_names, R.names, List.set, List.replicate, ↓q_cond_t, ↓q_cond_f, if_true, if_false, reduceCtorEq, rvals, rvC, result, C_known, V.noL, C.noL, S_noL, R.noL, Option.map, true_and, and_true, ge_iff_le, gt_iff_lt, implies_true, q_ite_t, q_ite_f, beq_iff_eq, bne_iff_ne, q_ne, Nat.reduceAdd, Nat.reducePow, Int.reducePow, Nat.reduceMul, Nat.reduceSub, Nat.reduceLeDiff, Nat.reduceLT, Nat.reduceEqDiff, Int.reduceNeg, Int.reduceLT, Int.reduceLE, Int.reduceEq, Int.reduceNe, Int.reduceAdd, Int.reduceSub, Int.reduceMul, Int.reduceToNat, Int.reduceBEq, Int.reduceBNe, df13]
        refine loop_rule (α := Unit) [] (fun _ => []) (fun _ => []) (fun _ => h) (fun _ => True) (fun _ => 0) () trivial .refl ?_
        rintro X _ _ _
        refine run_sound (Tab.ok_Γ _) 100 _ _ _ _ ?_
        simp (config := { maxSteps := 10000000 }) only [run_drx, run_xd, run_xq, run_xg, run_xb, EV1, EV2, EV3, EV4, EV5, EV6, addT, istep, lenR_sl, lenR_ns, lenR_es, pickR, putD, bin1R, un1R, slcR, bnd, capsOf, fillP, S_plain, V_plain, V.cells, S_known, V_known, C.v, blk, setL, setH, eqS, eq1, cmpS, cmp1, isNil, popTo, killT, setT, leT, V.below, C.below, S_below, R.below, V.val, C.val, S_val, R.val, R.takes, vals, shows, List.any_cons, List.any_nil, unnamed, V.kill, V.names, C.names, S_names, R.names, List.set, List.replicate, ↓q_cond_t, ↓q_cond_f, if_true, if_false, reduceCtorEq, rvals, rvC, result, C_known, V.noL, C.noL, S_noL, R.noL, Option.map, true_and, and_true, ge_iff_le, gt_iff_lt, implies_true, q_ite_t, q_ite_f, beq_iff_eq, bne_iff_ne, q_ne, Nat.reduceAdd, Nat.reducePow, Int.reducePow, Nat.reduceMul, Nat.reduceSub, Nat.reduceLeDiff, Nat.reduceLT, Nat.reduceEqDiff, Int.reduceNeg, Int.reduceLT, Int.reduceLE, Int.reduceEq, Int.reduceNe, Int.reduceAdd, Int.reduceSub, Int.reduceMul, Int.reduceToNat, Int.reduceBEq, Int.reduceBNe, Int.lt_irrefl]
        exact hS
      · have hS := nil hnil
        simp (config := { maxSteps := 10000000 }) only [run_drx, run_xd, run_xq, run_xg, run_xb, EV1, EV2, EV3, EV4, EV5, EV6, addT, istep, lenR_sl, lenR_ns, lenR_es, pickR, putD, bin1R, un1R, slcR, bnd, capsOf, fillP, S_plain, V_plain, V.cells, S_known, V_known, C.v, blk, setL, setH, eqS, eq1, cmpS, cmp1, isNil, popTo, killT, setT, leT, V.below, C.below, S_below, R.below, V.val, C.val, S_val, R.val, R.takes, vals, shows, List.any_cons, List.any_nil, unnamed, V.kill, V.names, C.names, S_names, R.names, List.set, List.replicate, ↓q_cond_t, ↓q_cond_f, if_true, if_false, reduceCtorEq, rvals, rvC, result, C_known, V.noL, C.noL, S_noL, R.noL, Option.map, true_and, and_true, ge_iff_le, gt_iff_lt, implies_true, q_ite_t, q_ite_f, beq_iff_eq, bne_iff_ne, q_ne, Nat.reduceAdd, Nat.reducePow, Int.reducePow, Nat.reduceMul, Nat.reduceSub, Nat.reduceLeDiff, Nat.reduceLT, Nat.reduceEqDiff, Int.reduceNeg, Int.reduceLT, Int.reduceLE, Int.reduceEq, Int.reduceNe, Int.reduceAdd, Int.reduceSub, Int.reduceMul, Int.reduceToNat, Int.reduceBEq, Int.reduceBNe, df13]
        refine loop_rule (α := Unit) [] (fun _ => []) (fun _ => []) (fun _ => h) (fun _ => True) (fun _ => 0) () trivial .refl ?_
        rintro X _ _ _
        refine run_sound (Tab.ok_Γ _) 100 _ _ _ _ ?_
        simp (config := { maxSteps := 10000000 }) only [run_drx, run_xd, run_xq, run_xg, run_xb, EV1, EV2, EV3, EV4, EV5, EV6, addT, istep, lenR_sl, lenR_ns, lenR_es, pickR, putD, bin1R, un1R, slcR, bnd, capsOf, fillP, S_plain, V_plain, V.cells, S_known, V_known, C.v, blk, setL, setH, eqS, eq1, cmpS, cmp1, isNil, popTo, killT, setT, leT, V.below, C.below, S_below, R.below, V.val, C.val, S_val, R.val, R.takes, vals, shows, List.any_cons, List.any_nil, unnamed, V.kill, V.names, C.names, S_names, R.names, List.set, List.replicate, ↓q_cond_t, ↓q_cond_f, if_true, if_false, reduceCtorEq, rvals, rvC, result, C_known, V.noL, C.noL, S_noL, R.noL, Option.map, true_and, and_true, ge_iff_le, gt_iff_lt, implies_true, q_ite_t, q_ite_f, beq_iff_eq, bne_iff_ne, q_ne, Nat.reduceAdd, Nat.reducePow, Int.reducePow, Nat.reduceMul, Nat.reduceSub, Nat.reduceLeDiff, Nat.reduceLT, Nat.reduceEqDiff, Int.reduceNeg, Int.reduceLT, Int.reduceLE, Int.reduceEq, Int.reduceNe, Int.reduceAdd, Int.reduceSub, Int.reduceMul, Int.reduceToNat, Int.reduceBEq, Int.reduceBNe, Int.lt_irrefl]
        exact hS
      · have ht : (F ++ M).take F.length = F := by simp
        exact pack_loop (L := F ++ M) e1 e2 rfl (by simp) hn64 (by rw [ht]; exact hu) (by rw [ht]; exact hS)
    · exact hS.elim
  · exact hS.elim

noncomputable def unpack4G : List V → List Blk → Res
  | [.s (.i .u64 w), .s s], h => match preOf Ic h s with
    | some L => .ob (u64 w ∧ L.length ≤ 9223372036854775807)
      (.br (unpackB w L 0) (wordsR (unpackV w L 0) (pairV 0) h) (.ok (.tup [.s .ns, .s (.i .i64 10)]) [] h))
    | none => .bad
  | _, _ => .bad
end Go.Proofs.YtmchhjjdlcmhoaaDoor

