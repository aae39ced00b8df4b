/- WordFields, WordBits, WordKeeps: for every input the law's Go function answers true, and its arguments read behind the call as before. math/bits.deBruijn64tab reads as the program's text lays it. -/
import Derived.Test.YtmchhjjdlcmhoaaDoorZ18
import Derived.JoinedCond
import Derived.SizedLaws
import Derived.KernelRfl
import Derived.Test.YtmchhjjdlcmhoaaDoorRows
import Derived.LaidMore
import Derived.Lib.LaidTab
import Derived.Stop.Joined
import Derived.Test.YtmchhjjdlcmhoaaDoorTie
import Derived.Test.YtmchhjjdlcmhoaaDoorCards
import Derived.SevenTiedAt
/- A statement's row: a law whose small code answers true over whatever read-only arguments holds. -/
namespace Go.D
set_option linter.all false
variable [Tabs]
open Go.ChangeShapes Go.WideShapes

/-- A parameter: is it an aggregate; its cells. -/
def paramTy (P : Program) (d : Nat) (t : TypeId) : Option (Bool × List TY) :=
  match tyOf P d t with
  | some l => match P.underlying t with
    | some (.struct _) => some (true, l)
    | some (.array _ _) => some (true, l)
    | some (.int _) => some (false, l)
    | some .bool => some (false, l)
    | some (.slice _) => some (false, l)
    | _ => none
  | none => none
def paramTys (P : Program) (d : Nat) : List TypeId → Option (List (Bool × List TY))
  | [] => some []
  | t :: ts => match paramTy P d t, paramTys P d ts with
    | some x, some l => some (x :: l)
    | _, _ => none

/-- A parameter's value. -/
def hasV (h : List Blk) : Bool × List TY → V → Prop
  | (true, l), v => ∃ ss, v = .agg ss ∧ hasTs h l ss
  | (false, l), v => ∃ s, v = .s s ∧ hasTs h l [s]
def hasVs (h : List Blk) : List (Bool × List TY) → List V → Prop
  | [], [] => True
  | t :: ts, v :: vs => hasV h t v ∧ hasVs h ts vs
  | _, _ => False

theorem hasV_mono {h h' : List Blk} {t : Bool × List TY} {v : V} (H : hasV h t v) : hasV (h ++ h') t v := by
  obtain ⟨b, l⟩ := t
  cases b with
  | true => obtain ⟨ss, e, H⟩ := H; exact ⟨ss, e, hasTs_mono H⟩
  | false => obtain ⟨s, e, H⟩ := H; exact ⟨s, e, hasTs_mono H⟩

section
variable {H : Type} {enc : TypeId × Value → H} {P : Program} {w : World}

theorem V.tr_old {σ σ' : Sg} {n : Nat} (hA : ∀ k, k < n → σ' (.g k) = σ (.g k)) {v : V} (hv : v.val n 0 = true) : v.tr σ' = v.tr σ :=
  V.tr_congr (n := n) (m := 0) (fun r hr => by
    cases r with
    | g k => exact hA k (by simpa [R.val] using hr)
    | l k => simp [R.val] at hr) v hv

theorem open_arg {r : Reach} {base : Nat} {t : TypeId} {v : Value} {d : DataW H} {p : List MemPlace} {D : Nat} {x : Bool × List TY} {sp : Nat → Bool} {held : Bool} {b0 : Nat}
    (hok : Value.okWide P w r base t v) (ht : DataW.Trod enc P w b0 sp held t v d p) (hx : paramTy P D t = some x) (hw : ∀ k, k ∈ d.weights P t → k ≤ reachBytes) :
    ∀ (σ : Sg) (h : List Blk), RO σ h w → ∃ (h' : List Blk) (σ' : Sg) (u : V), (∀ k, k < h.length → σ' (.g k) = σ (.g k)) ∧ RO σ' (h ++ h') w ∧ hasV (h ++ h') x u ∧ u.tr σ' = v ∧ u.val (h ++ h').length 0 = true ∧ u.known = true := by
  obtain ⟨n, ht⟩ := ht
  unfold paramTy at hx
  split at hx
  · rename_i l hl
    have agg : ∀ cs, v = .agg cs → Row.okWide P w r base t cs → x = (true, l) → ∀ (σ : Sg) (h : List Blk), RO σ h w → ∃ (h' : List Blk) (σ' : Sg) (u : V), (∀ k, k < h.length → σ' (.g k) = σ (.g k)) ∧ RO σ' (h ++ h') w ∧ hasV (h ++ h') x u ∧ u.tr σ' = v ∧ u.val (h ++ h').length 0 = true ∧ u.known = true := by
      intro cs hv hr hx σ h hR
      subst hv; subst hx
      obtain ⟨h', σ', ss, a1, a2, a3, a4, a5, a6⟩ := open_trod D n t cs.toList (d, p) l ht hl hw σ h hR
      refine ⟨h', σ', .agg ss, a1, a2, ⟨ss, rfl, a3⟩, ?_, a5, a6⟩
      simp only [V.tr, trs, a4, Array.toArray_toList]
    have one : v.cells = #[v] → x = (false, l) → ∀ (σ : Sg) (h : List Blk), RO σ h w → ∃ (h' : List Blk) (σ' : Sg) (u : V), (∀ k, k < h.length → σ' (.g k) = σ (.g k)) ∧ RO σ' (h ++ h') w ∧ hasV (h ++ h') x u ∧ u.tr σ' = v ∧ u.val (h ++ h').length 0 = true ∧ u.known = true := by
      intro hc hx σ h hR
      subst hx
      rw [hc] at ht
      obtain ⟨h', σ', ss, a1, a2, a3, a4, a5, a6⟩ := open_trod D n t [v] (d, p) l ht hl hw σ h hR
      match ss, a4 with
      | [s], a4 =>
        simp only [List.map_cons, List.map_nil, List.cons.injEq, and_true] at a4
        refine ⟨h', σ', .s s, a1, a2, ⟨s, rfl, a3⟩, a4, ?_, ?_⟩
        · simpa [vals, V.val] using a5
        · simpa [known_cons, known_nil] using a6
    unfold Value.okWide at hok
    split at hx <;> rename_i hu <;> simp only [hu, Option.some.injEq] at hok hx
    · obtain ⟨cs, hv, _, hr⟩ := hok; exact agg cs hv hr hx.symm
    · obtain ⟨cs, hv, _, hr⟩ := hok; exact agg cs hv hr hx.symm
    · refine one ?_ hx.symm
      unfold Cell.okWide at hok; rw [hu] at hok
      cases v <;> first | rfl | (simp [Cell.ok, hu] at hok)
    · refine one ?_ hx.symm
      unfold Cell.okWide at hok; rw [hu] at hok
      cases v <;> first | rfl | (simp [Cell.ok, hu] at hok)
    · refine one ?_ hx.symm
      unfold Cell.okWide at hok; rw [hu] at hok
      cases v <;> first | rfl | (simp [Cell.ok, hu] at hok)
    · cases hx
  · cases hx

theorem open_args {r : Reach} {base D : Nat} {sp : Nat → Bool} {held : Bool} {b0 : Nat} : ∀ (ts : List TypeId) (vs : List Value) (ds : List (DataW H)) (p : List MemPlace) (xs : List (Bool × List TY)),
    (∀ (j : Nat) t v, ts[j]? = some t → vs[j]? = some v → Value.okWide P w r base t v) → DataW.TrodAll enc P w b0 sp held ts vs ds p → paramTys P D ts = some xs → (∀ (j : Nat) t d, ts[j]? = some t → ds[j]? = some d → ∀ k, k ∈ d.weights P t → k ≤ reachBytes) →
    ∀ (σ : Sg) (h : List Blk), RO σ h w → ∃ (h' : List Blk) (σ' : Sg) (us : List V), (∀ k, k < h.length → σ' (.g k) = σ (.g k)) ∧ RO σ' (h ++ h') w ∧ hasVs (h ++ h') xs us ∧ us.map (V.tr σ') = vs ∧ us.all (V.val (h ++ h').length 0) = true ∧ us.all V.known = true
  | [], vs, ds, p, xs, _, ht, hx, _ => fun σ h hR => by
    obtain ⟨rfl, rfl, rfl⟩ := trodAll_nil ht
    simp only [paramTys, Option.some.injEq] at hx
    subst hx
    exact ⟨[], σ, [], fun _ _ => rfl, by simpa using hR, trivial, rfl, rfl, rfl⟩
  | t :: ts, vs, ds, p, xs, hok, ht, hx, hw => fun σ h hR => by
    obtain ⟨v, vs', d, ds', p', q, rfl, rfl, rfl, h0, h1⟩ := trodAll_cons ht
    simp only [paramTys] at hx
    split at hx
    · rename_i x l hx1 hx2
      cases hx
      obtain ⟨ha, σa, u, a1, a2, a3, a4, a5, a6⟩ := open_arg (hok 0 t v rfl rfl) h0 hx1 (hw 0 t d rfl rfl) σ h hR
      obtain ⟨hb, σb, us, b1, b2, b3, b4, b5, b6⟩ := open_args ts vs' ds' q l (fun j t v ht hv => hok (j + 1) t v (by simpa using ht) (by simpa using hv)) h1 hx2 (fun j t d ht hd => hw (j + 1) t d (by simpa using ht) (by simpa using hd)) σa (h ++ ha) a2
      refine ⟨ha ++ hb, σb, u :: us, fun k hk => ?_, by rw [← List.append_assoc]; exact b2, ?_, ?_, ?_, ?_⟩
      · rw [b1 k (by simp; omega), a1 k hk]
      · rw [← List.append_assoc]; exact ⟨hasV_mono a3, b3⟩
      · rw [List.map_cons, b4, V.tr_old b1 a5, a4]
      · rw [← List.append_assoc, List.all_cons, Bool.and_eq_true]
        exact ⟨V.val_mono (by simp) (Nat.le_refl _) a5, b5⟩
      · rw [List.all_cons, Bool.and_eq_true]; exact ⟨a6, b6⟩
    · cases hx
end

/-- A law's spec: over whatever arguments it answers true. -/
def Law (S : FSpec) (xs : List (Bool × List TY)) : Prop := ∀ (h : List Blk) (us : List V), hasVs h xs us → clean h.length h = true → S us h fun v _ => v = .s (.b true)

theorem law_calls {P : Program} {H : Type} {enc : TypeId × Value → H} {W : World} {f : FuncId} {S : FSpec} {r : Reach} {base D : Nat} {ts : List TypeId} {args : Array Value} {ds : List (DataW H)} {p : List MemPlace} {xs : List (Bool × List TY)} {sp : Nat → Bool} {held : Bool} {b0 : Nat}
    (hT : ∀ x, x ∈ Tabs.cells → W.cell? ⟨x.1, x.2.1, none⟩ = some x.2.2 ∧ x.1 < W.heap.size) (hS : Snd P f S) (hL : Law S xs) (hok : ∀ (j : Nat) t v, ts[j]? = some t → args[j]? = some v → Value.okWide P W r base t v) (ht : DataW.TrodAll enc P W b0 sp held ts args.toList ds p) (hx : paramTys P D ts = some xs) (hw : ∀ (j : Nat) t d, ts[j]? = some t → ds[j]? = some d → ∀ k, k ∈ d.weights P t → k ≤ reachBytes) :
    Calls P f args W fun e W' => e = .returned (.bool true) ∧ Still W W' := by
  have hR0 : RO (fun _ => (0, 0)) [] W := ⟨fun k B hB => by simp at hB, fun B hB => by cases hB⟩
  obtain ⟨h, σ, us, _, hR, hV, he, hval, hk⟩ := open_args ts args.toList ds p xs (fun j t v h1 h2 => hok j t v h1 (by simpa using h2)) ht hx hw _ [] hR0
  simp only [List.nil_append] at hR hV hval
  have hcl : clean h.length h = true := by
    simp only [clean, List.all_eq_true]
    exact hR.val
  have hc := hS σ h W us _ hR.sim (fun x hx => ⟨(hT x hx).1, (hT x hx).2, fun k B hB hst => absurd hst (hR.ok k B hB).1⟩) hval hk (hL h us hV hcl)
  have ha : (us.map (V.tr σ)).toArray = args := by rw [he]
  rw [ha] at hc
  refine hc.mono fun e W' ⟨v, h', σ', e1, _, _, hI, e2⟩ => ?_
  subst e2
  refine ⟨e1, hI.kept.same.os, hI.kept.same.output, fun b hb => hI.kept.keep b hb fun k B hB hst => ?_⟩
  exact absurd hst (hR.ok k B hB).1

/-! ### the row -/
def slicesFull (P : Program) : Bool := (List.range P.types.size).all fun t => match P.underlying t with
  | some (.slice e) => decide (0 < P.cellsOf e)
  | _ => true

theorem trodAll_length {H : Type} {enc : TypeId × Value → H} {P : Program} {w : World} {b0 : Nat} {sp : Nat → Bool} {held : Bool} : ∀ {ts : List TypeId} {vs : List Value} {ds : List (DataW H)} {p : List MemPlace}, DataW.TrodAll enc P w b0 sp held ts vs ds p → ds.length = ts.length
  | [], vs, ds, p, h => by obtain ⟨_, rfl, _⟩ := trodAll_nil h; rfl
  | t :: ts, vs, ds, p, h => by
    obtain ⟨v, vs', d, ds', p', q, rfl, rfl, rfl, _, h1⟩ := trodAll_cons h
    simp [trodAll_length h1]

/-- What is asked of the program and the law's function, by reckoning. -/
structure RowOk (P : Program) (f : FuncId) (fn : Func) (s : ChangeSpec) (xs : List (Bool × List TY)) : Prop where
  own : ownKnob P.godebug = none
  noTabs : Tabs.cells = []
  noInit : P.inits.idxOf? f = none
  isf : P.funcs[f]? = some fn
  laid : laidOutB P = true
  rowed : mapsRowed P = true
  full : slicesFull P = true
  params : fn.params.toList.all (fun t => decide (t < P.types.size)) = true
  vars : s.vars = []
  ret : ∃ bt, fn.resultTypes = #[bt] ∧ P.underlying bt = some .bool
  spec : ∀ (H : Type) (ds : List (DataW H)), ds.length = fn.params.toList.length → s.fn H ds = { results := [.lit (.bool true)], args := ds }
  tys : ∃ D, paramTys P D fn.params.toList = some xs

theorem RowOk.calls {P : Program} {f : FuncId} {fn : Func} {s : ChangeSpec} {xs : List (Bool × List TY)} (R : RowOk P f fn s xs) {S : FSpec} (hS : Snd P f S) (hL : Law S xs)
    {H : Type} {enc : TypeId × Value → H} {W : World} {base : Nat} {r : Reach} {args : Array Value} {ds gs : List (DataW H)} {before : List MemPlace} {apart fresh handsOn : Bool}
    (hval : ∀ (j : Nat) t v, fn.params[j]? = some t → args[j]? = some v → Value.okWide P W r base t v) (hW : DataW.Whole enc P fn.params.toList s.vars apart W args.toList ds gs before)
    (hZ : (DataW.weightsEach P (fn.params.toList ++ s.plain.varTypes P) (ds ++ gs)).all (· ≤ reachBytes) = true) :
    Calls P f args W fun e W' => ∃ v, e = .returned v ∧ s.post enc P fn apart fresh handsOn false W args v W' := by
  obtain ⟨D, hx⟩ := R.tys
  obtain ⟨bt, hrt, hbt⟩ := R.ret
  obtain ⟨p, q, hA, hV, hb, hfz, hnd⟩ := id hW
  have hc := law_calls (fun x hx => by rw [R.noTabs] at hx; cases hx) hS hL (fun j t v h1 h2 => hval j t v (by simpa using h1) h2) hA hx (fun j t d ht hd k hk => by
    have h1 : (fn.params.toList ++ s.plain.varTypes P)[j]? = some t := by rw [List.getElem?_append_left (List.getElem?_eq_some_iff.1 ht).1]; exact ht
    have h2 : (ds ++ gs)[j]? = some d := by rw [List.getElem?_append_left (List.getElem?_eq_some_iff.1 hd).1]; exact hd
    have h3 := List.all_eq_true.1 hZ _ (DataW.weights_mem_each h1 h2 k hk)
    simpa using h3)
  refine hc.mono fun e W' ⟨he, hst⟩ => ⟨_, he, ?_⟩
  have hgs : gs = [] := by
    rw [R.vars] at hV; exact (trodVars_none hV).1
  subst hgs
  refine law_post (kids_rows R.laid R.rowed) (fun t e ht hu => ?_) (fun t ht => ?_) R.vars hbt hrt ?_ hW hst
  · have := R.full
    simp only [slicesFull, List.all_eq_true, List.mem_range] at this
    have := this t ht
    rw [hu] at this
    simpa using this
  · have := R.params
    simp only [List.all_eq_true, decide_eq_true_eq] at this
    exact this t ht
  · simp only [List.append_nil]
    exact R.spec H ds (trodAll_length hA)

theorem RowOk.lifted {C : Checked} {f : FuncId} {fn : Func} {s : ChangeSpec} {xs : List (Bool × List TY)} (R : RowOk C.prog f fn s xs) {S : FSpec} (hS : Snd C.prog f S) (hL : Law S xs) {os : Os} (started : os.Started) {H : Type} {enc : TypeId × Value → H} {conds : List PathCond} {apart fresh handsOn : Bool}
    (witness : ∃ (w : World) (tape : Tape) (i : Input), w.os = os ∧ (w.forCall tape i).Shaped C.prog ∧ i.vars = [] ∧ Input.okWide C.prog (w.forCall tape i) .any w.heap.size f i ∧
      s.pre6 enc C.prog fn conds apart (w.forCall tape i).memory i.args ∧ ({} : Assume).holds C.prog (lone (Frame.enter C.prog f i.args .normal) [] (w.forCall tape i))) :
    ReturnsInHanded {} C os f .any (s.pre6 enc C.prog fn conds apart) (s.post enc C.prog fn apart fresh handsOn false) :=
  returnsInHanded_of_change_sized R.own started R.noInit R.isf witness fun _ _ _ _ _ _ hval hW _ hZ _ => R.calls hS hL hval hW hZ

end Go.D

/- The facts of the rows of this seat. -/
namespace Go.Proofs.YtmchhjjdlcmhoaaDoor
open Go.D
set_option linter.all false
set_option maxRecDepth 100000

theorem own : ownKnob Tryd.prog.godebug = none := by kernel_rfl
theorem laid : laidOutB Tryd.prog = true := by kernel_rfl
theorem rowed : mapsRowed Tryd.prog = true := by kernel_rfl
theorem full : slicesFull Tryd.prog = true := by kernel_rfl

theorem hasTs_cons {h : List Blk} {t : TY} {ts : List TY} {ss : List S} (H : hasTs h (t :: ts) ss) : ∃ s ss', ss = s :: ss' ∧ hasT h t s ∧ hasTs h ts ss' := by
  cases ss with
  | nil => exact H.elim
  | cons s ss => exact ⟨s, ss, rfl, H.1, H.2⟩
theorem hasTs_nil {h : List Blk} {ss : List S} (H : hasTs h [] ss) : ss = [] := by
  cases ss with
  | nil => rfl
  | cons s ss => exact H.elim
/-- The arguments, one by one. -/
theorem law1 {h : List Blk} {x : Bool × List TY} {us : List V} (H : hasVs h [x] us) : ∃ u, us = [u] ∧ hasV h x u := by
  match us, H with
  | [u], H => exact ⟨u, rfl, H.1⟩
  | [], H => exact H.elim
  | _ :: _ :: _, H => exact H.2.elim
theorem law3 {h : List Blk} {x y z : Bool × List TY} {us : List V} (H : hasVs h [x, y, z] us) : ∃ u v w, us = [u, v, w] ∧ hasV h x u ∧ hasV h y v ∧ hasV h z w := by
  match us, H with
  | [u, v, w], H => exact ⟨u, v, w, rfl, H.1, H.2.1, H.2.2.1⟩
  | [], H => exact H.elim
  | [_], H => exact H.2.elim
  | [_, _], H => exact H.2.2.elim
  | _ :: _ :: _ :: _ :: _, H => exact H.2.2.2.elim
theorem hasV_int {h : List Blk} {k : IntKind} {v : V} (H : hasV h (false, [.int k]) v) : ∃ n, v = .s (.i k n) ∧ (Lit.int k n).wf = true := by
  obtain ⟨s, rfl, ⟨n, rfl, hn⟩, _⟩ := H
  exact ⟨n, rfl, hn⟩

end Go.Proofs.YtmchhjjdlcmhoaaDoor

/- A row whose law reads variables of the program: what they read as when the call begins is a condition of the row. -/
namespace Go.D
set_option linter.all false
variable [Tabs]
open Go.ChangeShapes Go.WideShapes

/-- A cell that is there lies in the heap. -/
theorem cell_lt {w : World} {b o : Nat} {v : Value} (h : w.cell? ⟨b, o, none⟩ = some v) : b < w.heap.size := by
  rcases Nat.lt_or_ge b w.heap.size with h1 | h1
  · exact h1
  · simp [World.cell?, h1] at h

/-- What is asked of the program and the law's function, by reckoning. -/
structure RowOkL (P : Program) (f : FuncId) (fn : Func) (s : ChangeSpec) (xs : List (Bool × List TY)) (L : List (String × DataW Unit)) : Prop where
  own : ownKnob P.godebug = none
  tabs : ∀ W : World, laidMetH P L W → ∀ x, x ∈ Tabs.cells → W.cell? ⟨x.1, x.2.1, none⟩ = some x.2.2 ∧ x.1 < W.heap.size
  noInit : P.inits.idxOf? f = none
  isf : P.funcs[f]? = some fn
  laid : laidOutB P = true
  rowed : mapsRowed P = true
  full : slicesFull P = true
  params : fn.params.toList.all (fun t => decide (t < P.types.size)) = true
  vars : s.vars = []
  ret : ∃ bt, fn.resultTypes = #[bt] ∧ P.underlying bt = some .bool
  spec : ∀ (H : Type) (ds : List (DataW H)), ds.length = fn.params.toList.length → s.fn H ds = { results := [.lit (.bool true)], args := ds }
  tys : ∃ D, paramTys P D fn.params.toList = some xs

theorem RowOkL.calls {P : Program} {f : FuncId} {fn : Func} {s : ChangeSpec} {xs : List (Bool × List TY)} {L : List (String × DataW Unit)} (R : RowOkL P f fn s xs L) {S : FSpec} (hS : Snd P f S) (hL : Law S xs)
    {H : Type} {enc : TypeId × Value → H} {W : World} {base : Nat} {r : Reach} {args : Array Value} {ds gs : List (DataW H)} {before : List MemPlace} {apart fresh handsOn : Bool}
    (hW0 : laidMetH P L W) (hval : ∀ (j : Nat) t v, fn.params[j]? = some t → args[j]? = some v → Value.okWide P W r base t v) (hW : DataW.Whole enc P fn.params.toList s.vars apart W args.toList ds gs before)
    (hZ : (DataW.weightsEach P (fn.params.toList ++ s.plain.varTypes P) (ds ++ gs)).all (· ≤ reachBytes) = true) :
    Calls P f args W fun e W' => ∃ v, e = .returned v ∧ s.post enc P fn apart fresh handsOn false W args v W' := by
  obtain ⟨D, hx⟩ := R.tys
  obtain ⟨bt, hrt, hbt⟩ := R.ret
  obtain ⟨p, q, hA, hV, hb, hfz, hnd⟩ := id hW
  have hc := law_calls (R.tabs W hW0) hS hL (fun j t v h1 h2 => hval j t v (by simpa using h1) h2) hA hx (fun j t d ht hd k hk => by
    have h1 : (fn.params.toList ++ s.plain.varTypes P)[j]? = some t := by rw [List.getElem?_append_left (List.getElem?_eq_some_iff.1 ht).1]; exact ht
    have h2 : (ds ++ gs)[j]? = some d := by rw [List.getElem?_append_left (List.getElem?_eq_some_iff.1 hd).1]; exact hd
    have h3 := List.all_eq_true.1 hZ _ (DataW.weights_mem_each h1 h2 k hk)
    simpa using h3)
  refine hc.mono fun e W' ⟨he, hst⟩ => ⟨_, he, ?_⟩
  have hgs : gs = [] := by
    rw [R.vars] at hV; exact (trodVars_none hV).1
  subst hgs
  refine law_post (kids_rows R.laid R.rowed) (fun t e ht hu => ?_) (fun t ht => ?_) R.vars hbt hrt ?_ hW hst
  · have := R.full
    simp only [slicesFull, List.all_eq_true, List.mem_range] at this
    have := this t ht
    rw [hu] at this
    simpa using this
  · have := R.params
    simp only [List.all_eq_true, decide_eq_true_eq] at this
    exact this t ht
  · simp only [List.append_nil]
    exact R.spec H ds (trodAll_length hA)

theorem RowOkL.lifted {C : Checked} {f : FuncId} {fn : Func} {s : ChangeSpec} {xs : List (Bool × List TY)} {L : List (String × DataW Unit)} (R : RowOkL C.prog f fn s xs L) {S : FSpec} (hS : Snd C.prog f S) (hL : Law S xs) {os : Os} (started : os.Started) {H : Type} {enc : TypeId × Value → H} {conds : List PathCond} {apart fresh handsOn : Bool}
    (witness : ∃ (w : World) (tape : Tape) (i : Input), w.os = os ∧ (w.forCall tape i).Shaped C.prog ∧ i.vars = [] ∧ Input.okWide C.prog (w.forCall tape i) .any w.heap.size f i ∧
      ((s.pre enc C.prog fn conds apart (w.forCall tape i).memory i.args ∧ laidMetH C.prog L (w.forCall tape i).memory) ∧ sizedMet enc C.prog fn (OpenSpec.ofChange s) apart (w.forCall tape i).memory i.args) ∧ ({} : Assume).holds C.prog (lone (Frame.enter C.prog f i.args .normal) [] (w.forCall tape i))) :
    ReturnsInHanded {} C os f .any (fun w args => (s.pre enc C.prog fn conds apart w args ∧ laidMetH C.prog L w) ∧ sizedMet enc C.prog fn (OpenSpec.ofChange s) apart w args) (s.post enc C.prog fn apart fresh handsOn false) :=
  returnsInHanded_of_change_and (X := fun w _ => laidMetH C.prog L w) (fun _ _ _ hh h => h.of_heap hh) R.own started R.noInit R.isf witness fun _ _ _ _ _ _ hval hW _ hZ hL0 _ => R.calls hS hL hL0 hval hW hZ

end Go.D

/- WordFields, WordBits, WordKeeps: for every input the law's Go function answers true, and its arguments read behind the call as before. math/bits.deBruijn64tab reads as the program's text lays it. -/
namespace Go.Proofs.YtmchhjjdlcmhoaaDoor
open Go.D
set_option linter.all false
set_option maxRecDepth 100000

theorem tab_named : Tryd.prog.globalNamed "math/bits.deBruijn64tab" = some 0 := by kernel_rfl
theorem tab_type : (Tryd.prog.globals[0]?).map (·.type) = some 53 := by kernel_rfl
theorem tab_arr : Tryd.prog.underlying 53 = some (.array 64 5) := by kernel_rfl
theorem tabs_met : ∀ W : World, laidMetH Tryd.prog Rows.wordFieldsRow.laid W → ∀ x, x ∈ Tabs.cells → W.cell? ⟨x.1, x.2.1, none⟩ = some x.2.2 ∧ x.1 < W.heap.size := fun W hW x hx => by
  have h1 := Lib.tabIs_of_head (zs := Lib.deBruijn64tab.map fun (n : Nat) => (n : Int)) (k := .u8) tab_named tab_type tab_arr (by kernel_rfl) (by kernel_rfl) (by kernel_rfl) hW
  obtain ⟨j, hj, rfl⟩ := List.mem_map.1 hx
  have hj := List.mem_range.1 hj
  have h2 := h1.cell tab_named j (by rw [List.length_map]; exact hj)
  have e : (Lib.deBruijn64tab.map fun (n : Nat) => (n : Int)).getD j 0 = ((Lib.deBruijn64tab.getD j 0 : Nat) : Int) := by
    simp [List.getD]
    cases Lib.deBruijn64tab[j]? <;> rfl
  rw [e] at h2
  exact ⟨h2, cell_lt h2⟩
theorem door_met (os : Os) (args : Array Value) : laidMetH Tryd.prog Rows.wordFieldsRow.laid ((World.doorLaid Tryd.prog 400 os).forCall (fun _ _ => 0) ⟨#[], args, []⟩).memory :=
  laidMet_of_run' 8 (by kernel_rfl) (by kernel_rfl)

theorem u64_wf {n : Int} (h : (Lit.int .u64 n).wf = true) : u64 n := by
  simp only [Lit.wf, IntKind.min, IntKind.max, IntKind.bits, IntKind.signed, Bool.and_eq_true, decide_eq_true_eq] at h
  have h2 := h.2
  simp at h
  exact ⟨h.1, by omega⟩
theorem i64_wf {n : Int} (h : (Lit.int .i64 n).wf = true) : -9223372036854775808 ≤ n ∧ n < 9223372036854775808 := by
  simp [Lit.wf, IntKind.min, IntKind.max, IntKind.bits, IntKind.signed] at h
  omega

theorem wordFields_law : Law (FSpec.of wordFieldsG) [(true, [.int .u64, .int .i64, .int .i64, .int .u64])] := by
  intro h us H hc
  obtain ⟨_, rfl, ss, rfl, G0⟩ := law1 H
  obtain ⟨_, _, rfl, ⟨a, rfl, ha⟩, G1⟩ := hasTs_cons G0
  obtain ⟨_, _, rfl, ⟨b, rfl, _⟩, G2⟩ := hasTs_cons G1
  obtain ⟨_, _, rfl, ⟨c, rfl, _⟩, G3⟩ := hasTs_cons G2
  obtain ⟨_, _, rfl, ⟨d, rfl, hd⟩, G4⟩ := hasTs_cons G3
  obtain rfl := hasTs_nil G4
  exact ⟨⟨u64_wf ha, u64_wf hd⟩, rfl⟩
theorem wordBits_law : Law (FSpec.of wordBitsG) [(false, [.int .u64]), (false, [.int .i64]), (false, [.int .i64])] := by
  intro h us H hc
  obtain ⟨_, _, _, rfl, H1, H2, H3⟩ := law3 H
  obtain ⟨w, rfl, hw⟩ := hasV_int H1
  obtain ⟨n, rfl, hn⟩ := hasV_int H2
  obtain ⟨b, rfl, _⟩ := hasV_int H3
  exact ⟨⟨u64_wf hw, by have := (i64_wf hn).2; omega⟩, rfl⟩
theorem wordKeeps_law : Law (FSpec.of wordKeepsG) [(true, [.int .u64, .int .i64, .int .i64, .int .u64, .int .i64, .int .i64])] := by
  intro h us H hc
  obtain ⟨_, rfl, ss, rfl, G0⟩ := law1 H
  obtain ⟨_, _, rfl, ⟨a, rfl, ha⟩, G1⟩ := hasTs_cons G0
  obtain ⟨_, _, rfl, ⟨b, rfl, _⟩, G2⟩ := hasTs_cons G1
  obtain ⟨_, _, rfl, ⟨c, rfl, _⟩, G3⟩ := hasTs_cons G2
  obtain ⟨_, _, rfl, ⟨d, rfl, hd⟩, G4⟩ := hasTs_cons G3
  obtain ⟨_, _, rfl, ⟨e, rfl, _⟩, G5⟩ := hasTs_cons G4
  obtain ⟨_, _, rfl, ⟨f, rfl, _⟩, G6⟩ := hasTs_cons G5
  obtain rfl := hasTs_nil G6
  exact ⟨⟨u64_wf ha, u64_wf hd⟩, rfl⟩

theorem wordFields_row : RowOkL Tryd.prog 3 Tryd.f3 Rows.wordFieldsSpec [(true, [.int .u64, .int .i64, .int .i64, .int .u64])] Rows.wordFieldsRow.laid where
  own := own
  tabs := tabs_met
  noInit := by kernel_rfl
  isf := Tryd.func3
  laid := laid
  rowed := rowed
  full := full
  params := by kernel_rfl
  vars := rfl
  ret := ⟨_, rfl, by kernel_rfl⟩
  spec := fun H ds e => by
    match ds, e with
    | [_], _ => rfl
  tys := ⟨20, by kernel_rfl⟩
theorem wordFields_said : Rows.WordFieldsSaid :=
  OpenClaim.holds_of_wide 3 Tryd.f3 rfl rfl rfl rfl rfl rfl rfl ⟨rfl, rfl, rfl, rfl, rfl⟩ rfl rfl rfl rfl rfl (by kernel_rfl) Tryd.func3 (by kernel_rfl)
    (of_decide_eq_true (by kernel_rfl)) (by unfold Func.isWrapper; first | (rw [if_pos (by decide +kernel)]; kernel_rfl) | (rw [if_neg (by decide +kernel)]; exact ⟨rfl, rfl⟩))
    (fun os started H enc _ => wordFields_row.lifted (C := Tryd.checked) wordFields_snd wordFields_law started (ChangeSpec.witness_shaped (enc := enc) (C := Tryd.checked) (os := os) (X := fun w _ => laidMetH Tryd.prog Rows.wordFieldsRow.laid w) false (World.doorLaid Tryd.prog 400 os) #[.agg #[.int .u64 0, .int .i64 0, .int .i64 0, .int .u64 0]] 8 rfl (World.shaped_of_RefB (by kernel_rfl) (by kernel_rfl)) (by kernel_rfl) (by kernel_rfl) (by kernel_rfl) (door_met os _)))
theorem wordFields_holds : Rows.WordFieldsCardSaid :=
  Claim7.holds_tied_plain_at .later [] [.data] true (true, Rows.wordFieldsCard.stood.harness.2) false
    wordFields_said (fun _ h => by cases h) (by kernel_rfl) (fun _ h => by cases h) wordFields_row_tie rfl ⟨rfl, rfl⟩ (by kernel_rfl) rfl
    (fun f fn hf hfn => by
      obtain rfl : f = 3 := Option.some.inj ((show Tryd.prog.funcNamed Rows.wordFieldsRow.func = some 3 by kernel_rfl).symm.trans hf) |>.symm
      obtain rfl : fn = Tryd.f3 := (Option.some.inj (Tryd.func3.symm.trans hfn)).symm
      exact ⟨by kernel_rfl, fun j t ht => by
        rw [Tryd.params3] at ht
        have hm : t ∈ [24] := by simpa using Array.mem_of_getElem? ht
        have hall : ([24].all fun u => !Tryd.prog.wantsStandIn u) = true := by kernel_rfl
        exact (show Tryd.prog.wantsStandIn t = false by simpa using List.all_eq_true.1 hall t hm)⟩)
    (by kernel_rfl)
theorem wordBits_row : RowOkL Tryd.prog 5 Tryd.f5 Rows.wordBitsSpec [(false, [.int .u64]), (false, [.int .i64]), (false, [.int .i64])] Rows.wordBitsRow.laid where
  own := own
  tabs := tabs_met
  noInit := by kernel_rfl
  isf := Tryd.func5
  laid := laid
  rowed := rowed
  full := full
  params := by kernel_rfl
  vars := rfl
  ret := ⟨_, rfl, by kernel_rfl⟩
  spec := fun H ds e => by
    match ds, e with
    | [_, _, _], _ => rfl
  tys := ⟨20, by kernel_rfl⟩
theorem wordBits_said : Rows.WordBitsSaid :=
  OpenClaim.holds_of_wide 5 Tryd.f5 rfl rfl rfl rfl rfl rfl rfl ⟨rfl, rfl, rfl, rfl, rfl⟩ rfl rfl rfl rfl rfl (by kernel_rfl) Tryd.func5 (by kernel_rfl)
    (of_decide_eq_true (by kernel_rfl)) (by unfold Func.isWrapper; first | (rw [if_pos (by decide +kernel)]; kernel_rfl) | (rw [if_neg (by decide +kernel)]; exact ⟨rfl, rfl⟩))
    (fun os started H enc _ => wordBits_row.lifted (C := Tryd.checked) wordBits_snd wordBits_law started (ChangeSpec.witness_shaped (enc := enc) (C := Tryd.checked) (os := os) (X := fun w _ => laidMetH Tryd.prog Rows.wordBitsRow.laid w) false (World.doorLaid Tryd.prog 400 os) #[.int .u64 0, .int .i64 0, .int .i64 0] 8 rfl (World.shaped_of_RefB (by kernel_rfl) (by kernel_rfl)) (by kernel_rfl) (by kernel_rfl) (by kernel_rfl) (door_met os _)))
theorem wordBits_holds : Rows.WordBitsCardSaid :=
  Claim7.holds_tied_plain_at .later [] [.data] true (true, Rows.wordBitsCard.stood.harness.2) false
    wordBits_said (fun _ h => by cases h) (by kernel_rfl) (fun _ h => by cases h) wordBits_row_tie rfl ⟨rfl, rfl⟩ (by kernel_rfl) rfl
    (fun f fn hf hfn => by
      obtain rfl : f = 5 := Option.some.inj ((show Tryd.prog.funcNamed Rows.wordBitsRow.func = some 5 by kernel_rfl).symm.trans hf) |>.symm
      obtain rfl : fn = Tryd.f5 := (Option.some.inj (Tryd.func5.symm.trans hfn)).symm
      exact ⟨by kernel_rfl, fun j t ht => by
        rw [Tryd.params5] at ht
        have hm : t ∈ [22, 3, 3] := by simpa using Array.mem_of_getElem? ht
        have hall : ([22, 3, 3].all fun u => !Tryd.prog.wantsStandIn u) = true := by kernel_rfl
        exact (show Tryd.prog.wantsStandIn t = false by simpa using List.all_eq_true.1 hall t hm)⟩)
    (by kernel_rfl)
theorem wordKeeps_row : RowOkL Tryd.prog 6 Tryd.f6 Rows.wordKeepsSpec [(true, [.int .u64, .int .i64, .int .i64, .int .u64, .int .i64, .int .i64])] Rows.wordKeepsRow.laid where
  own := own
  tabs := tabs_met
  noInit := by kernel_rfl
  isf := Tryd.func6
  laid := laid
  rowed := rowed
  full := full
  params := by kernel_rfl
  vars := rfl
  ret := ⟨_, rfl, by kernel_rfl⟩
  spec := fun H ds e => by
    match ds, e with
    | [_], _ => rfl
  tys := ⟨20, by kernel_rfl⟩
theorem wordKeeps_said : Rows.WordKeepsSaid :=
  OpenClaim.holds_of_wide 6 Tryd.f6 rfl rfl rfl rfl rfl rfl rfl ⟨rfl, rfl, rfl, rfl, rfl⟩ rfl rfl rfl rfl rfl (by kernel_rfl) Tryd.func6 (by kernel_rfl)
    (of_decide_eq_true (by kernel_rfl)) (by unfold Func.isWrapper; first | (rw [if_pos (by decide +kernel)]; kernel_rfl) | (rw [if_neg (by decide +kernel)]; exact ⟨rfl, rfl⟩))
    (fun os started H enc _ => wordKeeps_row.lifted (C := Tryd.checked) wordKeeps_snd wordKeeps_law started (ChangeSpec.witness_shaped (enc := enc) (C := Tryd.checked) (os := os) (X := fun w _ => laidMetH Tryd.prog Rows.wordKeepsRow.laid w) false (World.doorLaid Tryd.prog 400 os) #[.agg #[.int .u64 0, .int .i64 0, .int .i64 0, .int .u64 0, .int .i64 0, .int .i64 0]] 8 rfl (World.shaped_of_RefB (by kernel_rfl) (by kernel_rfl)) (by kernel_rfl) (by kernel_rfl) (by kernel_rfl) (door_met os _)))
theorem wordKeeps_holds : Rows.WordKeepsCardSaid :=
  Claim7.holds_tied_plain_at .later [] [.data] true (true, Rows.wordKeepsCard.stood.harness.2) false
    wordKeeps_said (fun _ h => by cases h) (by kernel_rfl) (fun _ h => by cases h) wordKeeps_row_tie rfl ⟨rfl, rfl⟩ (by kernel_rfl) rfl
    (fun f fn hf hfn => by
      obtain rfl : f = 6 := Option.some.inj ((show Tryd.prog.funcNamed Rows.wordKeepsRow.func = some 6 by kernel_rfl).symm.trans hf) |>.symm
      obtain rfl : fn = Tryd.f6 := (Option.some.inj (Tryd.func6.symm.trans hfn)).symm
      exact ⟨by kernel_rfl, fun j t ht => by
        rw [Tryd.params6] at ht
        have hm : t ∈ [47] := by simpa using Array.mem_of_getElem? ht
        have hall : ([47].all fun u => !Tryd.prog.wantsStandIn u) = true := by kernel_rfl
        exact (show Tryd.prog.wantsStandIn t = false by simpa using List.all_eq_true.1 hall t hm)⟩)
    (by kernel_rfl)
end Go.Proofs.YtmchhjjdlcmhoaaDoor

