/- MemHalves, MemSingles: for every input the law's Go function answers true, and its arguments read behind the call as before. No conditions. -/
import Derived.Test.YteeeidldknlblaaZ3
import Derived.JoinedCond
import Derived.SizedLaws
import Derived.KernelRfl
import Derived.Test.YteeeidldknlblaaRows
/- A statement's row: a law whose small code answers true over whatever read-only arguments holds. -/
namespace Go.D
set_option linter.all false
open Go.ChangeShapes Go.WideShapes

/-- A parameter: is it an aggregate; its cells. -/
def paramTy (P : Program) (d : Nat) (t : TypeId) : Option (Bool × List TY) :=
  match tyOf P d t with
  | some l => match P.underlying t with
    | some (.struct _) => some (true, l)
    | some (.array _ _) => some (true, l)
    | some (.int _) => some (false, l)
    | some .bool => some (false, l)
    | some (.slice _) => some (false, l)
    | _ => none
  | none => none
def paramTys (P : Program) (d : Nat) : List TypeId → Option (List (Bool × List TY))
  | [] => some []
  | t :: ts => match paramTy P d t, paramTys P d ts with
    | some x, some l => some (x :: l)
    | _, _ => none

/-- A parameter's value. -/
def hasV (h : List Blk) : Bool × List TY → V → Prop
  | (true, l), v => ∃ ss, v = .agg ss ∧ hasTs h l ss
  | (false, l), v => ∃ s, v = .s s ∧ hasTs h l [s]
def hasVs (h : List Blk) : List (Bool × List TY) → List V → Prop
  | [], [] => True
  | t :: ts, v :: vs => hasV h t v ∧ hasVs h ts vs
  | _, _ => False

theorem hasV_mono {h h' : List Blk} {t : Bool × List TY} {v : V} (H : hasV h t v) : hasV (h ++ h') t v := by
  obtain ⟨b, l⟩ := t
  cases b with
  | true => obtain ⟨ss, e, H⟩ := H; exact ⟨ss, e, hasTs_mono H⟩
  | false => obtain ⟨s, e, H⟩ := H; exact ⟨s, e, hasTs_mono H⟩

section
variable {H : Type} {enc : TypeId × Value → H} {P : Program} {w : World}

theorem V.tr_old {σ σ' : Sg} {n : Nat} (hA : ∀ k, k < n → σ' (.g k) = σ (.g k)) {v : V} (hv : v.val n 0 = true) : v.tr σ' = v.tr σ :=
  V.tr_congr (n := n) (m := 0) (fun r hr => by
    cases r with
    | g k => exact hA k (by simpa [R.val] using hr)
    | l k => simp [R.val] at hr) v hv

theorem open_arg {r : Reach} {base : Nat} {t : TypeId} {v : Value} {d : DataW H} {p : List MemPlace} {D : Nat} {x : Bool × List TY} {sp : Nat → Bool} {held : Bool} {b0 : Nat}
    (hok : Value.okWide P w r base t v) (ht : DataW.Trod enc P w b0 sp held t v d p) (hx : paramTy P D t = some x) (hw : ∀ k, k ∈ d.weights P t → k ≤ reachBytes) :
    ∀ (σ : Sg) (h : List Blk), RO σ h w → ∃ (h' : List Blk) (σ' : Sg) (u : V), (∀ k, k < h.length → σ' (.g k) = σ (.g k)) ∧ RO σ' (h ++ h') w ∧ hasV (h ++ h') x u ∧ u.tr σ' = v ∧ u.val (h ++ h').length 0 = true ∧ u.known = true := by
  obtain ⟨n, ht⟩ := ht
  unfold paramTy at hx
  split at hx
  · rename_i l hl
    have agg : ∀ cs, v = .agg cs → Row.okWide P w r base t cs → x = (true, l) → ∀ (σ : Sg) (h : List Blk), RO σ h w → ∃ (h' : List Blk) (σ' : Sg) (u : V), (∀ k, k < h.length → σ' (.g k) = σ (.g k)) ∧ RO σ' (h ++ h') w ∧ hasV (h ++ h') x u ∧ u.tr σ' = v ∧ u.val (h ++ h').length 0 = true ∧ u.known = true := by
      intro cs hv hr hx σ h hR
      subst hv; subst hx
      obtain ⟨h', σ', ss, a1, a2, a3, a4, a5, a6⟩ := open_trod D n t cs.toList (d, p) l ht hl hw σ h hR
      refine ⟨h', σ', .agg ss, a1, a2, ⟨ss, rfl, a3⟩, ?_, a5, a6⟩
      simp only [V.tr, trs, a4, Array.toArray_toList]
    have one : v.cells = #[v] → x = (false, l) → ∀ (σ : Sg) (h : List Blk), RO σ h w → ∃ (h' : List Blk) (σ' : Sg) (u : V), (∀ k, k < h.length → σ' (.g k) = σ (.g k)) ∧ RO σ' (h ++ h') w ∧ hasV (h ++ h') x u ∧ u.tr σ' = v ∧ u.val (h ++ h').length 0 = true ∧ u.known = true := by
      intro hc hx σ h hR
      subst hx
      rw [hc] at ht
      obtain ⟨h', σ', ss, a1, a2, a3, a4, a5, a6⟩ := open_trod D n t [v] (d, p) l ht hl hw σ h hR
      match ss, a4 with
      | [s], a4 =>
        simp only [List.map_cons, List.map_nil, List.cons.injEq, and_true] at a4
        refine ⟨h', σ', .s s, a1, a2, ⟨s, rfl, a3⟩, a4, ?_, ?_⟩
        · simpa [vals, V.val] using a5
        · simpa [known_cons, known_nil] using a6
    unfold Value.okWide at hok
    split at hx <;> rename_i hu <;> simp only [hu, Option.some.injEq] at hok hx
    · obtain ⟨cs, hv, _, hr⟩ := hok; exact agg cs hv hr hx.symm
    · obtain ⟨cs, hv, _, hr⟩ := hok; exact agg cs hv hr hx.symm
    · refine one ?_ hx.symm
      unfold Cell.okWide at hok; rw [hu] at hok
      cases v <;> first | rfl | (simp [Cell.ok, hu] at hok)
    · refine one ?_ hx.symm
      unfold Cell.okWide at hok; rw [hu] at hok
      cases v <;> first | rfl | (simp [Cell.ok, hu] at hok)
    · refine one ?_ hx.symm
      unfold Cell.okWide at hok; rw [hu] at hok
      cases v <;> first | rfl | (simp [Cell.ok, hu] at hok)
    · cases hx
  · cases hx

theorem open_args {r : Reach} {base D : Nat} {sp : Nat → Bool} {held : Bool} {b0 : Nat} : ∀ (ts : List TypeId) (vs : List Value) (ds : List (DataW H)) (p : List MemPlace) (xs : List (Bool × List TY)),
    (∀ (j : Nat) t v, ts[j]? = some t → vs[j]? = some v → Value.okWide P w r base t v) → DataW.TrodAll enc P w b0 sp held ts vs ds p → paramTys P D ts = some xs → (∀ (j : Nat) t d, ts[j]? = some t → ds[j]? = some d → ∀ k, k ∈ d.weights P t → k ≤ reachBytes) →
    ∀ (σ : Sg) (h : List Blk), RO σ h w → ∃ (h' : List Blk) (σ' : Sg) (us : List V), (∀ k, k < h.length → σ' (.g k) = σ (.g k)) ∧ RO σ' (h ++ h') w ∧ hasVs (h ++ h') xs us ∧ us.map (V.tr σ') = vs ∧ us.all (V.val (h ++ h').length 0) = true ∧ us.all V.known = true
  | [], vs, ds, p, xs, _, ht, hx, _ => fun σ h hR => by
    obtain ⟨rfl, rfl, rfl⟩ := trodAll_nil ht
    simp only [paramTys, Option.some.injEq] at hx
    subst hx
    exact ⟨[], σ, [], fun _ _ => rfl, by simpa using hR, trivial, rfl, rfl, rfl⟩
  | t :: ts, vs, ds, p, xs, hok, ht, hx, hw => fun σ h hR => by
    obtain ⟨v, vs', d, ds', p', q, rfl, rfl, rfl, h0, h1⟩ := trodAll_cons ht
    simp only [paramTys] at hx
    split at hx
    · rename_i x l hx1 hx2
      cases hx
      obtain ⟨ha, σa, u, a1, a2, a3, a4, a5, a6⟩ := open_arg (hok 0 t v rfl rfl) h0 hx1 (hw 0 t d rfl rfl) σ h hR
      obtain ⟨hb, σb, us, b1, b2, b3, b4, b5, b6⟩ := open_args ts vs' ds' q l (fun j t v ht hv => hok (j + 1) t v (by simpa using ht) (by simpa using hv)) h1 hx2 (fun j t d ht hd => hw (j + 1) t d (by simpa using ht) (by simpa using hd)) σa (h ++ ha) a2
      refine ⟨ha ++ hb, σb, u :: us, fun k hk => ?_, by rw [← List.append_assoc]; exact b2, ?_, ?_, ?_, ?_⟩
      · rw [b1 k (by simp; omega), a1 k hk]
      · rw [← List.append_assoc]; exact ⟨hasV_mono a3, b3⟩
      · rw [List.map_cons, b4, V.tr_old b1 a5, a4]
      · rw [← List.append_assoc, List.all_cons, Bool.and_eq_true]
        exact ⟨V.val_mono (by simp) (Nat.le_refl _) a5, b5⟩
      · rw [List.all_cons, Bool.and_eq_true]; exact ⟨a6, b6⟩
    · cases hx
end

/-- A law's spec: over whatever arguments it answers true. -/
def Law (S : FSpec) (xs : List (Bool × List TY)) : Prop := ∀ (h : List Blk) (us : List V), hasVs h xs us → clean h.length h = true → S us h fun v _ => v = .s (.b true)

theorem law_calls {P : Program} {H : Type} {enc : TypeId × Value → H} {W : World} {f : FuncId} {S : FSpec} {r : Reach} {base D : Nat} {ts : List TypeId} {args : Array Value} {ds : List (DataW H)} {p : List MemPlace} {xs : List (Bool × List TY)} {sp : Nat → Bool} {held : Bool} {b0 : Nat}
    (hS : Snd P f S) (hL : Law S xs) (hok : ∀ (j : Nat) t v, ts[j]? = some t → args[j]? = some v → Value.okWide P W r base t v) (ht : DataW.TrodAll enc P W b0 sp held ts args.toList ds p) (hx : paramTys P D ts = some xs) (hw : ∀ (j : Nat) t d, ts[j]? = some t → ds[j]? = some d → ∀ k, k ∈ d.weights P t → k ≤ reachBytes) :
    Calls P f args W fun e W' => e = .returned (.bool true) ∧ Still W W' := by
  have hR0 : RO (fun _ => (0, 0)) [] W := ⟨fun k B hB => by simp at hB, fun B hB => by cases hB⟩
  obtain ⟨h, σ, us, _, hR, hV, he, hval, hk⟩ := open_args ts args.toList ds p xs (fun j t v h1 h2 => hok j t v h1 (by simpa using h2)) ht hx hw _ [] hR0
  simp only [List.nil_append] at hR hV hval
  have hcl : clean h.length h = true := by
    simp only [clean, List.all_eq_true]
    exact hR.val
  have hc := hS σ h W us _ hR.sim hval hk (hL h us hV hcl)
  have ha : (us.map (V.tr σ)).toArray = args := by rw [he]
  rw [ha] at hc
  refine hc.mono fun e W' ⟨v, h', σ', e1, _, _, hI, e2⟩ => ?_
  subst e2
  refine ⟨e1, hI.kept.same.os, hI.kept.same.output, fun b hb => hI.kept.keep b hb fun k B hB hst => ?_⟩
  exact absurd hst (hR.ok k B hB).1

/-! ### the row -/
def slicesFull (P : Program) : Bool := (List.range P.types.size).all fun t => match P.underlying t with
  | some (.slice e) => decide (0 < P.cellsOf e)
  | _ => true

theorem trodAll_length {H : Type} {enc : TypeId × Value → H} {P : Program} {w : World} {b0 : Nat} {sp : Nat → Bool} {held : Bool} : ∀ {ts : List TypeId} {vs : List Value} {ds : List (DataW H)} {p : List MemPlace}, DataW.TrodAll enc P w b0 sp held ts vs ds p → ds.length = ts.length
  | [], vs, ds, p, h => by obtain ⟨_, rfl, _⟩ := trodAll_nil h; rfl
  | t :: ts, vs, ds, p, h => by
    obtain ⟨v, vs', d, ds', p', q, rfl, rfl, rfl, _, h1⟩ := trodAll_cons h
    simp [trodAll_length h1]

/-- What is asked of the program and the law's function, by reckoning. -/
structure RowOk (P : Program) (f : FuncId) (fn : Func) (s : ChangeSpec) (xs : List (Bool × List TY)) : Prop where
  own : ownKnob P.godebug = none
  noInit : P.inits.idxOf? f = none
  isf : P.funcs[f]? = some fn
  laid : laidOutB P = true
  rowed : mapsRowed P = true
  full : slicesFull P = true
  params : fn.params.toList.all (fun t => decide (t < P.types.size)) = true
  vars : s.vars = []
  ret : ∃ bt, fn.resultTypes = #[bt] ∧ P.underlying bt = some .bool
  spec : ∀ (H : Type) (ds : List (DataW H)), ds.length = fn.params.toList.length → s.fn H ds = { results := [.lit (.bool true)], args := ds }
  tys : ∃ D, paramTys P D fn.params.toList = some xs

theorem RowOk.calls {P : Program} {f : FuncId} {fn : Func} {s : ChangeSpec} {xs : List (Bool × List TY)} (R : RowOk P f fn s xs) {S : FSpec} (hS : Snd P f S) (hL : Law S xs)
    {H : Type} {enc : TypeId × Value → H} {W : World} {base : Nat} {r : Reach} {args : Array Value} {ds gs : List (DataW H)} {before : List MemPlace} {apart fresh handsOn : Bool}
    (hval : ∀ (j : Nat) t v, fn.params[j]? = some t → args[j]? = some v → Value.okWide P W r base t v) (hW : DataW.Whole enc P fn.params.toList s.vars apart W args.toList ds gs before)
    (hZ : (DataW.weightsEach P (fn.params.toList ++ s.plain.varTypes P) (ds ++ gs)).all (· ≤ reachBytes) = true) :
    Calls P f args W fun e W' => ∃ v, e = .returned v ∧ s.post enc P fn apart fresh handsOn false W args v W' := by
  obtain ⟨D, hx⟩ := R.tys
  obtain ⟨bt, hrt, hbt⟩ := R.ret
  obtain ⟨p, q, hA, hV, hb, hfz, hnd⟩ := id hW
  have hc := law_calls hS hL (fun j t v h1 h2 => hval j t v (by simpa using h1) h2) hA hx (fun j t d ht hd k hk => by
    have h1 : (fn.params.toList ++ s.plain.varTypes P)[j]? = some t := by rw [List.getElem?_append_left (List.getElem?_eq_some_iff.1 ht).1]; exact ht
    have h2 : (ds ++ gs)[j]? = some d := by rw [List.getElem?_append_left (List.getElem?_eq_some_iff.1 hd).1]; exact hd
    have h3 := List.all_eq_true.1 hZ _ (DataW.weights_mem_each h1 h2 k hk)
    simpa using h3)
  refine hc.mono fun e W' ⟨he, hst⟩ => ⟨_, he, ?_⟩
  have hgs : gs = [] := by
    rw [R.vars] at hV; exact (trodVars_none hV).1
  subst hgs
  refine law_post (kids_rows R.laid R.rowed) (fun t e ht hu => ?_) (fun t ht => ?_) R.vars hbt hrt ?_ hW hst
  · have := R.full
    simp only [slicesFull, List.all_eq_true, List.mem_range] at this
    have := this t ht
    rw [hu] at this
    simpa using this
  · have := R.params
    simp only [List.all_eq_true, decide_eq_true_eq] at this
    exact this t ht
  · simp only [List.append_nil]
    exact R.spec H ds (trodAll_length hA)

theorem RowOk.lifted {C : Checked} {f : FuncId} {fn : Func} {s : ChangeSpec} {xs : List (Bool × List TY)} (R : RowOk C.prog f fn s xs) {S : FSpec} (hS : Snd C.prog f S) (hL : Law S xs) {os : Os} (started : os.Started) {H : Type} {enc : TypeId × Value → H} {conds : List PathCond} {apart fresh handsOn : Bool}
    (witness : ∃ (w : World) (tape : Tape) (i : Input), w.os = os ∧ (w.forCall tape i).Shaped C.prog ∧ i.vars = [] ∧ Input.okWide C.prog (w.forCall tape i) .any w.heap.size f i ∧
      s.pre6 enc C.prog fn conds apart (w.forCall tape i).memory i.args ∧ ({} : Assume).holds C.prog (lone (Frame.enter C.prog f i.args .normal) [] (w.forCall tape i))) :
    ReturnsInHanded {} C os f .any (s.pre6 enc C.prog fn conds apart) (s.post enc C.prog fn apart fresh handsOn false) :=
  returnsInHanded_of_change_sized R.own started R.noInit R.isf witness fun _ _ _ _ _ _ hval hW _ hZ _ => R.calls hS hL hval hW hZ

end Go.D

/- The facts of the rows of this seat. -/
namespace Go.Proofs.Yteeeidldknlblaa
open Go.D
set_option linter.all false
set_option maxRecDepth 100000

theorem own : ownKnob Try.prog.godebug = none := by kernel_rfl
theorem laid : laidOutB Try.prog = true := by kernel_rfl
theorem rowed : mapsRowed Try.prog = true := by kernel_rfl
theorem full : slicesFull Try.prog = true := by kernel_rfl

theorem hasTs_cons {h : List Blk} {t : TY} {ts : List TY} {ss : List S} (H : hasTs h (t :: ts) ss) : ∃ s ss', ss = s :: ss' ∧ hasT h t s ∧ hasTs h ts ss' := by
  cases ss with
  | nil => exact H.elim
  | cons s ss => exact ⟨s, ss, rfl, H.1, H.2⟩
theorem hasTs_nil {h : List Blk} {ss : List S} (H : hasTs h [] ss) : ss = [] := by
  cases ss with
  | nil => rfl
  | cons s ss => exact H.elim
theorem hasT_int {h : List Blk} {k : IntKind} {s : S} (H : hasT h (.int k) s) : ∃ n, s = .i k n ∧ (Lit.int k n).wf = true := H
theorem hasT_bool {h : List Blk} {s : S} (H : hasT h .bool s) : ∃ b, s = .b b := H
/-- The arguments, one by one. -/
theorem law1 {h : List Blk} {x : Bool × List TY} {us : List V} (H : hasVs h [x] us) : ∃ u, us = [u] ∧ hasV h x u := by
  match us, H with
  | [u], H => exact ⟨u, rfl, H.1⟩
  | [], H => exact H.elim
  | _ :: _ :: _, H => exact H.2.elim
theorem law2 {h : List Blk} {x y : Bool × List TY} {us : List V} (H : hasVs h [x, y] us) : ∃ u v, us = [u, v] ∧ hasV h x u ∧ hasV h y v := by
  match us, H with
  | [u, v], H => exact ⟨u, v, rfl, H.1, H.2.1⟩
  | [], H => exact H.elim
  | [_], H => exact H.2.elim
  | _ :: _ :: _ :: _, H => exact H.2.2.elim
theorem law3 {h : List Blk} {x y z : Bool × List TY} {us : List V} (H : hasVs h [x, y, z] us) : ∃ u v w, us = [u, v, w] ∧ hasV h x u ∧ hasV h y v ∧ hasV h z w := by
  match us, H with
  | [u, v, w], H => exact ⟨u, v, w, rfl, H.1, H.2.1, H.2.2.1⟩
  | [], H => exact H.elim
  | [_], H => exact H.2.elim
  | [_, _], H => exact H.2.2.elim
  | _ :: _ :: _ :: _ :: _, H => exact H.2.2.2.elim
theorem hasV_int {h : List Blk} {k : IntKind} {v : V} (H : hasV h (false, [.int k]) v) : ∃ n, v = .s (.i k n) ∧ (Lit.int k n).wf = true := by
  obtain ⟨s, rfl, ⟨n, rfl, hn⟩, _⟩ := H
  exact ⟨n, rfl, hn⟩

/-- A slice of elements that are read one by one. -/
theorem hasT_arr {α : Type} {c : α → List S} {h : List Blk} {e : List TY} (hd : ∀ ss, hasTs h e ss → ∃ x, ss = c x) : ∀ (E : List (List S)), (∀ x, x ∈ E → hasTs h e x) → ∃ L : List α, E.flatten = arr c L ∧ L.length = E.length
  | [], _ => ⟨[], rfl, rfl⟩
  | x :: E, H => by
    obtain ⟨y, rfl⟩ := hd x (H x List.mem_cons_self)
    obtain ⟨L, e1, e2⟩ := hasT_arr hd E (fun z hz => H z (List.mem_cons_of_mem _ hz))
    exact ⟨y :: L, by simp [arr, e1], by simp [e2]⟩
end Go.Proofs.Yteeeidldknlblaa

/- Slices as arguments of a statement. -/
namespace Go.Proofs.Yteeeidldknlblaa
open Go.D
set_option linter.all false
set_option maxRecDepth 100000

theorem hasT_arrP {α : Type} {c : α → List S} {p : α → Prop} {h : List Blk} {e : List TY} (hd : ∀ ss, hasTs h e ss → ∃ x, ss = c x ∧ p x) : ∀ (E : List (List S)), (∀ x, x ∈ E → hasTs h e x) → ∃ L : List α, E.flatten = arr c L ∧ L.length = E.length ∧ ∀ x, x ∈ L → p x
  | [], _ => ⟨[], rfl, rfl, fun x hx => by cases hx⟩
  | x :: E, H => by
    obtain ⟨y, rfl, hy⟩ := hd x (H x List.mem_cons_self)
    obtain ⟨L, e1, e2, e3⟩ := hasT_arrP hd E (fun z hz => H z (List.mem_cons_of_mem _ hz))
    refine ⟨y :: L, by simp [arr, e1], by simp [e2], fun z hz => ?_⟩
    rcases List.mem_cons.1 hz with rfl | hz
    · exact hy
    · exact e3 z hz
theorem isArr_of {α : Type} {c : α → List S} {p : α → Prop} {h : List Blk} {e : List TY} {s : S} (hd : ∀ ss, hasTs h e ss → ∃ x, ss = c x ∧ p x) (H : hasT h (.slice e) s) : ∃ L : List α, IsArr c h s L ∧ (∀ x, x ∈ L → p x) ∧ L.length ≤ 140737488355328 := by
  rcases H with rfl | ⟨a, c, rfl⟩ | ⟨j, n, cp, E, st, room, rfl, h1, h2, h3, h4, h5, h6, h7⟩
  · exact ⟨[], .inl ⟨.inl rfl, rfl⟩, (fun x hx => by cases hx), by simp⟩
  · exact ⟨[], .inl ⟨.inr ⟨a, c, rfl⟩, rfl⟩, (fun x hx => by cases hx), by simp⟩
  · obtain ⟨L, e1, e2, e3⟩ := hasT_arrP (c := c) (p := p) hd E h7
    have hn : L.length = n := by omega
    refine ⟨L, .inr ⟨j, cp, st, room, by rw [hn], by rw [← e1]; exact h3, fun h0 e => ?_⟩, e3, ?_⟩
    · have := h5 (by omega)
      rw [this] at e; cases e
    · omega
theorem hasV_slice {α : Type} {c : α → List S} {p : α → Prop} {h : List Blk} {e : List TY} {v : V} (hd : ∀ ss, hasTs h e ss → ∃ x, ss = c x ∧ p x) (H : hasV h (false, [.slice e]) v) : ∃ (s : S) (L : List α), v = .s s ∧ IsArr c h s L ∧ (∀ x, x ∈ L → p x) ∧ L.length ≤ 140737488355328 := by
  obtain ⟨s, rfl, H1, _⟩ := H
  obtain ⟨L, e1, e2, e3⟩ := isArr_of hd H1
  exact ⟨s, L, rfl, e1, e2, e3⟩
def Uw.c (n : Int) : List S := [.i .u64 n]
theorem arr_wc : ∀ L : List Int, arr Uw.c L = wc L
  | [] => rfl
  | x :: L => by simp only [arr, Uw.c, wc_cons, arr_wc L, List.cons_append, List.nil_append]
theorem u64_wf {n : Int} (h : (Lit.int .u64 n).wf = true) : u64 n := by
  have e : (decide ((0 : Int) ≤ n) && decide (n ≤ 18446744073709551615)) = true := h
  simp only [Bool.and_eq_true, decide_eq_true_eq] at e
  simp only [u64]; omega
/-- A slice of words. -/
theorem isList_of {h : List Blk} {s : S} (H : hasT h (.slice [.int .u64]) s) : ∃ L : List Int, IsList h s L ∧ (∀ x, x ∈ L → u64 x) ∧ L.length ≤ 140737488355328 := by
  obtain ⟨L, e1, e2, e3⟩ := isArr_of (c := Uw.c) (p := u64) (fun ss h => by
    obtain ⟨_, _, rfl, ⟨n, rfl, hn⟩, H2⟩ := hasTs_cons h
    obtain rfl := hasTs_nil H2
    exact ⟨n, rfl, u64_wf hn⟩) H
  refine ⟨L, ?_, e2, e3⟩
  rcases e1 with ⟨e0, rfl⟩ | ⟨j, c', st, room, rfl, e1, hd⟩
  · exact .inl ⟨e0, rfl⟩
  · rw [arr_wc] at e1
    rcases Nat.eq_zero_or_pos L.length with h0 | h0
    · exact .inr (.inl ⟨j, 0, c', _, by rw [h0], e1, List.eq_nil_of_length_eq_zero h0⟩)
    · refine .inr (.inr ⟨j, 0, c', _, rfl, e1, hd (by omega), ?_, ?_⟩)
      · simp only [wc_len]; omega
      · simp only; rw [wc_sub, List.drop_zero, List.take_length]
end Go.Proofs.Yteeeidldknlblaa

/- MemHalves, MemSingles: for every input the law's Go function answers true, and its arguments read behind the call as before. No conditions. -/
namespace Go.Proofs.Yteeeidldknlblaa
open Go.D
set_option linter.all false
set_option maxRecDepth 100000

abbrev MOpT : List TY := [.int .i64, .int .i64, .int .i64, .int .i64, .int .u64, .slice [.int .u64]]
theorem hasTs_mop {h : List Blk} {ss : List S} (H : hasTs h MOpT ss) : ∃ o : MOp, ss = o.c ∧ o.Ok h := by
  obtain ⟨_, _, rfl, ⟨a, rfl, _⟩, H0⟩ := hasTs_cons H
  obtain ⟨_, _, rfl, ⟨b, rfl, _⟩, H1⟩ := hasTs_cons H0
  obtain ⟨_, _, rfl, ⟨c, rfl, _⟩, H2⟩ := hasTs_cons H1
  obtain ⟨_, _, rfl, ⟨d, rfl, _⟩, H3⟩ := hasTs_cons H2
  obtain ⟨_, _, rfl, ⟨w, rfl, uw⟩, H4⟩ := hasTs_cons H3
  obtain ⟨s, _, rfl, Hs, H5⟩ := hasTs_cons H4
  obtain rfl := hasTs_nil H5
  obtain ⟨L, e1, e2, e3⟩ := isList_of Hs
  exact ⟨⟨a, b, c, d, w, s⟩, rfl, MOp.ok_of (u64_wf uw) e1 e2 e3⟩

theorem halves_law : Law halvesS [(false, [.slice [.int .u64]]), (true, MOpT), (false, [.int .i64])] := by
  intro h us H hc
  obtain ⟨_, _, _, rfl, H1, H2, H3⟩ := law3 H
  obtain ⟨s, rfl, Hs, _⟩ := H1
  obtain ⟨L, e1, e2, e3⟩ := isList_of Hs
  obtain ⟨ss, rfl, Hx⟩ := H2
  obtain ⟨o, rfl, ho⟩ := hasTs_mop Hx
  obtain ⟨k, rfl, _⟩ := hasV_int H3
  exact ⟨s, L, o, k, rfl, e1, e2, ho, fun _ => rfl⟩
theorem singles_law : Law singlesS [(false, [.slice [.int .u64]]), (true, MOpT)] := by
  intro h us H hc
  obtain ⟨_, _, rfl, H1, H2⟩ := law2 H
  obtain ⟨s, rfl, Hs, _⟩ := H1
  obtain ⟨L, e1, e2, e3⟩ := isList_of Hs
  obtain ⟨ss, rfl, Hx⟩ := H2
  obtain ⟨o, rfl, ho⟩ := hasTs_mop Hx
  exact ⟨s, L, o, rfl, e1, e2, ho, fun _ => rfl⟩

theorem memHalves_row : RowOk Try.prog 6 Try.f6 Rows.memHalvesSpec [(false, [.slice [.int .u64]]), (true, MOpT), (false, [.int .i64])] where
  own := own
  noInit := by kernel_rfl
  isf := Try.func6
  laid := laid
  rowed := rowed
  full := full
  params := by kernel_rfl
  vars := rfl
  ret := ⟨_, rfl, by kernel_rfl⟩
  spec := fun H ds e => by
    match ds, e with
    | [_, _, _], _ => rfl
  tys := ⟨20, by kernel_rfl⟩
theorem memHalves_holds : Rows.MemHalvesSaid :=
  OpenClaim.holds_of_wide 6 Try.f6 rfl rfl rfl rfl rfl rfl rfl ⟨rfl, rfl, rfl, rfl, rfl⟩ rfl rfl rfl rfl rfl (by kernel_rfl) Try.func6 (by kernel_rfl)
    (of_decide_eq_true (by kernel_rfl)) (by unfold Func.isWrapper; first | (rw [if_pos (by decide +kernel)]; kernel_rfl) | (rw [if_neg (by decide +kernel)]; exact ⟨rfl, rfl⟩))
    (fun os started H enc _ => memHalves_row.lifted (C := Try.checked) halves_snd halves_law started (ChangeSpec.witness6 (enc := enc) (C := Try.checked) false ⟨#[], #[.slice none 0 0, .agg #[.int .i64 0, .int .i64 0, .int .i64 0, .int .i64 0, .int .u64 0, .slice none 0 0], .int .i64 0], []⟩ 8 (by kernel_rfl) (by kernel_rfl) (by kernel_rfl) (by kernel_rfl)))
theorem memSingles_row : RowOk Try.prog 5 Try.f5 Rows.memSinglesSpec [(false, [.slice [.int .u64]]), (true, MOpT)] where
  own := own
  noInit := by kernel_rfl
  isf := Try.func5
  laid := laid
  rowed := rowed
  full := full
  params := by kernel_rfl
  vars := rfl
  ret := ⟨_, rfl, by kernel_rfl⟩
  spec := fun H ds e => by
    match ds, e with
    | [_, _], _ => rfl
  tys := ⟨20, by kernel_rfl⟩
theorem memSingles_holds : Rows.MemSinglesSaid :=
  OpenClaim.holds_of_wide 5 Try.f5 rfl rfl rfl rfl rfl rfl rfl ⟨rfl, rfl, rfl, rfl, rfl⟩ rfl rfl rfl rfl rfl (by kernel_rfl) Try.func5 (by kernel_rfl)
    (of_decide_eq_true (by kernel_rfl)) (by unfold Func.isWrapper; first | (rw [if_pos (by decide +kernel)]; kernel_rfl) | (rw [if_neg (by decide +kernel)]; exact ⟨rfl, rfl⟩))
    (fun os started H enc _ => memSingles_row.lifted (C := Try.checked) singles_snd singles_law started (ChangeSpec.witness6 (enc := enc) (C := Try.checked) false ⟨#[], #[.slice none 0 0, .agg #[.int .i64 0, .int .i64 0, .int .i64 0, .int .i64 0, .int .u64 0, .slice none 0 0]], []⟩ 8 (by kernel_rfl) (by kernel_rfl) (by kernel_rfl) (by kernel_rfl)))
end Go.Proofs.Yteeeidldknlblaa

