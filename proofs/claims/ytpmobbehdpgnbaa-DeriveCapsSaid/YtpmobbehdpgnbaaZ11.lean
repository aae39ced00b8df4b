/- The facts of the rows of this seat. -/
import Derived.Test.YtpmobbehdpgnbaaZ10
import Derived.JoinedCond
import Derived.SizedLaws
import Derived.KernelRfl
import Derived.Test.YtpmobbehdpgnbaaRows
/- A statement's step: its arguments opened, its answer closed. -/
namespace Go.D
set_option linter.all false
variable [Tabs]
open Go.ChangeShapes Go.WideShapes
section
variable {H : Type} {enc : TypeId × Value → H} {P : Program} {W W' : World}

structure Still (W W' : World) : Prop where
  os : W'.os = W.os
  output : W'.output = W.output
  heap : ∀ b, b < W.heap.size → W'.heap[b]? = W.heap[b]?

theorem Still.keptBut (h : Still W W') (may : MemPlace → Prop) : W.keptBut W' may := by
  refine ⟨h.os, h.output, fun i hi => ?_⟩
  rw [h.heap i hi]
  split
  · rename_i e1 e2
    cases e1.symm.trans e2
    exact ⟨rfl, rfl, rfl, fun _ _ => rfl⟩
  · rename_i e1 e2
    cases e1.symm.trans e2
    exact .inr ⟨rfl, rfl⟩
  · rfl

theorem Still.cell (h : Still W W') {a : Addr} (ha : a.block < W.heap.size) : W'.cell? a = W.cell? a := by
  simp only [World.cell?, h.heap a.block ha]

theorem Still.same (h : Still W W') {p : MemPlace} (hp : p.block < W.heap.size) : W.sameAt W' p := by
  cases p with
  | cell b off => exact h.cell hp
  | map b => exact h.heap b hp

theorem law_post {T : TypeId → Prop} {f : Func} {s : ChangeSpec} {args : Array Value} {ds gs : List (DataW H)} {before : List MemPlace} {bt : TypeId} (K : Kids P T) (hz : ∀ t e, T t → P.underlying t = some (.slice e) → 0 < P.cellsOf e)
    (hT : ∀ t, t ∈ f.params.toList → T t) (hv : s.vars = []) (hbt : P.underlying bt = some .bool) (hrt : f.resultTypes = #[bt]) (hfn : s.fn H (ds ++ gs) = { results := [.lit (.bool true)], args := ds }) {apart : Bool}
    (hW : DataW.Whole enc P f.params.toList s.vars apart W args.toList ds gs before) (hS : Still W W') {fresh handsOn : Bool} :
    s.post enc P f apart fresh handsOn false W args (.bool true) W' := by
  obtain ⟨p, q, hA, hV, hb, hfz, hnd⟩ := id hW
  have hlt : ∀ x, x ∈ before → x.block < W.heap.size := fun x hx => hW.lt x hx
  rw [hv] at hV
  obtain ⟨rfl, rfl⟩ := trodVars_none hV
  simp only [List.append_nil] at hb hfn
  subst hb
  have hcarry : ∀ {ts : List TypeId} {vs : List Value} {ds : List (DataW H)} {p : List MemPlace} {sp : Nat → Bool}, DataW.TrodAll enc P W 0 sp true ts vs ds p → (∀ x, x ∈ p → x.block < W.heap.size) → DataW.TrodAll enc P W' 0 sp true ts vs ds p := by
    intro ts
    induction ts with
    | nil =>
      intro vs ds p sp h _
      cases vs <;> cases ds <;> first | exact h | exact h.elim
    | cons t ts ih =>
      intro vs ds p sp h hp
      match vs, ds, h with
      | v :: vs, d :: ds, ⟨p1, p2, ⟨n, h1⟩, h2, e⟩ =>
        exact ⟨p1, p2, ⟨n, DataW.trod_carry n _ _ _ h1 (fun x hx => hS.same (hp x (by rw [e]; exact List.mem_append_left _ hx)))⟩, ih h2 (fun x hx => hp x (by rw [e]; exact List.mem_append_right _ hx)), e⟩
  have hres : ∀ (b : Nat) (sp : Nat → Bool) (hd : Bool), DataW.TrodAll enc P W' b sp hd f.resultTypes.toList ((Value.bool true).resultList f.resultTypes.size) (s.fn H (ds ++ [])).results [] := fun b sp hd => by
    simp only [List.append_nil, hfn, hrt]
    exact ⟨[], [], ⟨1, by simp [DataW.trod, Value.cells, hbt]⟩, rfl, rfl⟩
  have hsp : ∀ sp : Nat → Bool, (∀ x, x ∈ before → sp x.block = true) → DataW.TrodAll enc P W' 0 sp true f.params.toList args.toList (s.fn H (ds ++ [])).args before := fun sp hx => by
    simp only [List.append_nil, hfn]
    exact hcarry (DataW.TrodAll.respare K hz hT hA hx) hlt
  have hvars : ∀ sp : Nat → Bool, DataW.TrodVars enc P W' sp s.vars (s.fn H (ds ++ [])).vars [] := fun sp => by
    simp only [List.append_nil, hfn, hv]; rfl
  refine ⟨ds, [], before, [], before, [], hW, hres _ _ _, hsp _ (fun x hx => decide_eq_true (hlt x hx)), hvars _, hS.keptBut _, fun h => Bool.noConfusion h⟩
end
end Go.D

/- A statement's row: a law whose small code answers true over whatever read-only arguments holds. -/
namespace Go.D
set_option linter.all false
variable [Tabs]
open Go.ChangeShapes Go.WideShapes

def paramTy (P : Program) (d : Nat) (t : TypeId) : Option (Bool × List TY) :=
  match tyOf P d t with
  | some l => match P.underlying t with
    | some (.struct _) => some (true, l)
    | some (.array _ _) => some (true, l)
    | some (.int _) => some (false, l)
    | some .bool => some (false, l)
    | some (.slice _) => some (false, l)
    | _ => none
  | none => none
def paramTys (P : Program) (d : Nat) : List TypeId → Option (List (Bool × List TY))
  | [] => some []
  | t :: ts => match paramTy P d t, paramTys P d ts with
    | some x, some l => some (x :: l)
    | _, _ => none

def hasV (h : List Blk) : Bool × List TY → V → Prop
  | (true, l), v => ∃ ss, v = .agg ss ∧ hasTs h l ss
  | (false, l), v => ∃ s, v = .s s ∧ hasTs h l [s]
def hasVs (h : List Blk) : List (Bool × List TY) → List V → Prop
  | [], [] => True
  | t :: ts, v :: vs => hasV h t v ∧ hasVs h ts vs
  | _, _ => False

theorem hasV_mono {h h' : List Blk} {t : Bool × List TY} {v : V} (H : hasV h t v) : hasV (h ++ h') t v := by
  obtain ⟨b, l⟩ := t
  cases b with
  | true => obtain ⟨ss, e, H⟩ := H; exact ⟨ss, e, hasTs_mono H⟩
  | false => obtain ⟨s, e, H⟩ := H; exact ⟨s, e, hasTs_mono H⟩

section
variable {H : Type} {enc : TypeId × Value → H} {P : Program} {w : World}

theorem V.tr_old {σ σ' : Sg} {n : Nat} (hA : ∀ k, k < n → σ' (.g k) = σ (.g k)) {v : V} (hv : v.val n 0 = true) : v.tr σ' = v.tr σ :=
  V.tr_congr (n := n) (m := 0) (fun r hr => by
    cases r with
    | g k => exact hA k (by simpa [R.val] using hr)
    | l k => simp [R.val] at hr) v hv

theorem open_arg {r : Reach} {base : Nat} {t : TypeId} {v : Value} {d : DataW H} {p : List MemPlace} {D : Nat} {x : Bool × List TY} {sp : Nat → Bool} {held : Bool} {b0 : Nat}
    (hok : Value.okWide P w r base t v) (ht : DataW.Trod enc P w b0 sp held t v d p) (hx : paramTy P D t = some x) (hw : ∀ k, k ∈ d.weights P t → k ≤ reachBytes) :
    ∀ (σ : Sg) (h : List Blk), RO σ h w → ∃ (h' : List Blk) (σ' : Sg) (u : V), (∀ k, k < h.length → σ' (.g k) = σ (.g k)) ∧ RO σ' (h ++ h') w ∧ hasV (h ++ h') x u ∧ u.tr σ' = v ∧ u.val (h ++ h').length 0 = true ∧ u.known = true := by
  obtain ⟨n, ht⟩ := ht
  unfold paramTy at hx
  split at hx
  · rename_i l hl
    have agg : ∀ cs, v = .agg cs → Row.okWide P w r base t cs → x = (true, l) → ∀ (σ : Sg) (h : List Blk), RO σ h w → ∃ (h' : List Blk) (σ' : Sg) (u : V), (∀ k, k < h.length → σ' (.g k) = σ (.g k)) ∧ RO σ' (h ++ h') w ∧ hasV (h ++ h') x u ∧ u.tr σ' = v ∧ u.val (h ++ h').length 0 = true ∧ u.known = true := by
      intro cs hv hr hx σ h hR
      subst hv; subst hx
      obtain ⟨h', σ', ss, a1, a2, a3, a4, a5, a6⟩ := open_trod D n t cs.toList (d, p) l ht hl hw σ h hR
      refine ⟨h', σ', .agg ss, a1, a2, ⟨ss, rfl, a3⟩, ?_, a5, a6⟩
      simp only [V.tr, trs, a4, Array.toArray_toList]
    have one : v.cells = #[v] → x = (false, l) → ∀ (σ : Sg) (h : List Blk), RO σ h w → ∃ (h' : List Blk) (σ' : Sg) (u : V), (∀ k, k < h.length → σ' (.g k) = σ (.g k)) ∧ RO σ' (h ++ h') w ∧ hasV (h ++ h') x u ∧ u.tr σ' = v ∧ u.val (h ++ h').length 0 = true ∧ u.known = true := by
      intro hc hx σ h hR
      subst hx
      rw [hc] at ht
      obtain ⟨h', σ', ss, a1, a2, a3, a4, a5, a6⟩ := open_trod D n t [v] (d, p) l ht hl hw σ h hR
      match ss, a4 with
      | [s], a4 =>
        simp only [List.map_cons, List.map_nil, List.cons.injEq, and_true] at a4
        refine ⟨h', σ', .s s, a1, a2, ⟨s, rfl, a3⟩, a4, ?_, ?_⟩
        · simpa [vals, V.val] using a5
        · simpa [known_cons, known_nil] using a6
    unfold Value.okWide at hok
    split at hx <;> rename_i hu <;> simp only [hu, Option.some.injEq] at hok hx
    · obtain ⟨cs, hv, _, hr⟩ := hok; exact agg cs hv hr hx.symm
    · obtain ⟨cs, hv, _, hr⟩ := hok; exact agg cs hv hr hx.symm
    · refine one ?_ hx.symm
      unfold Cell.okWide at hok; rw [hu] at hok
      cases v <;> first | rfl | (simp [Cell.ok, hu] at hok)
    · refine one ?_ hx.symm
      unfold Cell.okWide at hok; rw [hu] at hok
      cases v <;> first | rfl | (simp [Cell.ok, hu] at hok)
    · refine one ?_ hx.symm
      unfold Cell.okWide at hok; rw [hu] at hok
      cases v <;> first | rfl | (simp [Cell.ok, hu] at hok)
    · cases hx
  · cases hx

theorem open_args {r : Reach} {base D : Nat} {sp : Nat → Bool} {held : Bool} {b0 : Nat} : ∀ (ts : List TypeId) (vs : List Value) (ds : List (DataW H)) (p : List MemPlace) (xs : List (Bool × List TY)),
    (∀ (j : Nat) t v, ts[j]? = some t → vs[j]? = some v → Value.okWide P w r base t v) → DataW.TrodAll enc P w b0 sp held ts vs ds p → paramTys P D ts = some xs → (∀ (j : Nat) t d, ts[j]? = some t → ds[j]? = some d → ∀ k, k ∈ d.weights P t → k ≤ reachBytes) →
    ∀ (σ : Sg) (h : List Blk), RO σ h w → ∃ (h' : List Blk) (σ' : Sg) (us : List V), (∀ k, k < h.length → σ' (.g k) = σ (.g k)) ∧ RO σ' (h ++ h') w ∧ hasVs (h ++ h') xs us ∧ us.map (V.tr σ') = vs ∧ us.all (V.val (h ++ h').length 0) = true ∧ us.all V.known = true
  | [], vs, ds, p, xs, _, ht, hx, _ => fun σ h hR => by
    obtain ⟨rfl, rfl, rfl⟩ := trodAll_nil ht
    simp only [paramTys, Option.some.injEq] at hx
    subst hx
    exact ⟨[], σ, [], fun _ _ => rfl, by simpa using hR, trivial, rfl, rfl, rfl⟩
  | t :: ts, vs, ds, p, xs, hok, ht, hx, hw => fun σ h hR => by
    obtain ⟨v, vs', d, ds', p', q, rfl, rfl, rfl, h0, h1⟩ := trodAll_cons ht
    simp only [paramTys] at hx
    split at hx
    · rename_i x l hx1 hx2
      cases hx
      obtain ⟨ha, σa, u, a1, a2, a3, a4, a5, a6⟩ := open_arg (hok 0 t v rfl rfl) h0 hx1 (hw 0 t d rfl rfl) σ h hR
      obtain ⟨hb, σb, us, b1, b2, b3, b4, b5, b6⟩ := open_args ts vs' ds' q l (fun j t v ht hv => hok (j + 1) t v (by simpa using ht) (by simpa using hv)) h1 hx2 (fun j t d ht hd => hw (j + 1) t d (by simpa using ht) (by simpa using hd)) σa (h ++ ha) a2
      refine ⟨ha ++ hb, σb, u :: us, fun k hk => ?_, by rw [← List.append_assoc]; exact b2, ?_, ?_, ?_, ?_⟩
      · rw [b1 k (by simp; omega), a1 k hk]
      · rw [← List.append_assoc]; exact ⟨hasV_mono a3, b3⟩
      · rw [List.map_cons, b4, V.tr_old b1 a5, a4]
      · rw [← List.append_assoc, List.all_cons, Bool.and_eq_true]
        exact ⟨V.val_mono (by simp) (Nat.le_refl _) a5, b5⟩
      · rw [List.all_cons, Bool.and_eq_true]; exact ⟨a6, b6⟩
    · cases hx
end

def Law (S : FSpec) (xs : List (Bool × List TY)) : Prop := ∀ (h : List Blk) (us : List V), hasVs h xs us → clean h.length h = true → S us h fun v _ => v = .s (.b true)

theorem law_calls {P : Program} {H : Type} {enc : TypeId × Value → H} {W : World} {f : FuncId} {S : FSpec} {r : Reach} {base D : Nat} {ts : List TypeId} {args : Array Value} {ds : List (DataW H)} {p : List MemPlace} {xs : List (Bool × List TY)} {sp : Nat → Bool} {held : Bool} {b0 : Nat}
    (hT : ∀ x, x ∈ Tabs.cells → W.cell? ⟨x.1, x.2.1, none⟩ = some x.2.2 ∧ x.1 < W.heap.size) (hS : Snd P f S) (hL : Law S xs) (hok : ∀ (j : Nat) t v, ts[j]? = some t → args[j]? = some v → Value.okWide P W r base t v) (ht : DataW.TrodAll enc P W b0 sp held ts args.toList ds p) (hx : paramTys P D ts = some xs) (hw : ∀ (j : Nat) t d, ts[j]? = some t → ds[j]? = some d → ∀ k, k ∈ d.weights P t → k ≤ reachBytes) :
    Calls P f args W fun e W' => e = .returned (.bool true) ∧ Still W W' := by
  have hR0 : RO (fun _ => (0, 0)) [] W := ⟨fun k B hB => by simp at hB, fun B hB => by cases hB⟩
  obtain ⟨h, σ, us, _, hR, hV, he, hval, hk⟩ := open_args ts args.toList ds p xs (fun j t v h1 h2 => hok j t v h1 (by simpa using h2)) ht hx hw _ [] hR0
  simp only [List.nil_append] at hR hV hval
  have hcl : clean h.length h = true := by
    simp only [clean, List.all_eq_true]
    exact hR.val
  have hc := hS σ h W us _ hR.sim (fun x hx => ⟨(hT x hx).1, (hT x hx).2, fun k B hB hst => absurd hst (hR.ok k B hB).1⟩) hval hk (hL h us hV hcl)
  have ha : (us.map (V.tr σ)).toArray = args := by rw [he]
  rw [ha] at hc
  refine hc.mono fun e W' ⟨v, h', σ', e1, _, _, hI, e2⟩ => ?_
  subst e2
  refine ⟨e1, hI.kept.same.os, hI.kept.same.output, fun b hb => hI.kept.keep b hb fun k B hB hst => ?_⟩
  exact absurd hst (hR.ok k B hB).1

/-! ### the row -/
def slicesFull (P : Program) : Bool := (List.range P.types.size).all fun t => match P.underlying t with
  | some (.slice e) => decide (0 < P.cellsOf e)
  | _ => true

theorem trodAll_length {H : Type} {enc : TypeId × Value → H} {P : Program} {w : World} {b0 : Nat} {sp : Nat → Bool} {held : Bool} : ∀ {ts : List TypeId} {vs : List Value} {ds : List (DataW H)} {p : List MemPlace}, DataW.TrodAll enc P w b0 sp held ts vs ds p → ds.length = ts.length
  | [], vs, ds, p, h => by obtain ⟨_, rfl, _⟩ := trodAll_nil h; rfl
  | t :: ts, vs, ds, p, h => by
    obtain ⟨v, vs', d, ds', p', q, rfl, rfl, rfl, _, h1⟩ := trodAll_cons h
    simp [trodAll_length h1]

structure RowOk (P : Program) (f : FuncId) (fn : Func) (s : ChangeSpec) (xs : List (Bool × List TY)) : Prop where
  own : ownKnob P.godebug = none
  noTabs : Tabs.cells = []
  noInit : P.inits.idxOf? f = none
  isf : P.funcs[f]? = some fn
  laid : laidOutB P = true
  rowed : mapsRowed P = true
  full : slicesFull P = true
  params : fn.params.toList.all (fun t => decide (t < P.types.size)) = true
  vars : s.vars = []
  ret : ∃ bt, fn.resultTypes = #[bt] ∧ P.underlying bt = some .bool
  spec : ∀ (H : Type) (ds : List (DataW H)), ds.length = fn.params.toList.length → s.fn H ds = { results := [.lit (.bool true)], args := ds }
  tys : ∃ D, paramTys P D fn.params.toList = some xs

theorem RowOk.calls {P : Program} {f : FuncId} {fn : Func} {s : ChangeSpec} {xs : List (Bool × List TY)} (R : RowOk P f fn s xs) {S : FSpec} (hS : Snd P f S) (hL : Law S xs)
    {H : Type} {enc : TypeId × Value → H} {W : World} {base : Nat} {r : Reach} {args : Array Value} {ds gs : List (DataW H)} {before : List MemPlace} {apart fresh handsOn : Bool}
    (hval : ∀ (j : Nat) t v, fn.params[j]? = some t → args[j]? = some v → Value.okWide P W r base t v) (hW : DataW.Whole enc P fn.params.toList s.vars apart W args.toList ds gs before)
    (hZ : (DataW.weightsEach P (fn.params.toList ++ s.plain.varTypes P) (ds ++ gs)).all (· ≤ reachBytes) = true) :
    Calls P f args W fun e W' => ∃ v, e = .returned v ∧ s.post enc P fn apart fresh handsOn false W args v W' := by
  obtain ⟨D, hx⟩ := R.tys
  obtain ⟨bt, hrt, hbt⟩ := R.ret
  obtain ⟨p, q, hA, hV, hb, hfz, hnd⟩ := id hW
  have hc := law_calls (fun x hx => by rw [R.noTabs] at hx; cases hx) hS hL (fun j t v h1 h2 => hval j t v (by simpa using h1) h2) hA hx (fun j t d ht hd k hk => by
    have h1 : (fn.params.toList ++ s.plain.varTypes P)[j]? = some t := by rw [List.getElem?_append_left (List.getElem?_eq_some_iff.1 ht).1]; exact ht
    have h2 : (ds ++ gs)[j]? = some d := by rw [List.getElem?_append_left (List.getElem?_eq_some_iff.1 hd).1]; exact hd
    have h3 := List.all_eq_true.1 hZ _ (DataW.weights_mem_each h1 h2 k hk)
    simpa using h3)
  refine hc.mono fun e W' ⟨he, hst⟩ => ⟨_, he, ?_⟩
  have hgs : gs = [] := by
    rw [R.vars] at hV; exact (trodVars_none hV).1
  subst hgs
  refine law_post (kids_rows R.laid R.rowed) (fun t e ht hu => ?_) (fun t ht => ?_) R.vars hbt hrt ?_ hW hst
  · have := R.full
    simp only [slicesFull, List.all_eq_true, List.mem_range] at this
    have := this t ht
    rw [hu] at this
    simpa using this
  · have := R.params
    simp only [List.all_eq_true, decide_eq_true_eq] at this
    exact this t ht
  · simp only [List.append_nil]
    exact R.spec H ds (trodAll_length hA)

theorem RowOk.lifted {C : Checked} {f : FuncId} {fn : Func} {s : ChangeSpec} {xs : List (Bool × List TY)} (R : RowOk C.prog f fn s xs) {S : FSpec} (hS : Snd C.prog f S) (hL : Law S xs) {os : Os} (started : os.Started) {H : Type} {enc : TypeId × Value → H} {conds : List PathCond} {apart fresh handsOn : Bool}
    (witness : ∃ (w : World) (tape : Tape) (i : Input), w.os = os ∧ (w.forCall tape i).Shaped C.prog ∧ i.vars = [] ∧ Input.okWide C.prog (w.forCall tape i) .any w.heap.size f i ∧
      s.pre6 enc C.prog fn conds apart (w.forCall tape i).memory i.args ∧ ({} : Assume).holds C.prog (lone (Frame.enter C.prog f i.args .normal) [] (w.forCall tape i))) :
    ReturnsInHanded {} C os f .any (s.pre6 enc C.prog fn conds apart) (s.post enc C.prog fn apart fresh handsOn false) :=
  returnsInHanded_of_change_sized R.own started R.noInit R.isf witness fun _ _ _ _ _ _ hval hW _ hZ _ => R.calls hS hL hval hW hZ

end Go.D

/- The facts of the rows of this seat. -/
namespace Go.Proofs.Ytpmobbehdpgnbaa
open Go.D
set_option linter.all false
set_option maxRecDepth 100000

theorem own : ownKnob Try.prog.godebug = none := by kernel_rfl
theorem laid : laidOutB Try.prog = true := by kernel_rfl
theorem rowed : mapsRowed Try.prog = true := by kernel_rfl
theorem full : slicesFull Try.prog = true := by kernel_rfl

theorem hasTs_cons {h : List Blk} {t : TY} {ts : List TY} {ss : List S} (H : hasTs h (t :: ts) ss) : ∃ s ss', ss = s :: ss' ∧ hasT h t s ∧ hasTs h ts ss' := by
  cases ss with
  | nil => exact H.elim
  | cons s ss => exact ⟨s, ss, rfl, H.1, H.2⟩
theorem hasTs_nil {h : List Blk} {ss : List S} (H : hasTs h [] ss) : ss = [] := by
  cases ss with
  | nil => rfl
  | cons s ss => exact H.elim
theorem law1 {h : List Blk} {x : Bool × List TY} {us : List V} (H : hasVs h [x] us) : ∃ u, us = [u] ∧ hasV h x u := by
  match us, H with
  | [u], H => exact ⟨u, rfl, H.1⟩
  | [], H => exact H.elim
  | _ :: _ :: _, H => exact H.2.elim
end Go.Proofs.Ytpmobbehdpgnbaa

