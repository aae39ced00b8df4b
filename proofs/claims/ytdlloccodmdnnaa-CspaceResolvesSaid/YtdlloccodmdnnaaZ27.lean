/- Law 10: memories with some caps. -/
import Derived.Test.YtdlloccodmdnnaaZ26
import Derived.JoinedCond
import Derived.SizedLaws
import Derived.KernelRfl
import Derived.Test.YtdlloccodmdnnaaRows
import Derived.Test.YtdlloccodmdnnaaZ21
import Derived.Test.YtdlloccodmdnnaaZ22
import Derived.Test.YtdlloccodmdnnaaZ10
import Derived.Test.YtdlloccodmdnnaaZ25
/- A statement's step: its arguments opened, its answer closed. -/
namespace Go.D
set_option linter.all false
open Go.ChangeShapes Go.WideShapes
section
variable {H : Type} {enc : TypeId × Value → H} {P : Program} {W W' : World}

/-- Behind the call each old block is as it was. -/
structure Still (W W' : World) : Prop where
  os : W'.os = W.os
  output : W'.output = W.output
  heap : ∀ b, b < W.heap.size → W'.heap[b]? = W.heap[b]?

theorem Still.keptBut (h : Still W W') (may : MemPlace → Prop) : W.keptBut W' may := by
  refine ⟨h.os, h.output, fun i hi => ?_⟩
  rw [h.heap i hi]
  split
  · rename_i e1 e2
    cases e1.symm.trans e2
    exact ⟨rfl, rfl, rfl, fun _ _ => rfl⟩
  · rename_i e1 e2
    cases e1.symm.trans e2
    exact .inr ⟨rfl, rfl⟩
  · rfl

theorem Still.cell (h : Still W W') {a : Addr} (ha : a.block < W.heap.size) : W'.cell? a = W.cell? a := by
  simp only [World.cell?, h.heap a.block ha]

theorem Still.frozen (h : Still W W') {a : Addr} (ha : a.block < W.heap.size) : W'.frozen? a = W.frozen? a := by
  simp only [World.frozen?, h.heap a.block ha]

theorem Still.same (h : Still W W') {p : MemPlace} (hp : p.block < W.heap.size) : W.sameAt W' p := by
  cases p with
  | cell b off => exact h.cell hp
  | map b => exact h.heap b hp

/-- The statement's answer: true; the arguments read as before. -/
theorem law_post {T : TypeId → Prop} {f : Func} {s : ChangeSpec} {args : Array Value} {ds gs : List (DataW H)} {before : List MemPlace} {bt : TypeId} (K : Kids P T) (hz : ∀ t e, T t → P.underlying t = some (.slice e) → 0 < P.cellsOf e)
    (hT : ∀ t, t ∈ f.params.toList → T t) (hv : s.vars = []) (hbt : P.underlying bt = some .bool) (hrt : f.resultTypes = #[bt]) (hfn : s.fn H (ds ++ gs) = { results := [.lit (.bool true)], args := ds }) {apart : Bool}
    (hW : DataW.Whole enc P f.params.toList s.vars apart W args.toList ds gs before) (hS : Still W W') {fresh handsOn : Bool} :
    s.post enc P f apart fresh handsOn false W args (.bool true) W' := by
  obtain ⟨p, q, hA, hV, hb, hfz, hnd⟩ := id hW
  have hlt : ∀ x, x ∈ before → x.block < W.heap.size := fun x hx => hW.lt x hx
  rw [hv] at hV
  obtain ⟨rfl, rfl⟩ := trodVars_none hV
  simp only [List.append_nil] at hb hfn
  subst hb
  have hcarry : ∀ {ts : List TypeId} {vs : List Value} {ds : List (DataW H)} {p : List MemPlace} {sp : Nat → Bool}, DataW.TrodAll enc P W 0 sp true ts vs ds p → (∀ x, x ∈ p → x.block < W.heap.size) → DataW.TrodAll enc P W' 0 sp true ts vs ds p := by
    intro ts
    induction ts with
    | nil =>
      intro vs ds p sp h _
      cases vs <;> cases ds <;> first | exact h | exact h.elim
    | cons t ts ih =>
      intro vs ds p sp h hp
      match vs, ds, h with
      | v :: vs, d :: ds, ⟨p1, p2, ⟨n, h1⟩, h2, e⟩ =>
        exact ⟨p1, p2, ⟨n, DataW.trod_carry n _ _ _ h1 (fun x hx => hS.same (hp x (by rw [e]; exact List.mem_append_left _ hx)))⟩, ih h2 (fun x hx => hp x (by rw [e]; exact List.mem_append_right _ hx)), e⟩
  have hres : ∀ (b : Nat) (sp : Nat → Bool) (hd : Bool), DataW.TrodAll enc P W' b sp hd f.resultTypes.toList ((Value.bool true).resultList f.resultTypes.size) (s.fn H (ds ++ [])).results [] := fun b sp hd => by
    simp only [List.append_nil, hfn, hrt]
    exact ⟨[], [], ⟨1, by simp [DataW.trod, Value.cells, hbt]⟩, rfl, rfl⟩
  have hsp : ∀ sp : Nat → Bool, (∀ x, x ∈ before → sp x.block = true) → DataW.TrodAll enc P W' 0 sp true f.params.toList args.toList (s.fn H (ds ++ [])).args before := fun sp hx => by
    simp only [List.append_nil, hfn]
    exact hcarry (DataW.TrodAll.respare K hz hT hA hx) hlt
  have hvars : ∀ sp : Nat → Bool, DataW.TrodVars enc P W' sp s.vars (s.fn H (ds ++ [])).vars [] := fun sp => by
    simp only [List.append_nil, hfn, hv]; rfl
  refine ⟨ds, [], before, [], before, [], hW, hres _ _ _, hsp _ (fun x hx => decide_eq_true (hlt x hx)), hvars _, hS.keptBut _, fun h => Bool.noConfusion h⟩
end
end Go.D

/- A statement's row: a law whose small code answers true over whatever read-only arguments holds. -/
namespace Go.D
set_option linter.all false
open Go.ChangeShapes Go.WideShapes

/-- A parameter: is it an aggregate; its cells. -/
def paramTy (P : Program) (d : Nat) (t : TypeId) : Option (Bool × List TY) :=
  match tyOf P d t with
  | some l => match P.underlying t with
    | some (.struct _) => some (true, l)
    | some (.array _ _) => some (true, l)
    | some (.int _) => some (false, l)
    | some .bool => some (false, l)
    | some (.slice _) => some (false, l)
    | _ => none
  | none => none
def paramTys (P : Program) (d : Nat) : List TypeId → Option (List (Bool × List TY))
  | [] => some []
  | t :: ts => match paramTy P d t, paramTys P d ts with
    | some x, some l => some (x :: l)
    | _, _ => none

/-- A parameter's value. -/
def hasV (h : List Blk) : Bool × List TY → V → Prop
  | (true, l), v => ∃ ss, v = .agg ss ∧ hasTs h l ss
  | (false, l), v => ∃ s, v = .s s ∧ hasTs h l [s]
def hasVs (h : List Blk) : List (Bool × List TY) → List V → Prop
  | [], [] => True
  | t :: ts, v :: vs => hasV h t v ∧ hasVs h ts vs
  | _, _ => False

theorem hasV_mono {h h' : List Blk} {t : Bool × List TY} {v : V} (H : hasV h t v) : hasV (h ++ h') t v := by
  obtain ⟨b, l⟩ := t
  cases b with
  | true => obtain ⟨ss, e, H⟩ := H; exact ⟨ss, e, hasTs_mono H⟩
  | false => obtain ⟨s, e, H⟩ := H; exact ⟨s, e, hasTs_mono H⟩

section
variable {H : Type} {enc : TypeId × Value → H} {P : Program} {w : World}

theorem V.tr_old {σ σ' : Sg} {n : Nat} (hA : ∀ k, k < n → σ' (.g k) = σ (.g k)) {v : V} (hv : v.val n 0 = true) : v.tr σ' = v.tr σ :=
  V.tr_congr (n := n) (m := 0) (fun r hr => by
    cases r with
    | g k => exact hA k (by simpa [R.val] using hr)
    | l k => simp [R.val] at hr) v hv

theorem open_arg {r : Reach} {base : Nat} {t : TypeId} {v : Value} {d : DataW H} {p : List MemPlace} {D : Nat} {x : Bool × List TY} {sp : Nat → Bool} {held : Bool} {b0 : Nat}
    (hok : Value.okWide P w r base t v) (ht : DataW.Trod enc P w b0 sp held t v d p) (hx : paramTy P D t = some x) (hw : ∀ k, k ∈ d.weights P t → k ≤ reachBytes) :
    ∀ (σ : Sg) (h : List Blk), RO σ h w → ∃ (h' : List Blk) (σ' : Sg) (u : V), (∀ k, k < h.length → σ' (.g k) = σ (.g k)) ∧ RO σ' (h ++ h') w ∧ hasV (h ++ h') x u ∧ u.tr σ' = v ∧ u.val (h ++ h').length 0 = true ∧ u.known = true := by
  obtain ⟨n, ht⟩ := ht
  unfold paramTy at hx
  split at hx
  · rename_i l hl
    have agg : ∀ cs, v = .agg cs → Row.okWide P w r base t cs → x = (true, l) → ∀ (σ : Sg) (h : List Blk), RO σ h w → ∃ (h' : List Blk) (σ' : Sg) (u : V), (∀ k, k < h.length → σ' (.g k) = σ (.g k)) ∧ RO σ' (h ++ h') w ∧ hasV (h ++ h') x u ∧ u.tr σ' = v ∧ u.val (h ++ h').length 0 = true ∧ u.known = true := by
      intro cs hv hr hx σ h hR
      subst hv; subst hx
      obtain ⟨h', σ', ss, a1, a2, a3, a4, a5, a6⟩ := open_trod D n t cs.toList (d, p) l ht hl hw σ h hR
      refine ⟨h', σ', .agg ss, a1, a2, ⟨ss, rfl, a3⟩, ?_, a5, a6⟩
      simp only [V.tr, trs, a4, Array.toArray_toList]
    have one : v.cells = #[v] → x = (false, l) → ∀ (σ : Sg) (h : List Blk), RO σ h w → ∃ (h' : List Blk) (σ' : Sg) (u : V), (∀ k, k < h.length → σ' (.g k) = σ (.g k)) ∧ RO σ' (h ++ h') w ∧ hasV (h ++ h') x u ∧ u.tr σ' = v ∧ u.val (h ++ h').length 0 = true ∧ u.known = true := by
      intro hc hx σ h hR
      subst hx
      rw [hc] at ht
      obtain ⟨h', σ', ss, a1, a2, a3, a4, a5, a6⟩ := open_trod D n t [v] (d, p) l ht hl hw σ h hR
      match ss, a4 with
      | [s], a4 =>
        simp only [List.map_cons, List.map_nil, List.cons.injEq, and_true] at a4
        refine ⟨h', σ', .s s, a1, a2, ⟨s, rfl, a3⟩, a4, ?_, ?_⟩
        · simpa [vals, V.val] using a5
        · simpa [known_cons, known_nil] using a6
    unfold Value.okWide at hok
    split at hx <;> rename_i hu <;> simp only [hu, Option.some.injEq] at hok hx
    · obtain ⟨cs, hv, _, hr⟩ := hok; exact agg cs hv hr hx.symm
    · obtain ⟨cs, hv, _, hr⟩ := hok; exact agg cs hv hr hx.symm
    · refine one ?_ hx.symm
      unfold Cell.okWide at hok; rw [hu] at hok
      cases v <;> first | rfl | (simp [Cell.ok, hu] at hok)
    · refine one ?_ hx.symm
      unfold Cell.okWide at hok; rw [hu] at hok
      cases v <;> first | rfl | (simp [Cell.ok, hu] at hok)
    · refine one ?_ hx.symm
      unfold Cell.okWide at hok; rw [hu] at hok
      cases v <;> first | rfl | (simp [Cell.ok, hu] at hok)
    · cases hx
  · cases hx

theorem open_args {r : Reach} {base D : Nat} {sp : Nat → Bool} {held : Bool} {b0 : Nat} : ∀ (ts : List TypeId) (vs : List Value) (ds : List (DataW H)) (p : List MemPlace) (xs : List (Bool × List TY)),
    (∀ (j : Nat) t v, ts[j]? = some t → vs[j]? = some v → Value.okWide P w r base t v) → DataW.TrodAll enc P w b0 sp held ts vs ds p → paramTys P D ts = some xs → (∀ (j : Nat) t d, ts[j]? = some t → ds[j]? = some d → ∀ k, k ∈ d.weights P t → k ≤ reachBytes) →
    ∀ (σ : Sg) (h : List Blk), RO σ h w → ∃ (h' : List Blk) (σ' : Sg) (us : List V), (∀ k, k < h.length → σ' (.g k) = σ (.g k)) ∧ RO σ' (h ++ h') w ∧ hasVs (h ++ h') xs us ∧ us.map (V.tr σ') = vs ∧ us.all (V.val (h ++ h').length 0) = true ∧ us.all V.known = true
  | [], vs, ds, p, xs, _, ht, hx, _ => fun σ h hR => by
    obtain ⟨rfl, rfl, rfl⟩ := trodAll_nil ht
    simp only [paramTys, Option.some.injEq] at hx
    subst hx
    exact ⟨[], σ, [], fun _ _ => rfl, by simpa using hR, trivial, rfl, rfl, rfl⟩
  | t :: ts, vs, ds, p, xs, hok, ht, hx, hw => fun σ h hR => by
    obtain ⟨v, vs', d, ds', p', q, rfl, rfl, rfl, h0, h1⟩ := trodAll_cons ht
    simp only [paramTys] at hx
    split at hx
    · rename_i x l hx1 hx2
      cases hx
      obtain ⟨ha, σa, u, a1, a2, a3, a4, a5, a6⟩ := open_arg (hok 0 t v rfl rfl) h0 hx1 (hw 0 t d rfl rfl) σ h hR
      obtain ⟨hb, σb, us, b1, b2, b3, b4, b5, b6⟩ := open_args ts vs' ds' q l (fun j t v ht hv => hok (j + 1) t v (by simpa using ht) (by simpa using hv)) h1 hx2 (fun j t d ht hd => hw (j + 1) t d (by simpa using ht) (by simpa using hd)) σa (h ++ ha) a2
      refine ⟨ha ++ hb, σb, u :: us, fun k hk => ?_, by rw [← List.append_assoc]; exact b2, ?_, ?_, ?_, ?_⟩
      · rw [b1 k (by simp; omega), a1 k hk]
      · rw [← List.append_assoc]; exact ⟨hasV_mono a3, b3⟩
      · rw [List.map_cons, b4, V.tr_old b1 a5, a4]
      · rw [← List.append_assoc, List.all_cons, Bool.and_eq_true]
        exact ⟨V.val_mono (by simp) (Nat.le_refl _) a5, b5⟩
      · rw [List.all_cons, Bool.and_eq_true]; exact ⟨a6, b6⟩
    · cases hx
end

/-- A law's spec: over whatever arguments it answers true. -/
def Law (S : FSpec) (xs : List (Bool × List TY)) : Prop := ∀ (h : List Blk) (us : List V), hasVs h xs us → clean h.length h = true → S us h fun v _ => v = .s (.b true)

theorem law_calls {P : Program} {H : Type} {enc : TypeId × Value → H} {W : World} {f : FuncId} {S : FSpec} {r : Reach} {base D : Nat} {ts : List TypeId} {args : Array Value} {ds : List (DataW H)} {p : List MemPlace} {xs : List (Bool × List TY)} {sp : Nat → Bool} {held : Bool} {b0 : Nat}
    (hS : Snd P f S) (hL : Law S xs) (hok : ∀ (j : Nat) t v, ts[j]? = some t → args[j]? = some v → Value.okWide P W r base t v) (ht : DataW.TrodAll enc P W b0 sp held ts args.toList ds p) (hx : paramTys P D ts = some xs) (hw : ∀ (j : Nat) t d, ts[j]? = some t → ds[j]? = some d → ∀ k, k ∈ d.weights P t → k ≤ reachBytes) :
    Calls P f args W fun e W' => e = .returned (.bool true) ∧ Still W W' := by
  have hR0 : RO (fun _ => (0, 0)) [] W := ⟨fun k B hB => by simp at hB, fun B hB => by cases hB⟩
  obtain ⟨h, σ, us, _, hR, hV, he, hval, hk⟩ := open_args ts args.toList ds p xs (fun j t v h1 h2 => hok j t v h1 (by simpa using h2)) ht hx hw _ [] hR0
  simp only [List.nil_append] at hR hV hval
  have hcl : clean h.length h = true := by
    simp only [clean, List.all_eq_true]
    exact hR.val
  have hc := hS σ h W us _ hR.sim hval hk (hL h us hV hcl)
  have ha : (us.map (V.tr σ)).toArray = args := by rw [he]
  rw [ha] at hc
  refine hc.mono fun e W' ⟨v, h', σ', e1, _, _, hI, e2⟩ => ?_
  subst e2
  refine ⟨e1, hI.kept.same.os, hI.kept.same.output, fun b hb => hI.kept.keep b hb fun k B hB hst => ?_⟩
  exact absurd hst (hR.ok k B hB).1

/-! ### the row -/
def slicesFull (P : Program) : Bool := (List.range P.types.size).all fun t => match P.underlying t with
  | some (.slice e) => decide (0 < P.cellsOf e)
  | _ => true

theorem trodAll_length {H : Type} {enc : TypeId × Value → H} {P : Program} {w : World} {b0 : Nat} {sp : Nat → Bool} {held : Bool} : ∀ {ts : List TypeId} {vs : List Value} {ds : List (DataW H)} {p : List MemPlace}, DataW.TrodAll enc P w b0 sp held ts vs ds p → ds.length = ts.length
  | [], vs, ds, p, h => by obtain ⟨_, rfl, _⟩ := trodAll_nil h; rfl
  | t :: ts, vs, ds, p, h => by
    obtain ⟨v, vs', d, ds', p', q, rfl, rfl, rfl, _, h1⟩ := trodAll_cons h
    simp [trodAll_length h1]

/-- What is asked of the program and the law's function, by reckoning. -/
structure RowOk (P : Program) (f : FuncId) (fn : Func) (s : ChangeSpec) (xs : List (Bool × List TY)) : Prop where
  own : ownKnob P.godebug = none
  noInit : P.inits.idxOf? f = none
  isf : P.funcs[f]? = some fn
  laid : laidOutB P = true
  rowed : mapsRowed P = true
  full : slicesFull P = true
  params : fn.params.toList.all (fun t => decide (t < P.types.size)) = true
  vars : s.vars = []
  ret : ∃ bt, fn.resultTypes = #[bt] ∧ P.underlying bt = some .bool
  spec : ∀ (H : Type) (ds : List (DataW H)), ds.length = fn.params.toList.length → s.fn H ds = { results := [.lit (.bool true)], args := ds }
  tys : ∃ D, paramTys P D fn.params.toList = some xs

theorem RowOk.calls {P : Program} {f : FuncId} {fn : Func} {s : ChangeSpec} {xs : List (Bool × List TY)} (R : RowOk P f fn s xs) {S : FSpec} (hS : Snd P f S) (hL : Law S xs)
    {H : Type} {enc : TypeId × Value → H} {W : World} {base : Nat} {r : Reach} {args : Array Value} {ds gs : List (DataW H)} {before : List MemPlace} {apart fresh handsOn : Bool}
    (hval : ∀ (j : Nat) t v, fn.params[j]? = some t → args[j]? = some v → Value.okWide P W r base t v) (hW : DataW.Whole enc P fn.params.toList s.vars apart W args.toList ds gs before)
    (hZ : (DataW.weightsEach P (fn.params.toList ++ s.plain.varTypes P) (ds ++ gs)).all (· ≤ reachBytes) = true) :
    Calls P f args W fun e W' => ∃ v, e = .returned v ∧ s.post enc P fn apart fresh handsOn false W args v W' := by
  obtain ⟨D, hx⟩ := R.tys
  obtain ⟨bt, hrt, hbt⟩ := R.ret
  obtain ⟨p, q, hA, hV, hb, hfz, hnd⟩ := id hW
  have hc := law_calls hS hL (fun j t v h1 h2 => hval j t v (by simpa using h1) h2) hA hx (fun j t d ht hd k hk => by
    have h1 : (fn.params.toList ++ s.plain.varTypes P)[j]? = some t := by rw [List.getElem?_append_left (List.getElem?_eq_some_iff.1 ht).1]; exact ht
    have h2 : (ds ++ gs)[j]? = some d := by rw [List.getElem?_append_left (List.getElem?_eq_some_iff.1 hd).1]; exact hd
    have h3 := List.all_eq_true.1 hZ _ (DataW.weights_mem_each h1 h2 k hk)
    simpa using h3)
  refine hc.mono fun e W' ⟨he, hst⟩ => ⟨_, he, ?_⟩
  have hgs : gs = [] := by
    rw [R.vars] at hV; exact (trodVars_none hV).1
  subst hgs
  refine law_post (kids_rows R.laid R.rowed) (fun t e ht hu => ?_) (fun t ht => ?_) R.vars hbt hrt ?_ hW hst
  · have := R.full
    simp only [slicesFull, List.all_eq_true, List.mem_range] at this
    have := this t ht
    rw [hu] at this
    simpa using this
  · have := R.params
    simp only [List.all_eq_true, decide_eq_true_eq] at this
    exact this t ht
  · simp only [List.append_nil]
    exact R.spec H ds (trodAll_length hA)

theorem RowOk.lifted {C : Checked} {f : FuncId} {fn : Func} {s : ChangeSpec} {xs : List (Bool × List TY)} (R : RowOk C.prog f fn s xs) {S : FSpec} (hS : Snd C.prog f S) (hL : Law S xs) {os : Os} (started : os.Started) {H : Type} {enc : TypeId × Value → H} {conds : List PathCond} {apart fresh handsOn : Bool}
    (witness : ∃ (w : World) (tape : Tape) (i : Input), w.os = os ∧ (w.forCall tape i).Shaped C.prog ∧ i.vars = [] ∧ Input.okWide C.prog (w.forCall tape i) .any w.heap.size f i ∧
      s.pre6 enc C.prog fn conds apart (w.forCall tape i).memory i.args ∧ ({} : Assume).holds C.prog (lone (Frame.enter C.prog f i.args .normal) [] (w.forCall tape i))) :
    ReturnsInHanded {} C os f .any (s.pre6 enc C.prog fn conds apart) (s.post enc C.prog fn apart fresh handsOn false) :=
  returnsInHanded_of_change_sized R.own started R.noInit R.isf witness fun _ _ _ _ _ _ hval hW _ hZ _ => R.calls hS hL hval hW hZ

end Go.D

/- The facts of the rows of this seat. -/
namespace Go.Proofs.Ytdlloccodmdnnaa
open Go.D
set_option linter.all false
set_option maxRecDepth 100000

theorem own : ownKnob Try.prog.godebug = none := by kernel_rfl
theorem laid : laidOutB Try.prog = true := by kernel_rfl
theorem rowed : mapsRowed Try.prog = true := by kernel_rfl
theorem full : slicesFull Try.prog = true := by kernel_rfl

theorem hasTs_cons {h : List Blk} {t : TY} {ts : List TY} {ss : List S} (H : hasTs h (t :: ts) ss) : ∃ s ss', ss = s :: ss' ∧ hasT h t s ∧ hasTs h ts ss' := by
  cases ss with
  | nil => exact H.elim
  | cons s ss => exact ⟨s, ss, rfl, H.1, H.2⟩
theorem hasTs_nil {h : List Blk} {ss : List S} (H : hasTs h [] ss) : ss = [] := by
  cases ss with
  | nil => rfl
  | cons s ss => exact H.elim
theorem hasT_int {h : List Blk} {k : IntKind} {s : S} (H : hasT h (.int k) s) : ∃ n, s = .i k n ∧ (Lit.int k n).wf = true := H
theorem hasT_bool {h : List Blk} {s : S} (H : hasT h .bool s) : ∃ b, s = .b b := H
/-- The arguments, one by one. -/
theorem law1 {h : List Blk} {x : Bool × List TY} {us : List V} (H : hasVs h [x] us) : ∃ u, us = [u] ∧ hasV h x u := by
  match us, H with
  | [u], H => exact ⟨u, rfl, H.1⟩
  | [], H => exact H.elim
  | _ :: _ :: _, H => exact H.2.elim
theorem law2 {h : List Blk} {x y : Bool × List TY} {us : List V} (H : hasVs h [x, y] us) : ∃ u v, us = [u, v] ∧ hasV h x u ∧ hasV h y v := by
  match us, H with
  | [u, v], H => exact ⟨u, v, rfl, H.1, H.2.1⟩
  | [], H => exact H.elim
  | [_], H => exact H.2.elim
  | _ :: _ :: _ :: _, H => exact H.2.2.elim
theorem law3 {h : List Blk} {x y z : Bool × List TY} {us : List V} (H : hasVs h [x, y, z] us) : ∃ u v w, us = [u, v, w] ∧ hasV h x u ∧ hasV h y v ∧ hasV h z w := by
  match us, H with
  | [u, v, w], H => exact ⟨u, v, w, rfl, H.1, H.2.1, H.2.2.1⟩
  | [], H => exact H.elim
  | [_], H => exact H.2.elim
  | [_, _], H => exact H.2.2.elim
  | _ :: _ :: _ :: _ :: _, H => exact H.2.2.2.elim
theorem hasV_int {h : List Blk} {k : IntKind} {v : V} (H : hasV h (false, [.int k]) v) : ∃ n, v = .s (.i k n) ∧ (Lit.int k n).wf = true := by
  obtain ⟨s, rfl, ⟨n, rfl, hn⟩, _⟩ := H
  exact ⟨n, rfl, hn⟩

/-- A slice of elements that are read one by one. -/
theorem hasT_arr {α : Type} {c : α → List S} {h : List Blk} {e : List TY} (hd : ∀ ss, hasTs h e ss → ∃ x, ss = c x) : ∀ (E : List (List S)), (∀ x, x ∈ E → hasTs h e x) → ∃ L : List α, E.flatten = arr c L ∧ L.length = E.length
  | [], _ => ⟨[], rfl, rfl⟩
  | x :: E, H => by
    obtain ⟨y, rfl⟩ := hd x (H x List.mem_cons_self)
    obtain ⟨L, e1, e2⟩ := hasT_arr hd E (fun z hz => H z (List.mem_cons_of_mem _ hz))
    exact ⟨y :: L, by simp [arr, e1], by simp [e2]⟩
end Go.Proofs.Ytdlloccodmdnnaa

/- Slices as arguments of a statement. -/
namespace Go.Proofs.Ytdlloccodmdnnaa
open Go.D
set_option linter.all false
set_option maxRecDepth 100000

theorem hasT_arrP {α : Type} {c : α → List S} {p : α → Prop} {h : List Blk} {e : List TY} (hd : ∀ ss, hasTs h e ss → ∃ x, ss = c x ∧ p x) : ∀ (E : List (List S)), (∀ x, x ∈ E → hasTs h e x) → ∃ L : List α, E.flatten = arr c L ∧ L.length = E.length ∧ ∀ x, x ∈ L → p x
  | [], _ => ⟨[], rfl, rfl, fun x hx => by cases hx⟩
  | x :: E, H => by
    obtain ⟨y, rfl, hy⟩ := hd x (H x List.mem_cons_self)
    obtain ⟨L, e1, e2, e3⟩ := hasT_arrP hd E (fun z hz => H z (List.mem_cons_of_mem _ hz))
    refine ⟨y :: L, by simp [arr, e1], by simp [e2], fun z hz => ?_⟩
    rcases List.mem_cons.1 hz with rfl | hz
    · exact hy
    · exact e3 z hz
theorem isArr_of {α : Type} {c : α → List S} {p : α → Prop} {h : List Blk} {e : List TY} {s : S} (hd : ∀ ss, hasTs h e ss → ∃ x, ss = c x ∧ p x) (H : hasT h (.slice e) s) : ∃ L : List α, IsArr c h s L ∧ (∀ x, x ∈ L → p x) ∧ L.length ≤ 140737488355328 := by
  rcases H with rfl | ⟨a, c, rfl⟩ | ⟨j, n, cp, E, st, room, rfl, h1, h2, h3, h4, h5, h6, h7⟩
  · exact ⟨[], .inl ⟨.inl rfl, rfl⟩, (fun x hx => by cases hx), by simp⟩
  · exact ⟨[], .inl ⟨.inr ⟨a, c, rfl⟩, rfl⟩, (fun x hx => by cases hx), by simp⟩
  · obtain ⟨L, e1, e2, e3⟩ := hasT_arrP (c := c) (p := p) hd E h7
    have hn : L.length = n := by omega
    refine ⟨L, .inr ⟨j, cp, st, room, by rw [hn], by rw [← e1]; exact h3, fun h0 e => ?_⟩, e3, ?_⟩
    · have := h5 (by omega)
      rw [this] at e; cases e
    · omega
theorem hasV_slice {α : Type} {c : α → List S} {p : α → Prop} {h : List Blk} {e : List TY} {v : V} (hd : ∀ ss, hasTs h e ss → ∃ x, ss = c x ∧ p x) (H : hasV h (false, [.slice e]) v) : ∃ (s : S) (L : List α), v = .s s ∧ IsArr c h s L ∧ (∀ x, x ∈ L → p x) ∧ L.length ≤ 140737488355328 := by
  obtain ⟨s, rfl, H1, _⟩ := H
  obtain ⟨L, e1, e2, e3⟩ := isArr_of hd H1
  exact ⟨s, L, rfl, e1, e2, e3⟩
def Uw.c (n : Int) : List S := [.i .u64 n]
theorem arr_wc : ∀ L : List Int, arr Uw.c L = wc L
  | [] => rfl
  | x :: L => by simp only [arr, Uw.c, wc_cons, arr_wc L, List.cons_append, List.nil_append]
theorem u64_wf {n : Int} (h : (Lit.int .u64 n).wf = true) : u64 n := by
  have e : (decide ((0 : Int) ≤ n) && decide (n ≤ 18446744073709551615)) = true := h
  simp only [Bool.and_eq_true, decide_eq_true_eq] at e
  simp only [u64]; omega
/-- A slice of words. -/
theorem isList_of {h : List Blk} {s : S} (H : hasT h (.slice [.int .u64]) s) : ∃ L : List Int, IsList h s L ∧ (∀ x, x ∈ L → u64 x) ∧ L.length ≤ 140737488355328 := by
  obtain ⟨L, e1, e2, e3⟩ := isArr_of (c := Uw.c) (p := u64) (fun ss h => by
    obtain ⟨_, _, rfl, ⟨n, rfl, hn⟩, H2⟩ := hasTs_cons h
    obtain rfl := hasTs_nil H2
    exact ⟨n, rfl, u64_wf hn⟩) H
  refine ⟨L, ?_, e2, e3⟩
  rcases e1 with ⟨e0, rfl⟩ | ⟨j, c', st, room, rfl, e1, hd⟩
  · exact .inl ⟨e0, rfl⟩
  · rw [arr_wc] at e1
    rcases Nat.eq_zero_or_pos L.length with h0 | h0
    · exact .inr (.inl ⟨j, 0, c', _, by rw [h0], e1, List.eq_nil_of_length_eq_zero h0⟩)
    · refine .inr (.inr ⟨j, 0, c', _, rfl, e1, hd (by omega), ?_, ?_⟩)
      · simp only [wc_len]; omega
      · simp only; rw [wc_sub, List.drop_zero, List.take_length]
end Go.Proofs.Ytdlloccodmdnnaa

/- Law 07: SlotsBack. -/
namespace Go.Proofs.Ytdlloccodmdnnaa
open Go.D
set_option linter.all false
set_option maxRecDepth 100000
set_option maxHeartbeats 4000000

theorem M.putX_len (m : M) (a : Int) (s : Slot) : (m.putX a s).w.length = m.w.length := by
  unfold M.putX; split
  · exact M.putS_len m a s
  · rfl
theorem M.getX_w (m : M) (a : Int) : (m.getX a).w = m.w := by
  unfold M.getX; split <;> rfl
theorem putE_ok {m : M} {a : Int} {s : Slot} : m.putE a s = 0 ↔ thereB m a = true ∧ slotRB s = true := by
  unfold M.putE
  cases thereB m a <;> cases slotRB s <;> simp
def slot2F (f : Int → Slot → Slot → Res) : List V → Res
  | [.s (.i .i64 a), x, y] => slotF (fun s => slotF (fun t => f a s t) [y]) [x]
  | _ => .bad
theorem slot2F_spec {f : Int → Slot → Slot → Res} {args : List V} {K : V → List Blk → Prop} (h : (slot2F f args).spec K) : ∃ a s t, args = [.s (.i .i64 a), .agg s.cl, .agg t.cl] ∧ (f a s t).spec K := by
  unfold slot2F at h
  split at h
  · obtain ⟨s, e1, h⟩ := slotF_spec h
    obtain ⟨t, e2, h⟩ := slotF_spec h
    simp only [List.cons.injEq, and_true] at e1 e2
    subst e1; subst e2
    exact ⟨_, s, t, rfl, h⟩
  · exact h.elim
def slotsBackG (args : List V) (h : List Blk) : Res := slot2F (fun _ _ _ => .ok (.s (.b true)) [] h) args
end Go.Proofs.Ytdlloccodmdnnaa

/- Law 07: SlotsApart. -/
namespace Go.Proofs.Ytdlloccodmdnnaa
open Go.D
set_option linter.all false
set_option maxRecDepth 100000
set_option maxHeartbeats 4000000

theorem M.putX_there (m : M) (a b : Int) (s : Slot) : thereB (m.putX a s) b = thereB m b := by simp only [thereB, M.putX_len]
theorem M.putX_putE (m : M) (a b : Int) (s t : Slot) : (m.putX a s).putE b t = m.putE b t := by simp only [M.putE, M.putX_there]
theorem M.getX_putE (m : M) (a b : Int) (t : Slot) : (m.getX a).putE b t = m.putE b t := by
  simp only [M.getX]; split <;> rfl
theorem M.getX_getV (m : M) (a b : Int) : (m.getX a).getV b = m.getV b := by
  simp only [M.getX]; split <;> rfl
theorem M.getX_getE (m : M) (a b : Int) : (m.getX a).getE b = m.getE b := by
  simp only [M.getX]; split <;> rfl
theorem M.getX_len (m : M) (a : Int) : (m.getX a).w.length = m.w.length := by rw [M.getX_w]
theorem M.put_get {m : M} {a : Int} {s : Slot} (h : m.putE a s = 0) : (m.putX a s).getV a = s := by
  obtain ⟨ht, hr⟩ := putE_ok.1 h
  obtain ⟨sb, sc⟩ := M.putS_slot ht hr
  simp [M.putX, ht, hr, M.getV, M.putS_there, sb, sc]
theorem M.put_get_other {m : M} {a b : Int} {t : Slot} (hb : thereB m a = true) (hn : b ≠ a) : (m.putX b t).getV a = m.getV a := by
  unfold M.putX
  split
  · rename_i h
    simp only [Bool.and_eq_true] at h
    obtain ⟨x, y⟩ := M.putS_other h.1 h.2 hb hn
    simp only [M.getV, M.putS_there, x, y]
  · rfl
theorem putX_comm (m : M) (a b : Int) (s t : Slot) (hn : a ≠ b) : ((m.putX a s).putX b t).w = ((m.putX b t).putX a s).w := by
  simp only [M.putX]
  by_cases h1 : (thereB m a && slotRB s) = true
  · by_cases h2 : (thereB m b && slotRB t) = true
    · simp only [h1, h2, if_true, M.putS_there]
      simp only [Bool.and_eq_true] at h1 h2
      exact putS_comm h1.1 h2.1 h1.2 h2.2 hn
    · simp only [h1, h2, if_true, if_false, Bool.false_eq_true, M.putS_there]
  · by_cases h2 : (thereB m b && slotRB t) = true
    · simp only [h1, h2, if_true, if_false, Bool.false_eq_true, M.putS_there]
    · simp only [h1, h2, if_false, Bool.false_eq_true]

def pairF (f : Int → Int → Slot → Slot → Res) : List V → Res
  | [.agg [.i .i64 x, .i .i64 y, .i .i64 a, .i .i64 b, .i .i64 c, .i .i64 d, .i .i64 e, .i .i64 g, .i .i64 i, .i .i64 j, .i .i64 k, .i .i64 l, .i .i64 m, .i .i64 p, .i .i64 n, .i .i64 q,
      .i .i64 a2, .i .i64 b2, .i .i64 c2, .i .i64 d2, .i .i64 e2, .i .i64 g2, .i .i64 i2, .i .i64 j2, .i .i64 k2, .i .i64 l2, .i .i64 m2, .i .i64 p2, .i .i64 n2, .i .i64 q2]] =>
    f x y ⟨⟨a, b, c, d, e, g, i, j, k, l, m⟩, p, n, q⟩ ⟨⟨a2, b2, c2, d2, e2, g2, i2, j2, k2, l2, m2⟩, p2, n2, q2⟩
  | _ => .bad
theorem pairF_spec {f : Int → Int → Slot → Slot → Res} {args : List V} {K : V → List Blk → Prop} (h : (pairF f args).spec K) : ∃ (x y : Int) (s t : Slot), args = [.agg (.i .i64 x :: .i .i64 y :: (s.cl ++ t.cl))] ∧ (f x y s t).spec K := by
  unfold pairF at h
  split at h
  · exact ⟨_, _, ⟨⟨_, _, _, _, _, _, _, _, _, _, _⟩, _, _, _⟩, ⟨⟨_, _, _, _, _, _, _, _, _, _, _⟩, _, _, _⟩, rfl, h⟩
  · exact h.elim
def slotsApartG (args : List V) (h : List Blk) : Res := pairF (fun _ _ _ _ => .ok (.s (.b true)) [] h) args
theorem slot_eqB (s : Slot) : (s.cap.ty == s.cap.ty && (s.cap.obj == s.cap.obj && (s.cap.bits == s.cap.bits && (s.cap.mark == s.cap.mark && (s.cap.guard == s.cap.guard && (s.cap.gbits == s.cap.gbits && (s.cap.badge == s.cap.badge && (s.cap.rights == s.cap.rights && (s.cap.asid == s.cap.asid && (s.cap.vaddr == s.cap.vaddr && (s.cap.line == s.cap.line && (s.prev == s.prev && (s.next == s.next && s.depth == s.depth))))))))))))) = true := by simp
end Go.Proofs.Ytdlloccodmdnnaa

/- Law 10: memories with some caps. -/
namespace Go.Proofs.Ytdlloccodmdnnaa
open Go.D
set_option linter.all false
set_option maxRecDepth 100000
set_option maxHeartbeats 8000000

structure Lay where
  at_ : Int
  cap : Cap
def Lay.cl (x : Lay) : List S := .i .i64 x.at_ :: x.cap.cl
theorem Lay.cl_len (x : Lay) : x.cl.length = 12 := rfl
theorem Cap.cl_inj {c d : Cap} (e : c.cl = d.cl) : c = d := by
  obtain ⟨a1, a2, a3, a4, a5, a6, a7, a8, a9, a10, a11⟩ := c
  obtain ⟨b1, b2, b3, b4, b5, b6, b7, b8, b9, b10, b11⟩ := d
  simp only [Cap.cl, List.cons.injEq, S.i.injEq, true_and, and_true] at e
  obtain ⟨rfl, rfl, rfl, rfl, rfl, rfl, rfl, rfl, rfl, rfl, rfl⟩ := e
  rfl
instance : Cells Lay.cl := ⟨⟨12, Lay.cl_len⟩, fun x y e => by
  obtain ⟨a, c⟩ := x
  obtain ⟨b, d⟩ := y
  simp only [Lay.cl, List.cons.injEq, S.i.injEq, true_and] at e
  rw [e.1, Cap.cl_inj e.2]⟩
def layZ : Lay := ⟨0, capZ⟩
def layX (m : M) (x : Lay) : M := m.putX x.at_ ⟨x.cap, 0, 0, 0⟩
def laidW (L : List Lay) : M := (L.take 100).foldl layX (M.zero 12)
/-- The same words, no steps. -/
def M.fresh (m : M) : M := ⟨m.w, 0, m.u, m.l⟩
theorem M.fresh_len (m : M) : m.fresh.w.length = m.w.length := rfl
theorem layX_len (m : M) (x : Lay) : (layX m x).w.length = m.w.length := M.putX_len _ _ _
theorem lays_len : ∀ (L : List Lay) (m : M), (L.foldl layX m).w.length = m.w.length
  | [], _ => rfl
  | x :: L, m => by rw [List.foldl_cons, lays_len L, layX_len]
theorem laidW_len (L : List Lay) : (laidW L).w.length = 4096 := by
  unfold laidW
  rw [lays_len]
  exact M.zero_len 12
theorem M.lay_all {m : M} {vs : List Int} (hl : vs.length = m.w.length) (hu : ∀ v, v ∈ vs → u64 v) : (m.lay 0 vs).w = vs := by
  have h1 := M.lay_w vs m 0 hu
  rw [put_eq _ _ _ (by rw [wc_len, wc_len]; omega), wc_len, List.take_zero, List.drop_of_length_le (by rw [wc_len]; omega)] at h1
  simp only [List.nil_append, List.append_nil] at h1
  exact (wc_inj h1).symm
theorem load_fresh {r : M} (h : r.w.length = 4096) : (M.zero 12).loadX 0 r.w = r.fresh ∧ (M.zero 12).loadE 0 r.w = 0 := by
  have l0 : (M.zero 12).w.length = 4096 := M.zero_len 12
  have hh : (M.zero 12).has 0 r.w.length = true := M.has_of (by omega)
  refine ⟨M.ext' ?_ ?_, ?_⟩
  · rw [M.loadX, if_pos hh]; exact M.lay_all (by rw [l0, h]) r.u
  · rw [M.loadX, if_pos hh, M.lay_n]; rfl
  · rw [M.loadE, if_pos hh]
theorem M.zero_fresh (k : Nat) : (M.zero k).fresh = M.zero k := rfl

/-- Two memories behind what was there. -/
def twoM (h : List Blk) (r m : M) : List Blk := h ++ [MB (h.length + 1) r, MW r, MB (h.length + 3) m, MW m]
theorem twoM_eq (h : List Blk) (r m : M) : memH (memH h r) m = twoM h r m := by
  show h ++ [_, _] ++ [MB ((h ++ [_, _]).length + 1) m, _] = _
  simp [twoM]
noncomputable def laidG : List V → List Blk → Res
  | [.s s], h => match arrOf Lay.cl h s with
    | some L => .ob (L.length ≤ 9223372036854775807) (.ok (.tup [.s (.p (.g (h.length + 2)) 0), .s (.p (.g h.length) 0)]) [] (h ++ [MB (h.length + 1) (laidW L), MW (laidW L), MB (h.length + 3) (laidW L).fresh, MW (laidW L).fresh]))
    | none => .bad
  | _, _ => .bad
noncomputable def Tla : Tab := addT 30 newM (addT 53 put2G (addT 29 newM (addT 54 load2G (noT))))
theorem Tla_snd : Tla.Snd Try.prog := addT_snd ok30 rnew_snd (addT_snd ok53 rput2_snd (addT_snd ok29 new_snd (addT_snd ok54 load2_snd ((noT_snd _)))))
theorem laid10_snd : Snd Try.prog 15 (FSpec.of laidG) := snd_run Tla_snd mixed Try.func15 dc15 300 fun args h K hc hS => by
  unfold laidG at hS
  split at hS
  · split at hS
    · rename_i s _ L e
      obtain ⟨hl, hS⟩ := hS
      simp only [spec_ok] at hS
      have H1 := arrOf_some e
      have hlen := fun ls h' => H1.sl.len (ls := ls) (h := h')
      have hbl : ∀ k, S.below k s = true := H1.sl.below
      have l0 : (M.zero 12).w.length = 4096 := M.zero_len 12
      simp (config := { maxSteps := 10000000 }) only [EV1, EV2, EV3, EV4, EV5, EV6, addT, istep, lenR_sl, lenR_ns, lenR_es, pickR, putD, bin1R, un1R, slcR, bnd, capsOf, fillP, S_plain, V_plain, V.cells, S_known, V_known, C.v, blk, setL, setH, eqS, eq1, cmpS, cmp1, isNil, popTo, killT, setT, leT, V.below, C.below, S_below, R.below, V.val, C.val, S_val, R.val, R.takes, vals, shows, List.any_cons, List.any_nil, unnamed, V.kill, V.names, C.names, S_names, R.names, List.set, List.replicate, ↓q_cond_t, ↓q_cond_f, if_true, if_false, reduceCtorEq, rvals, rvC, result, C_known, V.noL, C.noL, S_noL, R.noL, Option.map, true_and, and_true, ge_iff_le, gt_iff_lt, implies_true, q_ite_t, q_ite_f, beq_iff_eq, bne_iff_ne, q_ne, Nat.reduceAdd, Nat.reducePow, Int.reducePow, Nat.reduceMul, Nat.reduceSub, Nat.reduceLeDiff, Nat.reduceLT, Nat.reduceEqDiff, Int.reduceNeg, Int.reduceLT, Int.reduceLE, Int.reduceEq, Int.reduceNe, Int.reduceAdd, Int.reduceSub, Int.reduceMul, Int.reduceToNat, Int.reduceBEq, Int.reduceBNe, df15, Tla, newM]
      refine loop_rule (α := Nat × M) [6, 14, 15, 16, 17, 18, 19, 20, 21, 22, 23, 24, 25, 26, 27, 28, 29, 30, 31, 32, 33, 34, 35, 36] (fun x => [(6, .s (.i .i64 x.1))]) (fun _ => []) (fun x => memH h x.2) (fun x => x.1 ≤ L.length ∧ x.1 ≤ 100 ∧ x.2 = (L.take x.1).foldl layX (M.zero 12)) (fun x => L.length - x.1) (0, M.zero 12) ⟨Nat.zero_le _, Nat.zero_le _, rfl⟩ ?_ ?_
      · refine Wk.same rfl rfl ?_
        simp (config := { maxSteps := 10000000 }) only [EV1, EV2, EV3, EV4, EV5, EV6, addT, istep, lenR_sl, lenR_ns, lenR_es, pickR, putD, bin1R, un1R, slcR, bnd, capsOf, fillP, S_plain, V_plain, V.cells, S_known, V_known, C.v, blk, setL, setH, eqS, eq1, cmpS, cmp1, isNil, popTo, killT, setT, leT, V.below, C.below, S_below, R.below, V.val, C.val, S_val, R.val, R.takes, vals, shows, List.any_cons, List.any_nil, unnamed, V.kill, V.names, C.names, S_names, R.names, List.set, List.replicate, ↓q_cond_t, ↓q_cond_f, if_true, if_false, reduceCtorEq, rvals, rvC, result, C_known, V.noL, C.noL, S_noL, R.noL, Option.map, true_and, and_true, ge_iff_le, gt_iff_lt, implies_true, q_ite_t, q_ite_f, beq_iff_eq, bne_iff_ne, q_ne, Nat.reduceAdd, Nat.reducePow, Int.reducePow, Nat.reduceMul, Nat.reduceSub, Nat.reduceLeDiff, Nat.reduceLT, Nat.reduceEqDiff, Int.reduceNeg, Int.reduceLT, Int.reduceLE, Int.reduceEq, Int.reduceNe, Int.reduceAdd, Int.reduceSub, Int.reduceMul, Int.reduceToNat, Int.reduceBEq, Int.reduceBNe, q_cast, Int.natCast_zero]
      · rintro X ⟨i, m⟩ ⟨hi, hi2, hm⟩ IH
        simp only at hi hi2 hm IH ⊢
        have fin : ¬ (i < L.length ∧ i < 100) → laidW L = m := fun hx => by
          rw [hm, laidW]
          congr 1
          rcases Nat.lt_or_ge i 100 with h1 | h1
          · rw [List.take_of_length_le (show L.length ≤ 100 by omega), List.take_of_length_le (show L.length ≤ i by omega)]
          · rw [show i = 100 by omega]
        by_cases hx : i < L.length ∧ i < 100
        · obtain ⟨h1, h100⟩ := hx
          obtain ⟨d1, d2, d3, d4⟩ := idx h1 hl
          have d5 : (i : Int) < 100 := by omega
          obtain ⟨j, c', st, room, hse, hj, hd⟩ := H1.at h1
          obtain ⟨x, hx⟩ : ∃ x, nth layZ L i = x := ⟨_, rfl⟩
          have hs : sub (arr Lay.cl L) (i * 12) 12 = x.cl := by rw [← hx, nth_eq h1]; exact arr_sub Lay.cl_len h1
          have g0 : (arr Lay.cl L)[i * 12]? = some (.i .i64 x.at_) := by rw [arr_get0 Lay.cl_len h1 (by omega), ← nth_eq (d := layZ) h1, hx]; rfl
          have g1 : sub (arr Lay.cl L) (i * 12 + 1) 11 = x.cap.cl := by
            have : sub (arr Lay.cl L) (i * 12 + 1) 11 = (sub (arr Lay.cl L) (i * 12) 12).drop 1 := by
              simp only [sub, List.drop_take, List.drop_drop]
            rw [this, hs]; rfl
          have hle : i * 12 + 1 + 11 ≤ (arr Lay.cl L).length := by
            rw [arr_length Lay.cl_len]
            have : (i + 1) * 12 ≤ L.length * 12 := Nat.mul_le_mul_right _ h1
            omega
          have hjl : j < h.length := (List.getElem?_eq_some_iff.1 hj).1
          have hjx : ∀ m, (memH h m)[j]? = some ⟨st, arr Lay.cl L, room⟩ := fun m => by rw [memH, app_getl hjl, hj]
          simp only [Cap.cl] at g1
          refine run_sound (Tab.ok_Γ _) 200 _ _ _ _ ?_
          simp (config := { maxSteps := 10000000 }) only [EV1, EV2, EV3, EV4, EV5, EV6, addT, istep, lenR_sl, lenR_ns, lenR_es, pickR, putD, bin1R, un1R, slcR, bnd, capsOf, fillP, S_plain, V_plain, V.cells, S_known, V_known, C.v, blk, setL, setH, eqS, eq1, cmpS, cmp1, isNil, popTo, killT, setT, leT, V.below, C.below, S_below, R.below, V.val, C.val, S_val, R.val, R.takes, vals, shows, List.any_cons, List.any_nil, unnamed, V.kill, V.names, C.names, S_names, R.names, List.set, List.replicate, ↓q_cond_t, ↓q_cond_f, if_true, if_false, reduceCtorEq, rvals, rvC, result, C_known, V.noL, C.noL, S_noL, R.noL, Option.map, true_and, and_true, ge_iff_le, gt_iff_lt, implies_true, q_ite_t, q_ite_f, beq_iff_eq, bne_iff_ne, q_ne, Nat.reduceAdd, Nat.reducePow, Int.reducePow, Nat.reduceMul, Nat.reduceSub, Nat.reduceLeDiff, Nat.reduceLT, Nat.reduceEqDiff, Int.reduceNeg, Int.reduceLT, Int.reduceLE, Int.reduceEq, Int.reduceNe, Int.reduceAdd, Int.reduceSub, Int.reduceMul, Int.reduceToNat, Int.reduceBEq, Int.reduceBNe, Tla, hse, d1, d2, d3, d4, d5, hjx, hd, g0, g1, hle, memF_new, put2G, put2M, slotF, Int.toNat_natCast, put, fillP]
          refine IH (i + 1, layX m x) _ (by show L.length - (i + 1) < L.length - i; omega) ⟨h1, h100, ?_⟩ (Wk.same rfl rfl ?_)
          · show layX m x = List.foldl layX (M.zero 12) (List.take (i + 1) L)
            rw [List.take_succ_eq_append_getElem h1, List.foldl_append, ← hm, ← hx, nth_eq h1]
            rfl
          · simp (config := { maxSteps := 10000000 }) only [EV1, EV2, EV3, EV4, EV5, EV6, addT, istep, lenR_sl, lenR_ns, lenR_es, pickR, putD, bin1R, un1R, slcR, bnd, capsOf, fillP, S_plain, V_plain, V.cells, S_known, V_known, C.v, blk, setL, setH, eqS, eq1, cmpS, cmp1, isNil, popTo, killT, setT, leT, V.below, C.below, S_below, R.below, V.val, C.val, S_val, R.val, R.takes, vals, shows, List.any_cons, List.any_nil, unnamed, V.kill, V.names, C.names, S_names, R.names, List.set, List.replicate, ↓q_cond_t, ↓q_cond_f, if_true, if_false, reduceCtorEq, rvals, rvC, result, C_known, V.noL, C.noL, S_noL, R.noL, Option.map, true_and, and_true, ge_iff_le, gt_iff_lt, implies_true, q_ite_t, q_ite_f, beq_iff_eq, bne_iff_ne, q_ne, Nat.reduceAdd, Nat.reducePow, Int.reducePow, Nat.reduceMul, Nat.reduceSub, Nat.reduceLeDiff, Nat.reduceLT, Nat.reduceEqDiff, Int.reduceNeg, Int.reduceLT, Int.reduceLE, Int.reduceEq, Int.reduceNe, Int.reduceAdd, Int.reduceSub, Int.reduceMul, Int.reduceToNat, Int.reduceBEq, Int.reduceBNe, hse]
        · have hm := fin hx
          have hlm : m.w.length = 4096 := by rw [← hm]; exact laidW_len L
          rw [hm] at hS
          obtain ⟨q1, q2⟩ := load_fresh hlm
          have hcond : ((i : Int) < L.length) = (i < L.length) := propext (by omega)
          have ha1 : ∀ z, (memH (memH h m) z)[h.length]? = some ⟨.rw, [.sl (.g (h.length + 1)) 0 m.w.length m.w.length, .i .i64 m.n], 2⟩ := fun z => (memH_is1 h m z).ha
          have hL : ∀ z, listOf (memH (memH h m) z) (.sl (.g (h.length + 1)) 0 m.w.length m.w.length) = some m.w := fun z => listOf_at (st := .rw) (room := m.w.length) (memH_is1 h m z).hb (fun x => BK.noConfusion x) rfl
          have hmo : ∀ z, memOf (memH (memH h m) z) (h.length + 2) = some (h.length + 3, z) := fun z => memOf_eq (memH_is2 h m z)
          have hap : apartS (h.length + 3) (.sl (.g (h.length + 1)) 0 m.w.length m.w.length) := by simp only [apartS]; omega
          have hmu : ∀ v, v ∈ m.w → u64 v := m.u
          obtain ⟨z, hz⟩ : ∃ z, M.zero 12 = z := ⟨_, rfl⟩
          rw [hz] at q1 q2
          have h2s : ∀ z', setM (memH (memH h m) z) (h.length + 2) (h.length + 3) z' = twoM h m z' := fun z' => by rw [memH_set2, twoM_eq]
          by_cases c1 : i < L.length
          · have d1 : (i : Int) < L.length := by omega
            have d5 : ¬ (i : Int) < 100 := by omega
            refine run_sound (Tab.ok_Γ _) 300 _ _ _ _ ?_
            simp (config := { maxSteps := 10000000 }) only [EV1, EV2, EV3, EV4, EV5, EV6, addT, istep, lenR_sl, lenR_ns, lenR_es, pickR, putD, bin1R, un1R, slcR, bnd, capsOf, fillP, S_plain, V_plain, V.cells, S_known, V_known, C.v, blk, setL, setH, eqS, eq1, cmpS, cmp1, isNil, popTo, killT, setT, leT, V.below, C.below, S_below, R.below, V.val, C.val, S_val, R.val, R.takes, vals, shows, List.any_cons, List.any_nil, unnamed, V.kill, V.names, C.names, S_names, R.names, List.set, List.replicate, ↓q_cond_t, ↓q_cond_f, if_true, if_false, reduceCtorEq, rvals, rvC, result, C_known, V.noL, C.noL, S_noL, R.noL, Option.map, true_and, and_true, ge_iff_le, gt_iff_lt, implies_true, q_ite_t, q_ite_f, beq_iff_eq, bne_iff_ne, q_ne, Nat.reduceAdd, Nat.reducePow, Int.reducePow, Nat.reduceMul, Nat.reduceSub, Nat.reduceLeDiff, Nat.reduceLT, Nat.reduceEqDiff, Int.reduceNeg, Int.reduceLT, Int.reduceLE, Int.reduceEq, Int.reduceNe, Int.reduceAdd, Int.reduceSub, Int.reduceMul, Int.reduceToNat, Int.reduceBEq, Int.reduceBNe, Tla, hlen, d1, d5, newM, hz, memH_len, ha1, load2G, hmo, hL, hap, hmu, q1, q2, h2s]
            exact ⟨hmu, hS⟩
          · have d1 : ¬ (i : Int) < L.length := by omega
            refine run_sound (Tab.ok_Γ _) 300 _ _ _ _ ?_
            simp (config := { maxSteps := 10000000 }) only [EV1, EV2, EV3, EV4, EV5, EV6, addT, istep, lenR_sl, lenR_ns, lenR_es, pickR, putD, bin1R, un1R, slcR, bnd, capsOf, fillP, S_plain, V_plain, V.cells, S_known, V_known, C.v, blk, setL, setH, eqS, eq1, cmpS, cmp1, isNil, popTo, killT, setT, leT, V.below, C.below, S_below, R.below, V.val, C.val, S_val, R.val, R.takes, vals, shows, List.any_cons, List.any_nil, unnamed, V.kill, V.names, C.names, S_names, R.names, List.set, List.replicate, ↓q_cond_t, ↓q_cond_f, if_true, if_false, reduceCtorEq, rvals, rvC, result, C_known, V.noL, C.noL, S_noL, R.noL, Option.map, true_and, and_true, ge_iff_le, gt_iff_lt, implies_true, q_ite_t, q_ite_f, beq_iff_eq, bne_iff_ne, q_ne, Nat.reduceAdd, Nat.reducePow, Int.reducePow, Nat.reduceMul, Nat.reduceSub, Nat.reduceLeDiff, Nat.reduceLT, Nat.reduceEqDiff, Int.reduceNeg, Int.reduceLT, Int.reduceLE, Int.reduceEq, Int.reduceNe, Int.reduceAdd, Int.reduceSub, Int.reduceMul, Int.reduceToNat, Int.reduceBEq, Int.reduceBNe, Tla, hlen, d1, newM, hz, memH_len, ha1, load2G, hmo, hL, hap, hmu, q1, q2, h2s]
            exact ⟨hmu, hS⟩
    · exact hS.elim
  · exact hS.elim
end Go.Proofs.Ytdlloccodmdnnaa

