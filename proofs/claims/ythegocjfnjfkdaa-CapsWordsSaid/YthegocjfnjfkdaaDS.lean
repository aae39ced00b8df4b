/- A statement's step: its arguments opened, its answer closed. -/
import Derived.Test.YthegocjfnjfkdaaDR
namespace Go.D
set_option linter.all false
open Go.ChangeShapes Go.WideShapes
section
variable {H : Type} {enc : TypeId × Value → H} {P : Program} {W W' : World}

/-- Behind the call each old block is as it was. -/
structure Still (W W' : World) : Prop where
  os : W'.os = W.os
  output : W'.output = W.output
  heap : ∀ b, b < W.heap.size → W'.heap[b]? = W.heap[b]?

theorem Still.keptBut (h : Still W W') (may : MemPlace → Prop) : W.keptBut W' may := by
  refine ⟨h.os, h.output, fun i hi => ?_⟩
  rw [h.heap i hi]
  split
  · rename_i e1 e2
    cases e1.symm.trans e2
    exact ⟨rfl, rfl, rfl, fun _ _ => rfl⟩
  · rename_i e1 e2
    cases e1.symm.trans e2
    exact .inr ⟨rfl, rfl⟩
  · rfl

theorem Still.cell (h : Still W W') {a : Addr} (ha : a.block < W.heap.size) : W'.cell? a = W.cell? a := by
  simp only [World.cell?, h.heap a.block ha]

theorem Still.frozen (h : Still W W') {a : Addr} (ha : a.block < W.heap.size) : W'.frozen? a = W.frozen? a := by
  simp only [World.frozen?, h.heap a.block ha]

theorem Still.same (h : Still W W') {p : MemPlace} (hp : p.block < W.heap.size) : W.sameAt W' p := by
  cases p with
  | cell b off => exact h.cell hp
  | map b => exact h.heap b hp

/-- The statement's answer: true; the arguments read as before. -/
theorem law_post {T : TypeId → Prop} {f : Func} {s : ChangeSpec} {args : Array Value} {ds gs : List (DataW H)} {before : List MemPlace} {bt : TypeId} (K : Kids P T) (hz : ∀ t e, T t → P.underlying t = some (.slice e) → 0 < P.cellsOf e)
    (hT : ∀ t, t ∈ f.params.toList → T t) (hv : s.vars = []) (hbt : P.underlying bt = some .bool) (hrt : f.resultTypes = #[bt]) (hfn : s.fn H (ds ++ gs) = { results := [.lit (.bool true)], args := ds }) {apart : Bool}
    (hW : DataW.Whole enc P f.params.toList s.vars apart W args.toList ds gs before) (hS : Still W W') {fresh handsOn : Bool} :
    s.post enc P f apart fresh handsOn false W args (.bool true) W' := by
  obtain ⟨p, q, hA, hV, hb, hfz, hnd⟩ := id hW
  have hlt : ∀ x, x ∈ before → x.block < W.heap.size := fun x hx => hW.lt x hx
  rw [hv] at hV
  obtain ⟨rfl, rfl⟩ := trodVars_none hV
  simp only [List.append_nil] at hb hfn
  subst hb
  have hcarry : ∀ {ts : List TypeId} {vs : List Value} {ds : List (DataW H)} {p : List MemPlace} {sp : Nat → Bool}, DataW.TrodAll enc P W 0 sp true ts vs ds p → (∀ x, x ∈ p → x.block < W.heap.size) → DataW.TrodAll enc P W' 0 sp true ts vs ds p := by
    intro ts
    induction ts with
    | nil =>
      intro vs ds p sp h _
      cases vs <;> cases ds <;> first | exact h | exact h.elim
    | cons t ts ih =>
      intro vs ds p sp h hp
      match vs, ds, h with
      | v :: vs, d :: ds, ⟨p1, p2, ⟨n, h1⟩, h2, e⟩ =>
        exact ⟨p1, p2, ⟨n, DataW.trod_carry n _ _ _ h1 (fun x hx => hS.same (hp x (by rw [e]; exact List.mem_append_left _ hx)))⟩, ih h2 (fun x hx => hp x (by rw [e]; exact List.mem_append_right _ hx)), e⟩
  have hres : ∀ (b : Nat) (sp : Nat → Bool) (hd : Bool), DataW.TrodAll enc P W' b sp hd f.resultTypes.toList ((Value.bool true).resultList f.resultTypes.size) (s.fn H (ds ++ [])).results [] := fun b sp hd => by
    simp only [List.append_nil, hfn, hrt]
    exact ⟨[], [], ⟨1, by simp [DataW.trod, Value.cells, hbt]⟩, rfl, rfl⟩
  have hsp : ∀ sp : Nat → Bool, (∀ x, x ∈ before → sp x.block = true) → DataW.TrodAll enc P W' 0 sp true f.params.toList args.toList (s.fn H (ds ++ [])).args before := fun sp hx => by
    simp only [List.append_nil, hfn]
    exact hcarry (DataW.TrodAll.respare K hz hT hA hx) hlt
  have hvars : ∀ sp : Nat → Bool, DataW.TrodVars enc P W' sp s.vars (s.fn H (ds ++ [])).vars [] := fun sp => by
    simp only [List.append_nil, hfn, hv]; rfl
  refine ⟨ds, [], before, [], before, [], hW, hres _ _ _, hsp _ (fun x hx => decide_eq_true (hlt x hx)), hvars _, hS.keptBut _, fun h => Bool.noConfusion h⟩
end
end Go.D
