/- Regions whose order is drawn: what may be taken first, over contexts that grow. -/
import Derived.StillTail
import Derived.OrdersHeld
import Derived.Deep.Quiet
namespace Go.D
set_option linter.all false

section
variable {P : Program} {ops : Array Oper} {md : Region.Mode} {Q : Exit → Act → World → Prop} {C : Type}

/-- From a context on an operation yields its value, and leaves a world of the context. -/
def UpIn (P : Program) (ops : Array Oper) (Ok : C → World → Prop) (le : C → C → Prop) (o : Oper) (v : Value) (a : Act) (c : C) : Prop := ∀ c', le c c' → YieldsIn P ops (Ok c') o v a

/-- What a listed operation waits for is listed. -/
def Closed (md : Region.Mode) (ops : Array Oper) (listed : Array Bool) : Prop :=
  listed.size = ops.size ∧ ∀ j oj, ops[j]? = some oj → listed.getD j false = true → ∀ e ∈ oj.after, Region.binds md e = true → listed.getD e.on false = true

theorem Closed.set {i : Nat} {listed : Array Bool} (inv : Closed md ops listed) (hi : i ∈ Region.ready md ops listed) : Closed md ops (listed.setIfInBounds i true) := by
  obtain ⟨_, oi, hoi, hall⟩ := mem_ready.1 hi
  refine ⟨by simp [inv.1], fun j oj hj hl e he hb => ?_⟩
  by_cases hij : i = j
  · subst hij
    have : oj = oi := Option.some.inj (hj.symm.trans hoi)
    subst this
    exact getD_set_true (hall e he hb)
  · rw [getD_set_ne false hij] at hl
    exact getD_set_true (inv.2 j oj hj hl e he hb)

/-- Those that wait for the i-th one, directly or not: marks, one an operation. -/
def waitsOn (md : Region.Mode) (ops : Array Oper) (i : Nat) : Nat → List Bool
  | 0 => []
  | k + 1 => let l := waitsOn md ops i k
    l ++ [k == i || match ops[k]? with
      | some o => o.after.any fun e => Region.binds md e && l.getD e.on false
      | none => false]

theorem waitsOn_length {i : Nat} : ∀ k : Nat, (waitsOn md ops i k).length = k
  | 0 => rfl
  | k + 1 => by simp [waitsOn, waitsOn_length k]

theorem waitsOn_spec {i : Nat} {listed : Array Bool} (inv : Closed md ops listed) : ∀ k j : Nat, (waitsOn md ops i k).getD j false = true → listed.getD j false = true → listed.getD i false = true
  | 0, j, h, _ => by simp [waitsOn] at h
  | k + 1, j, h, hl => by
    simp only [waitsOn, List.getD_eq_getElem?_getD] at h
    rcases Nat.lt_or_ge j k with hj | hj
    · rw [List.getElem?_append_left (by rw [waitsOn_length]; exact hj)] at h
      exact waitsOn_spec inv k j (by rw [List.getD_eq_getElem?_getD]; exact h) hl
    · rcases Nat.lt_or_ge j (k + 1) with hj2 | hj2
      · have : j = k := by omega
        subst this
        rw [List.getElem?_append_right (by rw [waitsOn_length]; omega), waitsOn_length, Nat.sub_self] at h
        simp only [List.getElem?_cons_zero, Option.getD_some, Bool.or_eq_true, beq_iff_eq] at h
        rcases h with h | h
        · subst h; exact hl
        · split at h
          · rename_i o ho
            obtain ⟨e, he, hb⟩ := Array.any_eq_true'.1 h
            simp only [Bool.and_eq_true] at hb
            exact waitsOn_spec inv j e.on hb.2 (inv.2 j o ho hl e he hb.1)
          · cases h
      · rw [List.getElem?_eq_none (by simp [waitsOn_length]; omega)] at h
        cases h

/-- All from the n-th one on wait for all before. -/
def barB (md : Region.Mode) (ops : Array Oper) (n : Nat) : Bool :=
  (List.range n).all fun i => let l := waitsOn md ops i ops.size
    (List.range ops.size).all fun t => decide (t < n) || l.getD t false

theorem waitsOn_ready {i t : Nat} {listed : Array Bool} (inv : Closed md ops listed) (ht : t ∈ Region.ready md ops listed) (hne : t ≠ i) : ∀ k, (waitsOn md ops i k).getD t false = true → listed.getD i false = true
  | 0, h => by simp [waitsOn] at h
  | k + 1, h => by
    simp only [waitsOn, List.getD_eq_getElem?_getD] at h
    rcases Nat.lt_or_ge t k with hj | hj
    · rw [List.getElem?_append_left (by rw [waitsOn_length]; exact hj)] at h
      exact waitsOn_ready inv ht hne k (by rw [List.getD_eq_getElem?_getD]; exact h)
    · rcases Nat.lt_or_ge t (k + 1) with hj2 | hj2
      · have : t = k := by omega
        subst this
        rw [List.getElem?_append_right (by rw [waitsOn_length]; omega), waitsOn_length, Nat.sub_self] at h
        simp only [List.getElem?_cons_zero, Option.getD_some, Bool.or_eq_true, beq_iff_eq, hne, false_or] at h
        split at h
        · rename_i o ho
          obtain ⟨e, he, hb⟩ := Array.any_eq_true'.1 h
          simp only [Bool.and_eq_true] at hb
          obtain ⟨_, o', ho', hall⟩ := mem_ready.1 ht
          have : o = o' := Option.some.inj (ho.symm.trans ho')
          subst this
          exact waitsOn_spec inv _ e.on hb.2 (hall e he hb.1)
        · cases h
      · rw [List.getElem?_eq_none (by simp [waitsOn_length]; omega)] at h
        cases h

theorem barB_ready {n t i : Nat} {listed : Array Bool} (h : barB md ops n = true) (inv : Closed md ops listed) (ht : t ∈ Region.ready md ops listed) (hn : n ≤ t) (hi : i < n) : listed.getD i false = true := by
  simp only [barB, List.all_eq_true, List.mem_range] at h
  have hlt : t < ops.size := by
    obtain ⟨_, o, ho, _⟩ := mem_ready.1 ht
    exact (Array.getElem?_eq_some_iff.1 ho).1
  have := h i hi t hlt
  simp only [Bool.or_eq_true, decide_eq_true_eq] at this
  rcases this with h1 | h1
  · omega
  · exact waitsOn_ready inv ht (by omega) _ h1

/-- Whatever order is picked, till those before the n-th one are done. -/
def wpK (P : Program) (md : Region.Mode) (ops : Array Oper) (Q : Exit → Act → World → Prop) (Ok : C → World → Prop) (le : C → C → Prop) (n : Nat) (L : Array Bool → Act → C → Prop) : Nat → Array Bool → Act → C → Prop
  | 0, listed, a, c => L listed a c
  | f + 1, listed, a, c => ∀ w, Ok c w → Region.ready md ops listed ≠ [] ∧ ∀ i ∈ Region.ready md ops listed, i < n ∧
      wpOp P ops Q i (fun a' w' => ∃ c', le c c' ∧ Ok c' w' ∧ wpK P md ops Q Ok le n L f (listed.setIfInBounds i true) a' c') a w

variable {Ok : C → World → Prop} {le : C → C → Prop}

theorem wpAny_of_wpK {n g : Nat} {L : Array Bool → Act → C → Prop} (hL : ∀ listed a c w, L listed a c → Ok c w → wpAny P md ops Q g listed a w) :
    ∀ (f : Nat) (listed : Array Bool) (a : Act) (c : C) (w : World), Ok c w → wpK P md ops Q Ok le n L f listed a c → wpAny P md ops Q (f + g) listed a w
  | 0, listed, a, c, w, hw, h => by rw [Nat.zero_add]; exact hL _ _ _ _ h hw
  | f + 1, listed, a, c, w, hw, h => by
    rw [show f + 1 + g = (f + g) + 1 by omega]
    obtain ⟨h1, h2⟩ := h w hw
    exact ⟨fun h0 => absurd h0 h1, fun i hi => wpOp_mono (fun a' w' ⟨c', _, h4, h5⟩ => wpAny_of_wpK hL f _ a' c' w' h4 h5) (h2 i hi).2⟩

/-- One operation, apart from another one: a fact of the latter stays. -/
theorem wpOp_putP {j : Nat} {oi oj : Oper} {v : Value} {Y : Act → Prop} (hj : ops[j]? = some oj) (hap : oi.apart ops oj = true) (hsj : ∀ cs b, oj.op ≠ .select cs b)
    (keep : ∀ a, Y a → ∀ u, Y (a.put oj.dst u)) (keepD : ∀ a d, Y a → Y { a with defers := d :: a.defers })
    (hQ : ∀ c a w, Q (.panic c) (a.put oi.dst v) w → Q (.panic c) a w) {K : Act → World → Prop} {a : Act} {w : World}
    (hy : Y a) (h : wpOp P ops Q j K (a.put oi.dst v) w) :
    wpOp P ops Q j (fun a' w' => Y a' ∧ K (a'.put oi.dst v) w') a w := by
  obtain ⟨h1, h2, h3⟩ := Oper.apart_spec hap
  unfold wpOp at *
  simp only [hj] at *
  rw [wanted_put oj a oi.dst v h1] at h
  split
  · rename_i hw
    simp only [hw, if_true] at h
    rcases h with h | ⟨hasks, hlets⟩
    case inr => exact .inr ⟨by unfold Oper.asks at *; rw [execOp_put oj hsj a oi.dst v h1] at hasks; exact hasks, hlets⟩
    refine .inl ?_
    unfold Oper.wp at *
    rw [execOp_put oj hsj a oi.dst v h1] at h
    generalize (execOp a.eval oj).run P w = r at *
    cases r with
    | ok n w' =>
      cases n <;> simp only [Oper.upon] at h ⊢
      case value u => exact ⟨keep a hy u, by rw [← Act.put_comm a v u h2]; exact h⟩
      case skip => exact ⟨keep a hy _, by rw [← Act.put_comm a v undef h2]; exact h⟩
      case defer d =>
        refine ⟨keep _ (keepD a d hy) _, ?_⟩
        rw [← Act.put_comm _ v undef h2, ← Act.put_defers]
        exact h
      case enter f args =>
        refine Calls.mono h fun e w'' he => ?_
        cases e with
        | returned u => exact ⟨keep a hy u, by rw [← Act.put_comm a v u h2]; exact he⟩
        | panicked c => exact hQ _ _ _ he
        | outgrown => exact he
      case row row args => exact Rows.mono h fun u w'' he => ⟨keep a hy u, by rw [← Act.put_comm a v u h2]; exact he⟩
    | halt x w' =>
      cases x <;> simp only [Oper.upon] at h ⊢
      case panic u => exact hQ _ _ _ h
  · rename_i hw
    simp only [hw] at h
    exact ⟨keep a hy _, by rw [← Act.put_comm a v undef h2]; exact h⟩

/-- An operation that yields its value from a context on may be taken first. -/
theorem wpK_first {n i : Nat} {oi : Oper} {v : Value} {L : Array Bool → Act → C → Prop} (hrefl : ∀ c, le c c) (htrans : ∀ {c1 c2 c3 : C}, le c1 c2 → le c2 c3 → le c1 c3)
    (hi : ops[i]? = some oi) (hsel : ∀ (j : Nat) (o : Oper) cs b, ops[j]? = some o → o.op ≠ .select cs b) (hbar : barB md ops n = true) (hin : i < n)
    (hdone : ∀ listed a c, L listed a c → ∀ j ∈ Region.ready md ops listed, n ≤ j) (hQ : ∀ c a w, Q (.panic c) (a.put oi.dst v) w → Q (.panic c) a w) :
    ∀ (f : Nat) (listed : Array Bool) (a : Act) (c : C), Closed md ops listed →
      (∀ j oj, ops[j]? = some oj → j ≠ i → listed.getD j true = false → (∀ e ∈ oj.after, Region.binds md e = true → e.on ≠ i) → oi.apart ops oj = true) →
      i ∈ Region.ready md ops listed → UpIn P ops Ok le oi v a c →
      wpK P md ops Q Ok le n L f (listed.setIfInBounds i true) (a.put oi.dst v) c → wpK P md ops Q Ok le n L (f + 1) listed a c := by
  intro f
  have hlt : ∀ (listed : Array Bool), Closed md ops listed → i ∈ Region.ready md ops listed → ∀ j ∈ Region.ready md ops listed, j < n := fun listed inv hr j hj => by
    rcases Nat.lt_or_ge j n with h | h
    · exact h
    · have h1 := barB_ready hbar inv hj h hin
      have h2 := getD_both (mem_ready.1 hr).1
      rw [h2] at h1; cases h1
  have hme : ∀ (f : Nat) (listed : Array Bool) (a : Act) (c : C) (w : World), Ok c w → UpIn P ops Ok le oi v a c → wpK P md ops Q Ok le n L f (listed.setIfInBounds i true) (a.put oi.dst v) c →
      wpOp P ops Q i (fun a' w' => ∃ c', le c c' ∧ Ok c' w' ∧ wpK P md ops Q Ok le n L f (listed.setIfInBounds i true) a' c') a w := fun f listed a c w hw hy H =>
    wpOp_of_qOp (K := fun a' => a' = a.put oi.dst v) hw (fun a' w' hok e => by subst e; exact ⟨c, hrefl c, hok, H⟩) ((hy c (hrefl c)).qOp hi rfl)
  induction f with
  | zero =>
    intro listed a c inv _ hr hy H w hw
    refine ⟨fun h => (by rw [h] at hr; cases hr), fun j hj => ⟨hlt listed inv hr j hj, ?_⟩⟩
    by_cases hji : j = i
    · subst hji; exact hme 0 listed a c w hw hy H
    · have := hdone _ _ _ H j (ready_mono hj hji)
      have := hlt listed inv hr j hj
      omega
  | succ f ih =>
    intro listed a c inv hfree hr hy H w hw
    refine ⟨fun h => (by rw [h] at hr; cases hr), fun j hj => ⟨hlt listed inv hr j hj, ?_⟩⟩
    by_cases hji : j = i
    · subst hji; exact hme (f + 1) listed a c w hw hy H
    · have h1 := ((H w hw).2 j (ready_mono hj hji)).2
      obtain ⟨hjun, oj, hoj, hall⟩ := mem_ready.1 hj
      have hnot : ∀ e ∈ oj.after, Region.binds md e = true → e.on ≠ i := fun e he hb heq => by
        have h1 := hall e he hb
        rw [heq, getD_both (mem_ready.1 hr).1] at h1
        cases h1
      have hap := hfree j oj hoj hji hjun hnot
      obtain ⟨_, _, h3⟩ := Oper.apart_spec hap
      have h2 := wpOp_putP (Y := fun a => UpIn P ops Ok le oi v a c) hoj hap (fun cs b => hsel j oj cs b hoj)
        (fun a hy u c' hc => (hy c' hc).of_same (execOp_put oi (fun cs b => hsel i oi cs b hi) a oj.dst u h3) (wanted_put oi a oj.dst u h3)) (fun a d hy c' hc => (hy c' hc).of_same rfl rfl) hQ hy h1
      have hfree' : ∀ k ok, ops[k]? = some ok → k ≠ i → (listed.setIfInBounds j true).getD k true = false →
          (∀ e ∈ ok.after, Region.binds md e = true → e.on ≠ i) → oi.apart ops ok = true := fun k ok hk hki hun hno => by
        refine hfree k ok hk hki ?_ hno
        by_cases hjk : j = k
        · subst hjk; exact hjun
        · rw [getD_set_ne true hjk] at hun; exact hun
      refine wpOp_mono (fun a' w' ⟨hy', c', i1, i2, i3⟩ => ⟨c', i1, i2, ih (listed.setIfInBounds j true) a' c' (inv.set hj) hfree' (ready_mono hr (Ne.symm hji)) (fun c2 hc2 => hy' c2 (htrans i1 hc2)) ?_⟩) h2
      rw [Array.setIfInBounds_comm _ _ hji]
      exact i3

/-- The one that may come up comes up. -/
theorem wpK_single {n k f : Nat} {L : Array Bool → Act → C → Prop} {listed : Array Bool} {a : Act} {c : C} (hr : Region.ready md ops listed = [k]) (hk : k < n)
    (h : ∀ w, Ok c w → wpOp P ops Q k (fun a' w' => ∃ c', le c c' ∧ Ok c' w' ∧ wpK P md ops Q Ok le n L f (listed.setIfInBounds k true) a' c') a w) : wpK P md ops Q Ok le n L (f + 1) listed a c := fun w hw => by
  refine ⟨fun h0 => (by rw [hr] at h0; cases h0), fun i hi => ?_⟩
  rw [hr] at hi
  have : i = k := by simpa using hi
  subst this
  exact ⟨hk, h w hw⟩

/-- How the operations are taken: first, alone, or alone and whatever it does. -/
inductive Tk where
  | q (k : Nat)
  | e (k : Nat)
  | b (k : Nat)

def Tk.at : Tk → Nat
  | .q k => k
  | .e k => k
  | .b k => k

/-- Up to where the next ones go. -/
def nextB (m : Nat) : List Tk → Nat
  | [] => m
  | .b k :: _ => k
  | _ :: r => nextB m r

/-- May they be taken so? -/
def okTk (md : Region.Mode) (ops : Array Oper) : Nat → List Tk → Array Bool → Bool
  | n, [], listed => (Region.ready md ops listed).isEmpty && decide (n = ops.size)
  | n, .q k :: r, listed => (Region.ready md ops listed).contains k && Region.free md ops listed k && decide (k < n) && okTk md ops n r (listed.setIfInBounds k true)
  | n, .e k :: r, listed => decide (Region.ready md ops listed = [k]) && decide (k < n) && okTk md ops n r (listed.setIfInBounds k true)
  | n, .b k :: r, listed => decide (Region.ready md ops listed = [k]) && decide (n = k) && barB md ops (nextB ops.size r) && okTk md ops (nextB ops.size r) r (listed.setIfInBounds k true)

end
end Go.D
