/- A part of the proof of the claim that the last text of this folder states. -/
import Derived.Laws.Entries
import Derived.Laws.Bits64b
import Derived.Test.YtebgbhgehnpahaaGreatDoorS00
namespace Go.E
set_option linter.all false
noncomputable def gtV (p : Pth) : T → V := Pth.rec (motive := fun _ => T → V) (fun i j t => N8.g j (N8.g i t.s)) (fun i j k t => N8.g k (N8.g j (N8.g i t.t))) (fun n t => lkF vu n t.o) p
theorem gtV_eq (p : Pth) (t : T) : gtV p t = gt vu p t := rfl
section
variable {α β : Type}
noncomputable def N8.uK (i : D8) : N8 α → (α → (α → β) → β) → (N8 α → β) → β := D8.rec (motive := fun _ => N8 α → (α → (α → β) → β) → (N8 α → β) → β)
  (fun x f k => N8.rec (fun a b c d e p g h => f a fun a => k ⟨a, b, c, d, e, p, g, h⟩) x) (fun x f k => N8.rec (fun a b c d e p g h => f b fun b => k ⟨a, b, c, d, e, p, g, h⟩) x)
  (fun x f k => N8.rec (fun a b c d e p g h => f c fun c => k ⟨a, b, c, d, e, p, g, h⟩) x) (fun x f k => N8.rec (fun a b c d e p g h => f d fun d => k ⟨a, b, c, d, e, p, g, h⟩) x)
  (fun x f k => N8.rec (fun a b c d e p g h => f e fun e => k ⟨a, b, c, d, e, p, g, h⟩) x) (fun x f k => N8.rec (fun a b c d e p g h => f p fun p => k ⟨a, b, c, d, e, p, g, h⟩) x)
  (fun x f k => N8.rec (fun a b c d e p g h => f g fun g => k ⟨a, b, c, d, e, p, g, h⟩) x) (fun x f k => N8.rec (fun a b c d e p g h => f h fun h => k ⟨a, b, c, d, e, p, g, h⟩) x) i
noncomputable def N8.sK (i : D8) : N8 α → α → (N8 α → β) → β := D8.rec (motive := fun _ => N8 α → α → (N8 α → β) → β)
  (fun x v k => N8.rec (fun a b c d e p g h => k ⟨v, b, c, d, e, p, g, h⟩) x) (fun x v k => N8.rec (fun a b c d e p g h => k ⟨a, v, c, d, e, p, g, h⟩) x)
  (fun x v k => N8.rec (fun a b c d e p g h => k ⟨a, b, v, d, e, p, g, h⟩) x) (fun x v k => N8.rec (fun a b c d e p g h => k ⟨a, b, c, v, e, p, g, h⟩) x)
  (fun x v k => N8.rec (fun a b c d e p g h => k ⟨a, b, c, d, v, p, g, h⟩) x) (fun x v k => N8.rec (fun a b c d e p g h => k ⟨a, b, c, d, e, v, g, h⟩) x)
  (fun x v k => N8.rec (fun a b c d e p g h => k ⟨a, b, c, d, e, p, v, h⟩) x) (fun x v k => N8.rec (fun a b c d e p g h => k ⟨a, b, c, d, e, p, g, v⟩) x) i
theorem N8.sK_eq (i : D8) (x : N8 α) (v : α) (k : N8 α → β) : N8.sK i x v k = k (x.u i fun _ => v) := by cases i <;> rfl
theorem N8.uK_eq (i : D8) (x : N8 α) (f : α → (α → β) → β) (f0 : α → α) (hf : ∀ y k, f y k = k (f0 y)) (k : N8 α → β) : N8.uK i x f k = k (x.u i f0) := by
  cases i <;> exact hf _ _
variable (d : α)
noncomputable def stK (_d : α) (p : Pth) : Tr α → α → (Tr α → β) → β :=
  Pth.rec (motive := fun _ => Tr α → α → (Tr α → β) → β)
    (fun i j t v k => Tr.rec (fun s u o => N8.uK i s (fun y k => N8.sK j y v k) fun s => k ⟨s, u, o⟩) t)
    (fun i j l t v k => Tr.rec (fun s u o => N8.uK i u (fun y k => N8.uK j y (fun y k => N8.sK l y v k) k) fun u => k ⟨s, u, o⟩) t)
    (fun n t v k => Tr.rec (fun s u o => k ⟨s, u, (n, v) :: o⟩) t) p
theorem stK_eq (p : Pth) (t : Tr α) (v : α) (k : Tr α → β) : stK d p t v k = k (st d p v t) := by
  obtain ⟨s, u, o⟩ := t
  cases p with
  | s i j => exact N8.uK_eq i s _ (N8.u j fun _ => v) (fun y k => N8.sK_eq j y v k) _
  | t i j l => exact N8.uK_eq i u _ (N8.u j (N8.u l fun _ => v)) (fun y k => N8.uK_eq j y _ (N8.u l fun _ => v) (fun y k => N8.sK_eq l y v k) k) _
  | o n => rfl
end
noncomputable def fN {β : Type} (n : Nat) (k : Nat → β) : β := Nat.rec (k 0) (fun m _ => k (Nat.succ m)) n
theorem fN_eq {β : Type} (n : Nat) (k : Nat → β) : fN n k = k n := by cases n <;> rfl
noncomputable def fI {β : Type} (n : Int) (k : Int → β) : β := Int.rec (fun m => fN m fun m => k (.ofNat m)) (fun m => fN m fun m => k (.negSucc m)) n
theorem fI_eq {β : Type} (n : Int) (k : Int → β) : fI n k = k n := by cases n <;> simp only [fI, fN_eq]
noncomputable def ev (t : T) (x : O) : V := O.rec (fun p => gtV p t) (fun v => v) x
noncomputable def evs (t : T) (l : List O) : List V := List.rec (motive := fun _ => List V) [] (fun x _ ih => ev t x :: ih) l
theorem evs_eq (t : T) : ∀ l : List O, evs t l = l.map (ev t)
  | [] => rfl
  | x :: l => by show ev t x :: evs t l = _; rw [evs_eq t l]; rfl
noncomputable def nU (s : S) : Bool := S.rec (fun _ => true) (fun _ n => kn n) (fun _ _ => true) true (fun _ _ _ _ => true) true (fun _ _ => true) (fun _ _ => true) (fun _ _ _ _ => true) true (fun _ => true) (fun _ => true) true (fun _ => true) false (fun _ _ => true) s
section
variable {β : Type}
noncomputable def asI (v : V) (k : IntKind → Int → Option β) : Option β :=
  V.rec (fun s => S.rec (fun _ => none) (fun kd n => k kd n) (fun _ _ => none) none (fun _ _ _ _ => none) none (fun _ _ => none) (fun _ _ => none) (fun _ _ _ _ => none) none (fun _ => none) (fun _ => none) none (fun _ => none) none (fun _ _ => none) s) (fun _ => none) (fun _ => none) none v
theorem asI_some {v : V} {k : IntKind → Int → Option β} {r : β} (h : asI v k = some r) : ∃ kd n, v = .s (.i kd n) ∧ k kd n = some r := by
  cases v with
  | s s => cases s <;> first | exact ⟨_, _, rfl, h⟩ | cases h
  | agg _ => cases h
  | tup _ => cases h
  | u => cases h
noncomputable def asB (v : V) (k : Bool → Option β) : Option β :=
  V.rec (fun s => S.rec (fun q => k q) (fun _ _ => none) (fun _ _ => none) none (fun _ _ _ _ => none) none (fun _ _ => none) (fun _ _ => none) (fun _ _ _ _ => none) none (fun _ => none) (fun _ => none) none (fun _ => none) none (fun _ _ => none) s) (fun _ => none) (fun _ => none) none v
theorem asB_some {v : V} {k : Bool → Option β} {r : β} (h : asB v k = some r) : ∃ q, v = .s (.b q) ∧ k q = some r := by
  cases v with
  | s s => cases s <;> first | exact ⟨_, rfl, h⟩ | cases h
  | agg _ => cases h
  | tup _ => cases h
  | u => cases h
noncomputable def asP (v : V) (k : Pth → Nat → Option β) : Option β :=
  V.rec (fun s => S.rec (fun _ => none) (fun _ _ => none) (fun r o => k r o) none (fun _ _ _ _ => none) none (fun _ _ => none) (fun _ _ => none) (fun _ _ _ _ => none) none (fun _ => none) (fun _ => none) none (fun _ => none) none (fun _ _ => none) s) (fun _ => none) (fun _ => none) none v
theorem asP_some {v : V} {k : Pth → Nat → Option β} {r : β} (h : asP v k = some r) : ∃ q o, v = .s (.p q o) ∧ k q o = some r := by
  cases v with
  | s s => cases s <;> first | exact ⟨_, _, rfl, h⟩ | cases h
  | agg _ => cases h
  | tup _ => cases h
  | u => cases h
noncomputable def asS (v : V) (k : S → Option β) : Option β := V.rec k (fun _ => none) (fun _ => none) none v
theorem asS_some {v : V} {k : S → Option β} {r : β} (h : asS v k = some r) : ∃ s, v = .s s ∧ k s = some r := by
  cases v with
  | s s => exact ⟨_, rfl, h⟩
  | agg _ => cases h
  | tup _ => cases h
  | u => cases h
noncomputable def asA (v : V) (k : List S → Option β) : Option β := V.rec (fun _ => none) k (fun _ => none) none v
theorem asA_some {v : V} {k : List S → Option β} {r : β} (h : asA v k = some r) : ∃ s, v = .agg s ∧ k s = some r := by
  cases v with
  | s s => cases h
  | agg _ => exact ⟨_, rfl, h⟩
  | tup _ => cases h
  | u => cases h
noncomputable def onB (q : Bool) (x y : Option β) : Option β := Bool.rec y x q
noncomputable def asC (v : V) (k : List S → Option β) : Option β := V.rec (fun s => onB (nU s) (k [s]) none) k (fun _ => none) none v
theorem onB_eq (q : Bool) (x y : Option β) : onB q x y = if q = true then x else y := by cases q <;> rfl
noncomputable def onO {α : Type} (o : Option α) (k : α → Option β) : Option β := Option.rec none k o
theorem onO_some {α : Type} {o : Option α} {k : α → Option β} {r : β} (h : onO o k = some r) : ∃ a, o = some a ∧ k a = some r := by
  cases o with
  | none => cases h
  | some a => exact ⟨a, rfl, h⟩
end
def V.cs : V → List S
  | .s x => [x]
  | .agg xs => xs
  | _ => []
def V.pl : V → Bool
  | .s _ => true
  | .agg _ => true
  | _ => false
def V.kns : V → Bool
  | .s _ => true
  | .agg _ => true
  | _ => false
theorem asC_some {β : Type} {v : V} {k : List S → Option β} {r : β} (h : asC v k = some r) : v.pl = true ∧ (∀ s, v = .s s → nU s = true) ∧ k v.cs = some r := by
  cases v with
  | s s =>
    have h : onB (nU s) (k [s]) none = some r := h
    rw [onB_eq] at h
    split at h
    · rename_i q
      exact ⟨rfl, fun _ e => by cases e; exact q, h⟩
    · cases h
  | agg _ => exact ⟨rfl, (by rintro _ ⟨⟩), h⟩
  | tup _ => cases h
  | u => cases h
def nthS : List S → Nat → Option S
  | [], _ => none
  | x :: _, 0 => some x
  | _ :: l, n + 1 => nthS l n
theorem nthS_eq : ∀ (l : List S) (n : Nat), nthS l n = l[n]?
  | [], _ => rfl
  | x :: _, 0 => rfl
  | _ :: l, n + 1 => by rw [nthS, nthS_eq l n]; rfl
def tkS : List S → Nat → Option (List S)
  | _, 0 => some []
  | [], _ + 1 => none
  | x :: l, n + 1 => match tkS l n with
    | some r => some (x :: r)
    | none => none
theorem tkS_some : ∀ {l : List S} {n : Nat} {r : List S}, tkS l n = some r → r = l.take n ∧ n ≤ l.length
  | l, 0, r, h => by simp only [tkS, Option.some.injEq] at h; rw [← h]; simp
  | [], n + 1, r, h => by simp [tkS] at h
  | x :: l, n + 1, r, h => by
    simp only [tkS] at h
    split at h
    · rename_i q hq
      obtain ⟨h1, h2⟩ := tkS_some hq
      simp only [Option.some.injEq] at h
      rw [← h, h1]
      simp; omega
    · cases h
def drS : List S → Nat → List S
  | l, 0 => l
  | [], _ + 1 => []
  | _ :: l, n + 1 => drS l n
theorem drS_eq : ∀ (l : List S) (n : Nat), drS l n = l.drop n
  | l, 0 => by cases l <;> rfl
  | [], _ + 1 => rfl
  | _ :: l, n + 1 => by rw [drS, drS_eq l n]; rfl
def ptS : List S → Nat → List S → Option (List S)
  | l, 0, [] => some l
  | _ :: l, 0, v :: vs => match ptS l 0 vs with
    | some r => some (v :: r)
    | none => none
  | x :: l, n + 1, vs => match ptS l n vs with
    | some r => some (x :: r)
    | none => none
  | [], 0, _ :: _ => none
  | [], _ + 1, _ => none
def apS : List S → List S → List S
  | [], l => l
  | x :: a, l => x :: apS a l
theorem apS_eq : ∀ a b : List S, apS a b = a ++ b
  | [], _ => rfl
  | x :: a, b => by rw [apS, apS_eq a b]; rfl
theorem ptS_some : ∀ {l : List S} {n : Nat} {vs r : List S}, ptS l n vs = some r → n + vs.length ≤ l.length ∧ r.length = l.length ∧ ∀ i, r[i]? = if n ≤ i ∧ i < n + vs.length then vs[i - n]? else l[i]?
  | l, 0, [], r, h => by
    simp only [ptS, Option.some.injEq] at h
    subst h
    refine ⟨by simp, rfl, fun i => ?_⟩
    rw [if_neg (by simp)]
  | x :: l, 0, v :: vs, r, h => by
    simp only [ptS] at h
    split at h
    · rename_i q hq
      obtain ⟨h1, h2, h3⟩ := ptS_some hq
      simp only [Option.some.injEq] at h
      subst h
      refine ⟨by simp only [List.length_cons]; omega, by simp [h2], fun i => ?_⟩
      cases i with
      | zero => simp
      | succ i =>
        have := h3 i
        simp only [List.getElem?_cons_succ, List.length_cons] at this ⊢
        rw [this]
        by_cases c : i < vs.length
        · rw [if_pos (by omega), if_pos (by omega)]
          simp
        · rw [if_neg (by omega), if_neg (by omega)]
    · cases h
  | x :: l, n + 1, vs, r, h => by
    simp only [ptS] at h
    split at h
    · rename_i q hq
      obtain ⟨h1, h2, h3⟩ := ptS_some hq
      simp only [Option.some.injEq] at h
      subst h
      refine ⟨by simp only [List.length_cons]; omega, by simp [h2], fun i => ?_⟩
      cases i with
      | zero => simp
      | succ i =>
        have := h3 i
        simp only [List.getElem?_cons_succ] at this ⊢
        rw [this]
        by_cases c : n ≤ i ∧ i < n + vs.length
        · rw [if_pos c, if_pos (by omega)]
          congr 1
          omega
        · rw [if_neg c, if_neg (by omega)]
    · cases h
  | [], 0, _ :: _, r, h => by simp [ptS] at h
  | [], _ + 1, _, r, h => by simp [ptS] at h
noncomputable def lim (k : IntKind) : Nat := IntKind.rec 0 0 0 9223372036854775808 0 0 0 18446744073709551616 k
theorem w_i64 (n : Int) (h : -9223372036854775808 ≤ n) (h' : n < 9223372036854775808) : IntKind.i64.wrap n = n := by rw [IntKind.wrap_i64]; omega
theorem w_u64 (n : Int) (h : 0 ≤ n) (h' : n < 18446744073709551616) : IntKind.u64.wrap n = n := by rw [IntKind.wrap_u64]; omega
theorem lim_lt {k : IntKind} {n : Nat} (h : Nat.blt n (lim k) = true) : n < 18446744073709551616 ∧ k.bits = 64 ∧ k.wrap n = n := by
  rw [Nat.blt_eq] at h
  cases k <;> first | (exact absurd h (Nat.not_lt_zero _)) | skip
  · have h : n < 9223372036854775808 := h
    exact ⟨by omega, rfl, w_i64 _ (by omega) (by omega)⟩
  · have h : n < 18446744073709551616 := h
    exact ⟨h, rfl, w_u64 _ (by omega) (by omega)⟩
theorem lim_mono {k : IntKind} {n m : Nat} (h : Nat.blt n (lim k) = true) (hm : m ≤ n) : Nat.blt m (lim k) = true := by rw [Nat.blt_eq] at *; omega
noncomputable def sFm (n : Nat) : Nat := Nat.shiftLeft (sMk (sJ n)) (sQ n)
noncomputable def mkS (j q c : Nat) : Nat := Nat.add c (Nat.mul 18446744073709551616 (Nat.add 1 (Nat.add q (Nat.mul 128 j))))
noncomputable def isY (n : Nat) : Bool := and (Nat.ble 18446744073709551616 n) (and (Nat.blt n symN) (Nat.beq (sM n) 0))
noncomputable def isYM (n : Nat) : Bool := and (Nat.ble 18446744073709551616 n) (and (Nat.blt n symN) (Nat.beq (sM n) 1))
noncomputable def sLo (n : Nat) : Nat := Nat.add (sC n) (Nat.shiftLeft 1 (sQ n))
noncomputable def sHi (n : Nat) : Nat := Nat.add (sC n) (Nat.shiftLeft (sBd (sJ n)) (sQ n))
noncomputable def okY (n : Nat) : Bool := and (isY n) (and (Nat.ble (Nat.add (sQ n) (sWd (sJ n))) 64) (Nat.beq (Nat.land (sC n) (sFm n)) 0))
noncomputable def plN (n : Nat) : Bool := Nat.blt n 18446744073709551616
theorem sJ_of {j q c : Nat} (hq : q < 64) (hc : c < 18446744073709551616) : sC (mkS j q c) = c ∧ sQ (mkS j q c) = q ∧ sM (mkS j q c) = 0 ∧ sJ (mkS j q c) = j := by
  have h1 : mkS j q c = c + 18446744073709551616 * (1 + (q + 128 * j)) := rfl
  have h2 : sC (mkS j q c) = (mkS j q c) % 18446744073709551616 := rfl
  have h3 : sU (mkS j q c) = (mkS j q c) / 18446744073709551616 - 1 := rfl
  have h4 : sU (mkS j q c) = q + 128 * j := by rw [h3, h1]; omega
  refine ⟨by rw [h2, h1]; omega, ?_, ?_, ?_⟩
  · show sU (mkS j q c) % 64 = q; rw [h4]; omega
  · show sU (mkS j q c) / 64 % 2 = 0; rw [h4]; omega
  · show sU (mkS j q c) / 128 = j; rw [h4]; omega
theorem and_t' {a b : Bool} (h : and a b = true) : a = true ∧ b = true := by cases a <;> cases b <;> first | exact ⟨rfl, rfl⟩ | cases h
theorem onB_t' {β : Type} {q : Bool} {x : Option β} {r : β} (h : onB q x none = some r) : q = true ∧ x = some r := by
  rw [onB_eq] at h; split at h
  · rename_i hq; exact ⟨hq, h⟩
  · cases h
theorem onB_or {β : Type} {q : Bool} {x y : Option β} {r : β} (h : onB q x y = some r) : (q = true ∧ x = some r) ∨ (q = false ∧ y = some r) := by
  cases q
  · exact .inr ⟨rfl, h⟩
  · exact .inl ⟨rfl, h⟩
theorem sQ_lt (n : Nat) : sQ n < 64 := Nat.mod_lt _ (by decide)
theorem sC_lt (n : Nat) : sC n < 18446744073709551616 := Nat.mod_lt _ (by decide)
theorem sMk_eq (j : Nat) : sMk j = 2 ^ sWd j - 1 := by
  unfold sMk sWd
  show (Bool.rec (Bool.rec (Bool.rec _ _ _) _ _) _ _ : Nat) = 2 ^ (Bool.rec (Bool.rec (Bool.rec _ _ _) _ _) _ _ : Nat) - 1
  cases Nat.blt j 16 <;> cases Nat.blt j 32 <;> cases Nat.blt j 48 <;> rfl
theorem sBd_pos (j : Nat) : 1 ≤ sBd j ∧ sBd j ≤ sMk j := by
  unfold sBd sMk
  show 1 ≤ (Bool.rec (Bool.rec (Bool.rec _ _ _) _ _) _ _ : Nat) ∧ (Bool.rec (Bool.rec (Bool.rec _ _ _) _ _) _ _ : Nat) ≤ (Bool.rec (Bool.rec (Bool.rec _ _ _) _ _) _ _ : Nat)
  cases Nat.blt j 16 <;> cases Nat.blt j 32 <;> cases Nat.blt j 48 <;> decide
theorem sBd_lt (j : Nat) : sBd j < 2 ^ sWd j := by have := sMk_eq j; have := sBd_pos j; have := Nat.two_pow_pos (sWd j); omega
theorem plN_lt {n : Nat} (h : plN n = true) : n < 18446744073709551616 := by unfold plN at h; rwa [Nat.blt_eq] at h
section
variable {e : Env}
theorem vl_pl {n : Nat} (h : n < 18446744073709551616) : vl e (.ofNat n) = (n : Int) := by
  unfold vl; rw [if_neg (by show ¬ (18446744073709551616 : Int) ≤ (n : Int); omega)]; rfl
theorem vl_sy {n : Nat} (h1 : 18446744073709551616 ≤ n) (h2 : n < symN) : vl e (.ofNat n) = (fsy e.ρ n : Int) := by
  unfold vl
  rw [if_pos (by show (18446744073709551616 : Int) ≤ (n : Int); omega), if_neg (by show ¬ (symN : Int) ≤ (n : Int); omega)]; rfl
theorem isY_out {n : Nat} (h : isY n = true) : 18446744073709551616 ≤ n ∧ n < symN ∧ sM n = 0 := by
  obtain ⟨h1, h2⟩ := and_t' h
  obtain ⟨h2, h3⟩ := and_t' h2
  exact ⟨Nat.le_of_ble_eq_true h1, by rwa [Nat.blt_eq] at h2, Nat.eq_of_beq_eq_true h3⟩
theorem isYM_out {n : Nat} (h : isYM n = true) : 18446744073709551616 ≤ n ∧ n < symN ∧ sM n = 1 := by
  obtain ⟨h1, h2⟩ := and_t' h
  obtain ⟨h2, h3⟩ := and_t' h2
  exact ⟨Nat.le_of_ble_eq_true h1, by rwa [Nat.blt_eq] at h2, Nat.eq_of_beq_eq_true h3⟩
theorem fval_ok (ρ : Nat → Int) (j : Nat) : 1 ≤ fval ρ j ∧ fval ρ j ≤ sBd j := by
  have h := (sBd_pos j).1
  have h2 : ((ρ j).toNat - 1) % sBd j < sBd j := Nat.mod_lt _ h
  unfold fval; omega
theorem vl_Y {n : Nat} (h : isY n = true) : vl e (.ofNat n) = ((sC n + fval e.ρ (sJ n) * 2 ^ sQ n : Nat) : Int) := by
  obtain ⟨h1, h2, h3⟩ := isY_out h
  rw [vl_sy h1 h2]; unfold fsy; rw [h3]; rfl
theorem vl_YM {n : Nat} (h : isYM n = true) : vl e (.ofNat n) = ((sC n + fval e.ρ (sJ n) * 2 ^ sQ n - 1 : Nat) : Int) := by
  obtain ⟨h1, h2, h3⟩ := isYM_out h
  rw [vl_sy h1 h2]; unfold fsy; rw [h3]
theorem sFm_eq (n : Nat) : sFm n = sMk (sJ n) * 2 ^ sQ n := Nat.shiftLeft_eq _ _
theorem sLo_eq (n : Nat) : sLo n = sC n + 2 ^ sQ n := by show sC n + Nat.shiftLeft 1 (sQ n) = _; rw [show Nat.shiftLeft 1 (sQ n) = 1 * 2 ^ sQ n from Nat.shiftLeft_eq _ _, Nat.one_mul]
theorem sHi_eq (n : Nat) : sHi n = sC n + sBd (sJ n) * 2 ^ sQ n := by show sC n + Nat.shiftLeft (sBd (sJ n)) (sQ n) = _; rw [show Nat.shiftLeft (sBd (sJ n)) (sQ n) = sBd (sJ n) * 2 ^ sQ n from Nat.shiftLeft_eq _ _]
theorem sy_rg (ρ : Nat → Int) (n : Nat) : sLo n ≤ sC n + fval ρ (sJ n) * 2 ^ sQ n ∧ sC n + fval ρ (sJ n) * 2 ^ sQ n ≤ sHi n := by
  obtain ⟨h1, h2⟩ := fval_ok ρ (sJ n)
  rw [sLo_eq, sHi_eq]
  have a1 := Nat.mul_le_mul_right (2 ^ sQ n) h1
  have a2 := Nat.mul_le_mul_right (2 ^ sQ n) h2
  omega
theorem vl_mk {j q c : Nat} (hq : q < 64) (hc : c < 18446744073709551616) (h : isY (mkS j q c) = true) : vl e (.ofNat (mkS j q c)) = ((c + fval e.ρ j * 2 ^ q : Nat) : Int) := by
  obtain ⟨h1, h2, h3, h4⟩ := sJ_of (j := j) hq hc
  rw [vl_Y h, h1, h2, h4]
theorem add_or {w x y : Nat} (hx : x < 2 ^ w) (hy : y < 2 ^ w) (h : x &&& y = 0) : x + y = x ||| y := by
  have h1 : BitVec.ofNat w x &&& BitVec.ofNat w y = 0#w := by
    apply BitVec.eq_of_toNat_eq
    rw [BitVec.toNat_and, BitVec.toNat_ofNat, BitVec.toNat_ofNat, Nat.mod_eq_of_lt hx, Nat.mod_eq_of_lt hy, h]; simp
  have h2 := BitVec.toNat_add_of_and_eq_zero h1
  have h3 := congrArg BitVec.toNat (BitVec.add_eq_or_of_and_eq_zero _ _ h1)
  rw [h2, BitVec.toNat_or] at h3
  simpa only [BitVec.toNat_ofNat, Nat.mod_eq_of_lt hx, Nat.mod_eq_of_lt hy] using h3
def Bt (c B F : Nat) : Prop := (∀ i, (c.testBit i && F.testBit i) = false) ∧ ∀ i, (B.testBit i && !F.testBit i) = false
theorem and0 {x y : Nat} (h : x &&& y = 0) (i : Nat) : (x.testBit i && y.testBit i) = false := by rw [← Nat.testBit_and, h]; simp
theorem andF {x y : Nat} (h : x &&& y = y) (i : Nat) : (y.testBit i && !x.testBit i) = false := by
  have : y.testBit i = (x.testBit i && y.testBit i) := by rw [← Nat.testBit_and, h]
  revert this; cases x.testBit i <;> cases y.testBit i <;> simp
theorem okY_out {n : Nat} (h : okY n = true) : isY n = true ∧ sQ n + sWd (sJ n) ≤ 64 ∧ sC n &&& sFm n = 0 := by
  obtain ⟨h1, h2⟩ := and_t' h
  obtain ⟨h2, h3⟩ := and_t' h2
  exact ⟨h1, Nat.le_of_ble_eq_true h2, Nat.eq_of_beq_eq_true h3⟩
theorem fld_sub {j q b : Nat} (hb : b ≤ sBd j) (i : Nat) : ((b * 2 ^ q).testBit i && !(sMk j * 2 ^ q).testBit i) = false := by
  rw [← Nat.shiftLeft_eq, ← Nat.shiftLeft_eq, Nat.testBit_shiftLeft, Nat.testBit_shiftLeft, sMk_eq, Nat.testBit_two_pow_sub_one]
  by_cases h : q ≤ i
  · by_cases h2 : i - q < sWd j
    · simp [h, h2]
    · have : b.testBit (i - q) = false := Nat.testBit_lt_two_pow (Nat.lt_of_le_of_lt hb (Nat.lt_of_lt_of_le (sBd_lt j) (Nat.pow_le_pow_right (by decide) (by omega))))
      simp [this]
  · simp [h]
theorem fld_lt {j q b : Nat} (hb : b ≤ sBd j) (h : q + sWd j ≤ 64) : b * 2 ^ q < 2 ^ 64 := by
  have h1 : b < 2 ^ sWd j := Nat.lt_of_le_of_lt hb (sBd_lt j)
  have h2 : b * 2 ^ q < 2 ^ sWd j * 2 ^ q := Nat.mul_lt_mul_of_pos_right h1 (Nat.two_pow_pos q)
  rw [← Nat.pow_add] at h2
  exact Nat.lt_of_lt_of_le h2 (Nat.pow_le_pow_right (by decide) (by omega))
theorem bt_of {n b : Nat} (h : okY n = true) (hb : b ≤ sBd (sJ n)) : Bt (sC n) (b * 2 ^ sQ n) (sFm n) := by
  obtain ⟨_, _, h3⟩ := okY_out h
  refine ⟨and0 h3, fun i => ?_⟩
  rw [sFm_eq]; exact fld_sub hb i
theorem bt_zero {c B F : Nat} (h : Bt c B F) : c &&& B = 0 := by
  apply Nat.eq_of_testBit_eq
  intro i
  have h1 := h.1 i; have h2 := h.2 i
  rw [Nat.testBit_and]
  revert h1 h2
  cases c.testBit i <;> cases B.testBit i <;> cases F.testBit i <;> simp
theorem bt_or {n b : Nat} (h : okY n = true) (hb : b ≤ sBd (sJ n)) : sC n + b * 2 ^ sQ n = sC n ||| b * 2 ^ sQ n := add_or (w := 64) (sC_lt n) (fld_lt hb (okY_out h).2.1) (bt_zero (bt_of h hb))
section
variable {c B F y : Nat} (h : Bt c B F)
include h
theorem g_and0 (hy : y &&& F = 0) : (c ||| B) &&& y = c &&& y := by
  apply Nat.eq_of_testBit_eq; intro i
  have h1 := h.1 i; have h2 := h.2 i; have h3 := and0 hy i
  simp only [Nat.testBit_and, Nat.testBit_or]
  revert h1 h2 h3
  cases c.testBit i <;> cases B.testBit i <;> cases F.testBit i <;> cases y.testBit i <;> simp
theorem g_andF (hy : y &&& F = F) : (c ||| B) &&& y = (c &&& y) ||| B := by
  apply Nat.eq_of_testBit_eq; intro i
  have h1 := h.1 i; have h2 := h.2 i; have h3 := andF hy i
  simp only [Nat.testBit_and, Nat.testBit_or]
  revert h1 h2 h3
  cases c.testBit i <;> cases B.testBit i <;> cases F.testBit i <;> cases y.testBit i <;> simp
theorem g_btand : (c &&& y) &&& B = 0 := by
  apply Nat.eq_of_testBit_eq; intro i
  have h1 := h.1 i; have h2 := h.2 i
  simp only [Nat.testBit_and, Nat.zero_testBit]
  revert h1 h2
  cases c.testBit i <;> cases B.testBit i <;> cases F.testBit i <;> cases y.testBit i <;> simp
theorem g_btor (hy : y &&& F = 0) : (c ||| y) &&& B = 0 := by
  apply Nat.eq_of_testBit_eq; intro i
  have h1 := h.1 i; have h2 := h.2 i; have h3 := and0 hy i
  simp only [Nat.testBit_and, Nat.testBit_or, Nat.zero_testBit]
  revert h1 h2 h3
  cases c.testBit i <;> cases B.testBit i <;> cases F.testBit i <;> cases y.testBit i <;> simp
end
theorem g_or {c B y : Nat} : (c ||| B) ||| y = (c ||| y) ||| B := by
  apply Nat.eq_of_testBit_eq; intro i
  simp only [Nat.testBit_or]
  cases c.testBit i <;> cases B.testBit i <;> cases y.testBit i <;> simp
noncomputable def rY (r : Nat) : Option Nat := onB (isY r) (some r) none
noncomputable def ya (k : IntKind) (x y : Nat) : Option Nat :=
  onB (Nat.blt (Nat.add (sHi x) y) (lim k)) (onB (isY x) (rY (mkS (sJ x) (sQ x) (Nat.add (sC x) y))) (onB (and (isYM x) (Nat.ble 1 y)) (rY (mkS (sJ x) (sQ x) (Nat.sub (Nat.add (sC x) y) 1))) none)) none
noncomputable def yAnd (k : IntKind) (x y : Nat) : Option Nat :=
  onB (and (okY x) (and (Nat.blt (sHi x) (lim k)) (Nat.blt y (lim k)))) (onB (Nat.beq (Nat.land y (sFm x)) 0) (some (Nat.land (sC x) y)) (onB (Nat.beq (Nat.land y (sFm x)) (sFm x)) (rY (mkS (sJ x) (sQ x) (Nat.land (sC x) y))) none)) none
noncomputable def yAnN (k : IntKind) (x y : Nat) : Option Nat := onB (Nat.beq (lim k) 18446744073709551616) (yAnd k x (Nat.sub 18446744073709551615 y)) none
noncomputable def yOr (k : IntKind) (x y : Nat) : Option Nat :=
  onB (and (okY x) (and (Nat.blt (sHi x) (lim k)) (Nat.blt y (lim k)))) (onB (Nat.beq (Nat.land y (sFm x)) 0) (rY (mkS (sJ x) (sQ x) (Nat.lor (sC x) y))) none) none
noncomputable def yShl (k : IntKind) (x y : Nat) : Option Nat :=
  onB (and (isY x) (and (Nat.blt (Nat.shiftLeft (sHi x) y) (lim k)) (Nat.blt (Nat.add (sQ x) y) 64))) (rY (mkS (sJ x) (Nat.add (sQ x) y) (Nat.shiftLeft (sC x) y))) none
noncomputable def yShr (k : IntKind) (x y : Nat) : Option Nat :=
  onB (and (okY x) (and (Nat.blt (sHi x) (lim k)) (Nat.blt y 64))) (onB (Nat.ble y (sQ x)) (rY (mkS (sJ x) (Nat.sub (sQ x) y) (Nat.shiftRight (sC x) y))) (onB (Nat.ble (Nat.add (sQ x) (sWd (sJ x))) y) (some (Nat.shiftRight (sC x) y)) none)) none
noncomputable def noY : IntKind → Nat → Nat → Option Nat := fun _ _ _ => none
noncomputable def syO (op : BinOp) : IntKind → Nat → Nat → Option Nat :=
  BinOp.rec (motive := fun _ => IntKind → Nat → Nat → Option Nat) ya noY noY noY noY yAnd yOr noY yShl yShr yAnN noY noY noY noY noY noY op
noncomputable def comB (op : BinOp) : Bool := BinOp.rec true false false false false true true false false false false false false false false false false op
noncomputable def shB (op : BinOp) : Bool := BinOp.rec false false false false false false false false true true false false false false false false false op
noncomputable def natsK {γ : Type} (a b : Int) (c : Nat → Nat → Option γ) : Option γ := Int.rec (fun x => Int.rec (fun y => c x y) (fun _ => none) b) (fun _ => none) a
noncomputable def kQ (k k' : IntKind) : Bool := Nat.beq (IntKind.rec 0 1 2 3 4 5 6 7 k) (IntKind.rec 0 1 2 3 4 5 6 7 k')
theorem kQ_t {k k' : IntKind} (h : kQ k k' = true) : k = k' := by cases k <;> cases k' <;> first | rfl | cases h
noncomputable def syI (op : BinOp) (k k' : IntKind) (a b : Int) : Option Nat :=
  natsK a b fun x y => onB (or (shB op) (kQ k k')) (onB (plN y) (syO op k x y) (onB (and (comB op) (plN x)) (syO op k y x) none)) none
def opI (op : BinOp) (k : IntKind) (a b : Int) : Int := match op with
  | .add => k.wrap (a + b)
  | .and => bits .and k a b
  | .or => bits .or k a b
  | .andNot => bits .andNot k a b
  | .shl => k.wrap (a * 2 ^ min b.toNat k.bits)
  | .shr => a / 2 ^ min b.toNat k.bits
  | _ => 0
theorem ofInt_nat' {n x : Nat} (hn : n = 64) (hx : x < 18446744073709551616) : (BitVec.ofInt n (x : Int)).toNat = x := by
  subst hn
  rw [BitVec.ofInt_natCast, BitVec.toNat_ofNat]
  exact Nat.mod_eq_of_lt (by omega)
theorem bits_and' {k : IntKind} {x y : Nat} (hx : Nat.blt x (lim k) = true) (hy : Nat.blt y (lim k) = true) : bits .and k x y = ((x &&& y : Nat) : Int) := by
  obtain ⟨x1, x2, _⟩ := lim_lt hx
  obtain ⟨y1, _, _⟩ := lim_lt hy
  have h : Nat.blt (x &&& y) (lim k) = true := lim_mono hx Nat.and_le_left
  simp only [bits, BitVec.toNat_and, ofInt_nat' x2 x1, ofInt_nat' x2 y1]
  exact (lim_lt h).2.2
theorem bits_or' {k : IntKind} {x y : Nat} (hx : Nat.blt x (lim k) = true) (hy : Nat.blt y (lim k) = true) : bits .or k x y = ((x ||| y : Nat) : Int) := by
  obtain ⟨x1, x2, _⟩ := lim_lt hx
  obtain ⟨y1, _, _⟩ := lim_lt hy
  have h : Nat.blt (x ||| y) (lim k) = true := by
    rw [Nat.blt_eq] at hx hy ⊢
    cases k <;> first | (exact absurd hx (Nat.not_lt_zero _)) | exact Nat.or_lt_two_pow (n := 63) hx hy | exact Nat.or_lt_two_pow (n := 64) hx hy
  simp only [bits, BitVec.toNat_or, ofInt_nat' x2 x1, ofInt_nat' x2 y1]
  exact (lim_lt h).2.2
theorem bits_com_and (k : IntKind) (a b : Int) : bits .and k a b = bits .and k b a := by simp only [bits, BitVec.and_comm]
theorem bits_com_or (k : IntKind) (a b : Int) : bits .or k a b = bits .or k b a := by simp only [bits, BitVec.or_comm]
theorem rY_out {r n : Nat} (h : rY r = some n) : isY r = true ∧ r = n := by
  obtain ⟨h1, h2⟩ := onB_t' h
  exact ⟨h1, Option.some.inj h2⟩
theorem shl_lt {k : IntKind} {n m : Nat} (h : Nat.blt (Nat.shiftLeft n m) (lim k) = true) : n * 2 ^ m < 18446744073709551616 := by
  have := (lim_lt h).1
  rwa [show Nat.shiftLeft n m = n * 2 ^ m from Nat.shiftLeft_eq _ _] at this
theorem yAnd_ok {k : IntKind} {x y n : Nat} (hy : y < 18446744073709551616) (h : yAnd k x y = some n) : (isY x = true ∨ isYM x = true) ∧ (plN n = true ∨ isY n = true) ∧ vl e (.ofNat n) = bits .and k (vl e (.ofNat x)) (y : Int) := by
  obtain ⟨f1, f2⟩ := fval_ok e.ρ (sJ x)
  obtain ⟨r1, r2⟩ := sy_rg e.ρ x
  have hq := sQ_lt x
  obtain ⟨hb, h⟩ := onB_t' h
  obtain ⟨hx, hb⟩ := and_t' hb
  obtain ⟨hb1, hb2⟩ := and_t' hb
  have hY := (okY_out hx).1
  have hv := lim_mono hb1 r2
  have hbt := bt_of hx f2
  refine ⟨.inl hY, ?_⟩
  rw [vl_Y hY, bits_and' hv hb2, bt_or hx f2]
  rcases onB_or h with ⟨hz, h⟩ | ⟨_, h⟩
  · have hz : y &&& sFm x = 0 := Nat.eq_of_beq_eq_true hz
    cases h
    have hlt : sC x &&& y < 18446744073709551616 := Nat.lt_of_le_of_lt Nat.and_le_left (sC_lt x)
    refine ⟨.inl (by unfold plN; rw [Nat.blt_eq]; exact hlt), ?_⟩
    rw [g_and0 hbt hz]; exact vl_pl hlt
  · obtain ⟨hz, h⟩ := onB_t' h
    have hz : y &&& sFm x = sFm x := Nat.eq_of_beq_eq_true hz
    obtain ⟨h2, rfl⟩ := rY_out h
    have hlt : sC x &&& y < 18446744073709551616 := Nat.lt_of_le_of_lt Nat.and_le_left (sC_lt x)
    refine ⟨.inr h2, ?_⟩
    rw [g_andF hbt hz, ← add_or (w := 64) hlt (fld_lt f2 (okY_out hx).2.1) (g_btand hbt)]
    exact vl_mk hq hlt h2
theorem lim_u64 {k : IntKind} (h : Nat.beq (lim k) 18446744073709551616 = true) : k = .u64 := by cases k <;> first | rfl | cases h
theorem bits_anN (x : Int) {y : Nat} (hy : y < 18446744073709551616) : bits .andNot .u64 x (y : Int) = bits .and .u64 x ((18446744073709551615 - y : Nat) : Int) := by
  have h : ~~~(BitVec.ofInt IntKind.u64.bits (y : Int)) = BitVec.ofInt IntKind.u64.bits ((18446744073709551615 - y : Nat) : Int) := by
    apply BitVec.eq_of_toNat_eq
    rw [BitVec.toNat_not, ofInt_nat' (n := IntKind.u64.bits) rfl hy, ofInt_nat' (n := IntKind.u64.bits) rfl (by omega)]
    rfl
  simp only [bits, h]
theorem syO_ok {op : BinOp} {k : IntKind} {x y n : Nat} (hy : plN y = true) (h : syO op k x y = some n) : (isY x = true ∨ isYM x = true) ∧ (plN n = true ∨ isY n = true) ∧ vl e (.ofNat n) = opI op k (vl e (.ofNat x)) (vl e (.ofNat y)) := by
  have hy := plN_lt hy
  have ey : vl e (.ofNat y) = (y : Int) := vl_pl hy
  rw [ey]
  obtain ⟨f1, f2⟩ := fval_ok e.ρ (sJ x)
  obtain ⟨r1, r2⟩ := sy_rg e.ρ x
  have hq := sQ_lt x
  cases op <;> first | (cases h; done) | skip
  · obtain ⟨h1, h⟩ := onB_t' (show ya k x y = some n from h)
    have h1 : Nat.blt (sHi x + y) (lim k) = true := h1
    have hl := (lim_lt h1).1
    have hcl : sC x + y < 18446744073709551616 := by have := sHi_eq x; omega
    rcases onB_or h with ⟨hx, h⟩ | ⟨_, h⟩
    · obtain ⟨h2, rfl⟩ := rY_out h
      have h2 : isY (mkS (sJ x) (sQ x) (sC x + y)) = true := h2
      refine ⟨.inl hx, .inr h2, ?_⟩
      show vl e (.ofNat (mkS (sJ x) (sQ x) (sC x + y))) = _
      rw [vl_mk hq hcl h2, vl_Y hx]
      have h3 := lim_mono h1 (m := sC x + y + fval e.ρ (sJ x) * 2 ^ sQ x) (by omega)
      rw [← (lim_lt h3).2.2]
      simp only [opI]
      congr 1; omega
    · obtain ⟨hb, h⟩ := onB_t' h
      obtain ⟨hx, h1y⟩ := and_t' hb
      have h1y : 1 ≤ y := Nat.le_of_ble_eq_true h1y
      obtain ⟨h2, rfl⟩ := rY_out h
      have h2 : isY (mkS (sJ x) (sQ x) (sC x + y - 1)) = true := h2
      refine ⟨.inr hx, .inr h2, ?_⟩
      show vl e (.ofNat (mkS (sJ x) (sQ x) (sC x + y - 1))) = _
      rw [vl_mk hq (by omega) h2, vl_YM hx]
      have hp := Nat.mul_le_mul f1 (Nat.two_pow_pos (sQ x))
      have h3 := lim_mono h1 (m := sC x + y - 1 + fval e.ρ (sJ x) * 2 ^ sQ x) (by omega)
      rw [← (lim_lt h3).2.2]
      simp only [opI]
      congr 1; omega
  · exact yAnd_ok hy (show yAnd k x y = some n from h)
  · obtain ⟨hb, h⟩ := onB_t' (show yOr k x y = some n from h)
    obtain ⟨hx, hb⟩ := and_t' hb
    obtain ⟨hb1, hb2⟩ := and_t' hb
    have hY := (okY_out hx).1
    have hv := lim_mono hb1 r2
    have hbt := bt_of hx f2
    refine ⟨.inl hY, ?_⟩
    simp only [opI]
    rw [vl_Y hY, bits_or' hv hb2, bt_or hx f2]
    obtain ⟨hz, h⟩ := onB_t' h
    have hz : y &&& sFm x = 0 := Nat.eq_of_beq_eq_true hz
    obtain ⟨h2, rfl⟩ := rY_out h
    have hlt : sC x ||| y < 18446744073709551616 := Nat.or_lt_two_pow (n := 64) (sC_lt x) hy
    refine ⟨.inr h2, ?_⟩
    rw [g_or, ← add_or (w := 64) hlt (fld_lt f2 (okY_out hx).2.1) (g_btor hbt hz)]
    exact vl_mk hq hlt h2
  · obtain ⟨hb, h⟩ := onB_t' (show yShl k x y = some n from h)
    obtain ⟨hx, hb⟩ := and_t' hb
    obtain ⟨hb1, hb2⟩ := and_t' hb
    have hb2 : sQ x + y < 64 := by rwa [Nat.blt_eq] at hb2
    obtain ⟨h2, rfl⟩ := rY_out h
    have hm := shl_lt hb1
    have e1 : Nat.shiftLeft (sC x) y = sC x * 2 ^ y := Nat.shiftLeft_eq _ _
    have e0 : Nat.shiftLeft (sHi x) y = sHi x * 2 ^ y := Nat.shiftLeft_eq _ _
    have hcl : sC x * 2 ^ y < 18446744073709551616 := by
      have : sC x ≤ sHi x := by have := sHi_eq x; omega
      have := Nat.mul_le_mul_right (2 ^ y) this
      omega
    have h2 : isY (mkS (sJ x) (sQ x + y) (Nat.shiftLeft (sC x) y)) = true := h2
    refine ⟨.inl hx, .inr h2, ?_⟩
    show vl e (.ofNat (mkS (sJ x) (sQ x + y) (Nat.shiftLeft (sC x) y))) = _
    rw [e1] at h2 ⊢
    rw [vl_mk hb2 hcl h2, vl_Y hx]
    simp only [opI]
    have hv : (sC x + fval e.ρ (sJ x) * 2 ^ sQ x) * 2 ^ y ≤ Nat.shiftLeft (sHi x) y := by rw [e0]; exact Nat.mul_le_mul_right _ r2
    have h3 := lim_lt (lim_mono hb1 hv)
    rw [h3.2.1, Int.toNat_natCast, Nat.min_eq_left (by omega)]
    have e3 : (sC x + fval e.ρ (sJ x) * 2 ^ sQ x) * 2 ^ y = sC x * 2 ^ y + fval e.ρ (sJ x) * 2 ^ (sQ x + y) := by rw [Nat.add_mul, Nat.mul_assoc, ← Nat.pow_add]
    rw [show ((sC x + fval e.ρ (sJ x) * 2 ^ sQ x : Nat) : Int) * 2 ^ y = (((sC x + fval e.ρ (sJ x) * 2 ^ sQ x) * 2 ^ y : Nat) : Int) by rw [Int.natCast_mul, Int.natCast_pow]; rfl, h3.2.2, e3]
  · obtain ⟨hb, h⟩ := onB_t' (show yShr k x y = some n from h)
    obtain ⟨hx, hb⟩ := and_t' hb
    obtain ⟨hb1, hb2⟩ := and_t' hb
    have hb2 : y < 64 := by rwa [Nat.blt_eq] at hb2
    have hY := (okY_out hx).1
    have hv := lim_lt (lim_mono hb1 r2)
    refine ⟨.inl hY, ?_⟩
    simp only [opI]
    rw [vl_Y hY, hv.2.1, Int.toNat_natCast, Nat.min_eq_left (by omega)]
    have eD : ((sC x + fval e.ρ (sJ x) * 2 ^ sQ x : Nat) : Int) / 2 ^ y = (((sC x + fval e.ρ (sJ x) * 2 ^ sQ x) / 2 ^ y : Nat) : Int) := by rw [Int.natCast_ediv, Int.natCast_pow]; rfl
    rw [eD]
    have e1 : Nat.shiftRight (sC x) y = sC x / 2 ^ y := Nat.shiftRight_eq_div_pow _ _
    have hcl : sC x / 2 ^ y < 18446744073709551616 := Nat.lt_of_le_of_lt (Nat.div_le_self _ _) (sC_lt x)
    rcases onB_or h with ⟨hz, h⟩ | ⟨_, h⟩
    · have hz : y ≤ sQ x := Nat.le_of_ble_eq_true hz
      obtain ⟨h2, rfl⟩ := rY_out h
      refine ⟨.inr h2, ?_⟩
      rw [e1] at h2 ⊢
      have h2 : isY (mkS (sJ x) (sQ x - y) (sC x / 2 ^ y)) = true := h2
      show vl e (.ofNat (mkS (sJ x) (sQ x - y) (sC x / 2 ^ y))) = _
      rw [vl_mk (by omega) hcl h2]
      have e4 : fval e.ρ (sJ x) * 2 ^ sQ x = fval e.ρ (sJ x) * 2 ^ (sQ x - y) * 2 ^ y := by rw [Nat.mul_assoc, ← Nat.pow_add, Nat.sub_add_cancel hz]
      rw [e4, Nat.add_mul_div_right _ _ (Nat.two_pow_pos y)]
    · obtain ⟨hz, h⟩ := onB_t' h
      have hz : sQ x + sWd (sJ x) ≤ y := Nat.le_of_ble_eq_true hz
      cases h
      rw [e1]
      refine ⟨.inl (by unfold plN; rw [Nat.blt_eq]; exact hcl), ?_⟩
      have hB : fval e.ρ (sJ x) * 2 ^ sQ x < 2 ^ y := by
        have h1 : fval e.ρ (sJ x) < 2 ^ sWd (sJ x) := Nat.lt_of_le_of_lt f2 (sBd_lt _)
        have h2 : fval e.ρ (sJ x) * 2 ^ sQ x < 2 ^ sWd (sJ x) * 2 ^ sQ x := Nat.mul_lt_mul_of_pos_right h1 (Nat.two_pow_pos _)
        rw [← Nat.pow_add] at h2
        exact Nat.lt_of_lt_of_le h2 (Nat.pow_le_pow_right (by decide) (by omega))
      rw [vl_pl hcl, bt_or hx f2, ← Nat.shiftRight_eq_div_pow, ← Nat.shiftRight_eq_div_pow, Nat.shiftRight_or_distrib]
      have : (fval e.ρ (sJ x) * 2 ^ sQ x) >>> y = 0 := by rw [Nat.shiftRight_eq_div_pow]; exact Nat.div_eq_of_lt hB
      rw [this, Nat.or_zero]
  · obtain ⟨hk, h⟩ := onB_t' (show yAnN k x y = some n from h)
    obtain rfl := lim_u64 hk
    obtain ⟨i1, i2, i3⟩ := yAnd_ok (e := e) (y := 18446744073709551615 - y) (by omega) h
    exact ⟨i1, i2, by rw [i3]; exact (bits_anN _ hy).symm⟩
theorem syI_ok {op : BinOp} {k k' : IntKind} {a b : Int} {n : Nat} (h : syI op k k' a b = some n) : kn a = true ∧ kn b = true ∧ (kn (.ofNat n) = true) ∧ (shB op = true ∨ k = k') ∧ vl e (.ofNat n) = opI op k (vl e a) (vl e b) := by
  have kY : ∀ m : Nat, (isY m = true ∨ isYM m = true) → kn (.ofNat m) = true := fun m hm => by
    have : m < symN := by rcases hm with hm | hm; exact (isY_out hm).2.1; exact (isYM_out hm).2.1
    show Nat.blt m unkN = true
    rw [Nat.blt_eq]; unfold symN at this; unfold unkN; omega
  have kP : ∀ m : Nat, plN m = true → kn (.ofNat m) = true := fun m hm => kn_word (plN_lt hm)
  cases a with
  | negSucc x => cases h
  | ofNat x => cases b with
    | negSucc y => cases h
    | ofNat y =>
      obtain ⟨h1, h⟩ := onB_t' (show onB (or (shB op) (kQ k k')) _ none = some n from h)
      have hk : shB op = true ∨ k = k' := by
        cases c : shB op with
        | true => exact .inl rfl
        | false => rw [c] at h1; exact .inr (kQ_t h1)
      rcases onB_or h with ⟨hy, h⟩ | ⟨_, h⟩
      · obtain ⟨i1, i2, i3⟩ := syO_ok (e := e) hy h
        exact ⟨kY x i1, kP y hy, i2.elim (kP n) fun i => kY n (.inl i), hk, i3⟩
      · obtain ⟨hb, h⟩ := onB_t' h
        obtain ⟨hc, hx⟩ := and_t' hb
        obtain ⟨i1, i2, i3⟩ := syO_ok (e := e) hx h
        refine ⟨kP x hx, kY y i1, i2.elim (kP n) fun i => kY n (.inl i), hk, ?_⟩
        rw [i3]
        cases op <;> first | (cases hc; done) | skip
        · simp only [opI, Int.add_comm]
        · simp only [opI]; exact bits_com_and _ _ _
        · simp only [opI]; exact bits_com_or _ _ _
noncomputable def rgK {γ : Type} (n : Nat) (c : Nat → Nat → Option γ) : Option γ := onB (plN n) (c n n) (onB (isY n) (c (sLo n) (sHi n)) none)
noncomputable def isG (n : Nat) : Bool := and (Nat.ble gN n) (Nat.blt n (Nat.add gN 18446744073709551616))
noncomputable def ltQ0 (x y : Nat) : Option Bool := rgK x fun la ha => rgK y fun lb hb => onB (Nat.blt ha lb) (some true) (onB (Nat.ble hb la) (some false) none)
noncomputable def ltQ (x y : Nat) : Option Bool := onB (and (plN x) (isG y)) (onB (Nat.blt x (sC y)) (some true) none) (ltQ0 x y)
noncomputable def eqQ (x y : Nat) : Option Bool := rgK x fun la ha => rgK y fun lb hb => onB (or (Nat.blt ha lb) (Nat.blt hb la)) (some false) none
noncomputable def ntO (q : Option Bool) : Option Bool := Option.rec none (fun q => some (Bool.not q)) q
noncomputable def samQ (x y : Nat) (a b : Option Bool) : Option Bool := onB (and (Nat.beq x y) (Nat.blt x unkN)) a b
noncomputable def noQ : Nat → Nat → Option Bool := fun _ _ => none
noncomputable def syC (op : BinOp) : Nat → Nat → Option Bool :=
  BinOp.rec (motive := fun _ => Nat → Nat → Option Bool) noQ noQ noQ noQ noQ noQ noQ noQ noQ noQ noQ (fun x y => samQ x y (some true) (eqQ x y)) (fun x y => samQ x y (some false) (ntO (eqQ x y))) (fun x y => samQ x y (some false) (ltQ x y)) (fun x y => samQ x y (some true) (ntO (ltQ y x))) (fun x y => samQ x y (some false) (ltQ y x)) (fun x y => samQ x y (some true) (ntO (ltQ x y))) op
noncomputable def syB (op : BinOp) (k k' : IntKind) (a b : Int) : Option Bool := onB (kQ k k') (natsK a b (syC op)) none
def opB (op : BinOp) (a b : Int) : Bool := match op with
  | .eql => a == b
  | .neq => a != b
  | .lss => decide (a < b)
  | .leq => decide (a ≤ b)
  | .gtr => decide (a > b)
  | .geq => decide (a ≥ b)
  | _ => false
noncomputable def cmB (op : BinOp) : Bool := BinOp.rec false false false false false false false false false false false true true true true true true op
theorem rgK_out {γ : Type} {n : Nat} {c : Nat → Nat → Option γ} {r : γ} (h : rgK n c = some r) : ∃ lo hi v : Nat, c lo hi = some r ∧ vl e (.ofNat n) = (v : Int) ∧ lo ≤ v ∧ v ≤ hi ∧ kn (.ofNat n) = true := by
  rcases onB_or h with ⟨hp, h⟩ | ⟨_, h⟩
  · exact ⟨n, n, n, h, vl_pl (plN_lt hp), Nat.le_refl _, Nat.le_refl _, kn_word (plN_lt hp)⟩
  · obtain ⟨hy, h⟩ := onB_t' h
    obtain ⟨r1, r2⟩ := sy_rg e.ρ n
    refine ⟨_, _, _, h, vl_Y hy, r1, r2, ?_⟩
    have := (isY_out hy).2.1
    show Nat.blt n unkN = true
    rw [Nat.blt_eq]; unfold symN at this; unfold unkN; omega
theorem ltQ0_ok {x y : Nat} {q : Bool} (h : ltQ0 x y = some q) : kn (.ofNat x) = true ∧ kn (.ofNat y) = true ∧ q = decide (vl e (.ofNat x) < vl e (.ofNat y)) := by
  obtain ⟨la, ha, v, h, e1, a1, a2, k1⟩ := rgK_out (e := e) h
  obtain ⟨lb, hb, u, h, e2, b1, b2, k2⟩ := rgK_out (e := e) h
  refine ⟨k1, k2, ?_⟩
  rw [e1, e2]
  rcases onB_or h with ⟨hc, h⟩ | ⟨_, h⟩
  · rw [Nat.blt_eq] at hc; cases h
    symm; rw [decide_eq_true_eq]; omega
  · obtain ⟨hc, h⟩ := onB_t' h
    have hc := Nat.le_of_ble_eq_true hc; cases h
    symm; rw [decide_eq_false_iff_not]; omega
theorem ltQ_ok {x y : Nat} {q : Bool} (h : ltQ x y = some q) : kn (.ofNat x) = true ∧ kn (.ofNat y) = true ∧ q = decide (vl e (.ofNat x) < vl e (.ofNat y)) := by
  rcases onB_or h with ⟨hb, h⟩ | ⟨_, h⟩
  · obtain ⟨hx, hy⟩ := and_t' hb
    obtain ⟨hy1, hy2⟩ := and_t' hy
    have hy1 := Nat.le_of_ble_eq_true hy1
    obtain ⟨h1, h2⟩ := onB_t' h
    cases h2
    have hx := plN_lt hx
    rw [Nat.blt_eq] at h1 hy2
    have hy2 : y < gN + 18446744073709551616 := hy2
    refine ⟨kn_word hx, by show Nat.blt y unkN = true; rw [Nat.blt_eq]; unfold gN at hy2; unfold unkN; omega, ?_⟩
    have e2 : vl e (.ofNat y) = ((Nat.max (sC y) (e.ρ 100).toNat : Nat) : Int) := by
      unfold vl
      rw [if_pos (by show (18446744073709551616 : Int) ≤ (y : Int); unfold gN at hy1; omega), if_pos (by show (symN : Int) ≤ (y : Int); unfold gN at hy1; unfold symN; omega), if_pos (by show (gN : Int) ≤ (y : Int); omega)]
      rfl
    rw [vl_pl hx, e2]
    symm; rw [decide_eq_true_eq]
    have : sC y ≤ Nat.max (sC y) (e.ρ 100).toNat := Nat.le_max_left _ _
    omega
  · exact ltQ0_ok h
theorem eqQ_ok {x y : Nat} {q : Bool} (h : eqQ x y = some q) : kn (.ofNat x) = true ∧ kn (.ofNat y) = true ∧ q = (vl e (.ofNat x) == vl e (.ofNat y)) := by
  obtain ⟨la, ha, v, h, e1, a1, a2, k1⟩ := rgK_out (e := e) h
  obtain ⟨lb, hb, u, h, e2, b1, b2, k2⟩ := rgK_out (e := e) h
  refine ⟨k1, k2, ?_⟩
  rw [e1, e2]
  obtain ⟨hc, h⟩ := onB_t' h
  cases h
  have : (v : Int) ≠ (u : Int) := by
    simp only [Bool.or_eq_true, Nat.blt_eq] at hc
    omega
  symm; simpa using this
theorem ntO_out {o : Option Bool} {q : Bool} (h : ntO o = some q) : o = some (!q) := by
  cases o with
  | none => cases h
  | some p => cases p <;> cases h <;> rfl
theorem samQ_out {x y : Nat} {a b : Option Bool} {q : Bool} (h : samQ x y a b = some q) : (x = y ∧ kn (.ofNat x) = true ∧ a = some q) ∨ b = some q := by
  rcases onB_or h with ⟨h1, h⟩ | ⟨_, h⟩
  · obtain ⟨h1, h2⟩ := and_t' h1
    exact .inl ⟨Nat.eq_of_beq_eq_true h1, h2, h⟩
  · exact .inr h
theorem syB_ok {op : BinOp} {k k' : IntKind} {a b : Int} {q : Bool} (h : syB op k k' a b = some q) : cmB op = true ∧ k = k' ∧ kn a = true ∧ kn b = true ∧ q = opB op (vl e a) (vl e b) := by
  obtain ⟨hk, h⟩ := onB_t' h
  cases a with
  | negSucc x => cases h
  | ofNat x => cases b with
    | negSucc y => cases h
    | ofNat y =>
      have h : syC op x y = some q := h
      have hk := kQ_t hk
      cases op <;> first | (cases h; done) | skip
      all_goals refine ⟨rfl, hk, ?_⟩
      all_goals rcases samQ_out h with ⟨rfl, h1, h2⟩ | h
      all_goals first | (refine ⟨h1, h1, ?_⟩; cases h2; simp [opB]; done) | skip
      · exact eqQ_ok h
      · obtain ⟨h1, h2, h3⟩ := eqQ_ok (e := e) (ntO_out h)
        refine ⟨h1, h2, ?_⟩
        show q = !(vl e _ == vl e _)
        rw [← h3]; simp
      · exact ltQ_ok h
      · obtain ⟨h1, h2, h3⟩ := ltQ_ok (e := e) (ntO_out h)
        refine ⟨h2, h1, ?_⟩
        simp only [opB]
        have : q = !decide (vl e (.ofNat y) < vl e (.ofNat x)) := by rw [← h3]; simp
        rw [this]
        by_cases c : vl e (Int.ofNat y) < vl e (Int.ofNat x)
        · rw [decide_eq_true c, Bool.not_true]; symm; rw [decide_eq_false_iff_not]; omega
        · rw [decide_eq_false c, Bool.not_false]; symm; rw [decide_eq_true_eq]; omega
      · obtain ⟨h1, h2, h3⟩ := ltQ_ok (e := e) h
        exact ⟨h2, h1, h3⟩
      · obtain ⟨h1, h2, h3⟩ := ltQ_ok (e := e) (ntO_out h)
        refine ⟨h1, h2, ?_⟩
        simp only [opB]
        have : q = !decide (vl e (.ofNat x) < vl e (.ofNat y)) := by rw [← h3]; simp
        rw [this]
        by_cases c : vl e (Int.ofNat x) < vl e (Int.ofNat y)
        · rw [decide_eq_true c, Bool.not_true]; symm; rw [decide_eq_false_iff_not]; omega
        · rw [decide_eq_false c, Bool.not_false]; symm; rw [decide_eq_true_eq]; omega
end
end Go.E
