/- The arguments of a statement: what is read of them becomes values over read-only blocks; behind the call they read as before. -/
import Derived.Test.YtpmobbehdpgnbaaZ9
import Derived.Deep.Slices
import Derived.ChangeSame
import Derived.ReadAgain
import Derived.RowKit3
import Derived.OpenShut
import Derived.SizedLaws
/- For use: loops by recursion on data, arrays of structs, tables of specs. -/
namespace Go.D
set_option linter.all false
variable [Tabs]

/-! ### small facts -/
theorem known_nil : known [] = true := (rfl)
theorem known_cons {x : S} {xs : List S} : known (x :: xs) = (V.known (.s x) && known xs) := by
  simp only [known, List.all_cons]
  cases x <;> rfl

theorem put_nil {xs : List S} {o : Nat} : put xs o [] = xs := (rfl)
theorem put_succ {x : S} : ∀ {vs xs : List S} {o : Nat}, put (x :: xs) (o + 1) vs = x :: put xs o vs
  | [], _, _ => rfl
  | v :: vs, xs, o => by
    simp only [put, List.set_cons_succ]
    exact put_succ
theorem put_zero {x v : S} {vs xs : List S} : put (x :: xs) 0 (v :: vs) = v :: put xs 0 vs := by
  simp only [put, List.set_cons_zero]
  exact put_succ
theorem sub_succ {x : S} {xs : List S} {o n : Nat} : sub (x :: xs) (o + 1) n = sub xs o n := (rfl)
theorem sub_zero {x : S} {xs : List S} {n : Nat} : sub (x :: xs) 0 (n + 1) = x :: sub xs 0 n := (rfl)
theorem sub_none {xs : List S} : sub xs 0 0 = [] := (rfl)
theorem wrap64 {n : Int} (h1 : -9223372036854775808 ≤ n) (h2 : n < 9223372036854775808) : IntKind.i64.wrap n = n := by rw [IntKind.wrap_i64]; omega

theorem Wk.cutJ {n0 : Nat} {t t' : List V} {ls ls' h : List Blk} (junk : List Blk) (e : ls' = ls ++ junk) (ht : leT t' t) (hb : t'.all (V.below ls.length) = true) (hl : ls.all (fun B => B.cells.all (S.below ls.length)) = true) : Wk n0 ⟨t, ls', h⟩ ⟨t', ls, h⟩ := by
  subst e; exact .cut junk ht hb hl

theorem Wk.keep {n0 : Nat} {t t' : List V} {ls ls' h h' : List Blk} (n : Nat) (e : ls'.take n = ls) (eh : h = h') (ht : leT t' t) (hb : t'.all (V.below ls.length) = true) (hl : ls.all (fun B => B.cells.all (S.below ls.length)) = true) : Wk n0 ⟨t, ls', h⟩ ⟨t', ls, h'⟩ := by
  subst eh
  exact Wk.cutJ (ls'.drop n) (by rw [← e, List.take_append_drop]) ht hb hl
theorem Wk.same {n0 : Nat} {t t' : List V} {ls ls' h h' : List Blk} (e : ls' = ls) (eh : h = h') (ht : leT t' t) : Wk n0 ⟨t, ls', h⟩ ⟨t', ls, h'⟩ := by
  subst e; subst eh
  exact .less ht

theorem app_get0 {α : Type} {h r : List α} : (h ++ r)[h.length]? = r[0]? := by
  rw [List.getElem?_append_right (Nat.le_refl _), Nat.sub_self]
theorem app_getn {α : Type} {h r : List α} {n : Nat} : (h ++ r)[h.length + n]? = r[n]? := by
  rw [List.getElem?_append_right (by omega), Nat.add_sub_cancel_left]
theorem app_set0 {α : Type} {h r : List α} {B : α} : (h ++ r).set h.length B = h ++ r.set 0 B := by
  rw [List.set_append_right _ _ (Nat.le_refl _), Nat.sub_self]
theorem app_setn {α : Type} {h r : List α} {n : Nat} {B : α} : (h ++ r).set (h.length + n) B = h ++ r.set n B := by
  rw [List.set_append_right _ _ (by omega), Nat.add_sub_cancel_left]
/-! ### shared blocks that nobody needs any more -/
theorem leT_at : ∀ {t' t : List V}, leT t' t → t'.length = t.length ∧ ∀ (i : Nat) (v : V), t'[i]? = some v → v = .s .u ∨ t[i]? = some v
  | [], [], _ => ⟨rfl, fun i v h => by simp at h⟩
  | v' :: t', v :: t, h => by
    obtain ⟨h1, h2⟩ := leT_at h.2
    refine ⟨by simp [h1], fun i u hu => ?_⟩
    cases i with
    | zero =>
      simp only [List.getElem?_cons_zero, Option.some.injEq] at hu ⊢
      subst hu
      rcases h.1 with e | e
      · exact .inl e
      · exact .inr e.symm
    | succ i => simpa using h2 i u (by simpa using hu)
  | [], _ :: _, h => h.elim
  | _ :: _, [], h => h.elim

def R.shift (d : Nat) : R → R
  | .g k => .g k
  | .l k => .l (d + k)

theorem V.ren_u' {ρ : R → R} {v : V} (h : v.ren ρ = .s .u) : v = .s .u := by
  cases v with
  | s x => cases x <;> simp [V.ren, S.ren] at h ⊢
  | agg xs => simp [V.ren] at h
  | tup cs => simp [V.ren] at h

theorem Wk.shift {n0 : Nat} {t t' : List V} {ls ls' h : List Blk} (d : Nat) (hls : ls'.map (Blk.ren (R.shift d)) = ls.drop d) (hn : n0 ≤ h.length) (ht : leT (t'.map (V.ren (R.shift d))) t) (hv : t'.all (V.val h.length ls'.length) = true)
    (hh : clean h.length h = true) (hl : ls'.all (fun B => vals h.length ls'.length B.cells) = true) (hg : h.map (Blk.ren (R.shift d)) = h) : Wk n0 ⟨t, ls, h⟩ ⟨t', ls', h⟩ := by
  obtain ⟨h1, h2⟩ := leT_at ht
  refine .by_ (R.shift d) ⟨hn, fun _ _ => rfl, fun k hk _ => .inl ⟨k, hk, rfl⟩, fun r r' _ _ e => ?_, fun r B' hb => ?_, fun B hB => ?_, fun B hB => ?_, by simpa using h1, fun i v' hi => ?_⟩
  · cases r <;> cases r' <;> simp only [R.shift, R.g.injEq, R.l.injEq, reduceCtorEq] at e ⊢ <;> omega
  · cases r with
    | g k =>
      simp only [blk, R.shift] at hb ⊢
      have := congrArg (fun l => l[k]?) hg
      simp only [List.getElem?_map, hb, Option.map_some] at this
      rw [hb, this]
    | l k =>
      simp only [blk, R.shift] at hb ⊢
      have := congrArg (fun l => l[k]?) hls
      simp only [List.getElem?_map, hb, Option.map_some, List.getElem?_drop] at this
      exact this.symm
  · simp only [clean, List.all_eq_true] at hh; exact hh B hB
  · simp only [List.all_eq_true] at hl; exact hl B hB
  · refine ⟨?_, ?_⟩
    · simp only [List.all_eq_true] at hv; exact hv v' (List.mem_of_getElem? hi)
    · rcases h2 i (v'.ren (R.shift d)) (by rw [List.getElem?_map, hi]; rfl) with h3 | h3
      · exact .inl (V.ren_u' h3)
      · exact .inr h3

def R.pick (is : List Nat) : R → R
  | .g k => .g k
  | .l k => .l (is.getD k 0)
theorem S.ren_clean {ρ : R → R} {n : Nat} (hρ : ∀ k, ρ (.g k) = .g k) {s : S} (h : s.val n 0 = true) : s.ren ρ = s := by
  have hr : ∀ r : R, r.val n 0 = true → ρ r = r := fun r hr => by
    cases r with
    | g k => exact hρ k
    | l k => simp [R.val] at hr
  cases s with
  | p r o => simp only [S.ren]; rw [hr r h]
  | sl r o a c => simp only [S.ren]; rw [hr r h]
  | fn f cs =>
    simp only [S.ren, S.fn.injEq, true_and]
    simp only [S.val, List.all_eq_true] at h
    refine (List.map_congr_left fun x hx => ?_).trans (List.map_id _)
    rw [hr x.1 (h x hx)]; rfl
  | _ => rfl
theorem clean_ren {n : Nat} {h : List Blk} (hc : clean n h = true) (d : Nat) : h.map (Blk.ren (R.shift d)) = h := by
  simp only [clean, List.all_eq_true] at hc
  refine (List.map_congr_left fun B hB => ?_).trans (List.map_id _)
  have := hc B hB
  simp only [vals, List.all_eq_true] at this
  obtain ⟨st, cells, room⟩ := B
  simp only [Blk.ren, id]
  congr 1
  exact (List.map_congr_left fun s hs => S.ren_clean (fun _ => rfl) (this s hs)).trans (List.map_id _)

def Cut (n : Nat) (K : V → List Blk → Prop) : V → List Blk → Prop := fun v h' => ∃ h1 junk, h' = h1 ++ junk ∧ n ≤ h1.length ∧ clean h1.length h1 = true ∧ v.val h1.length 0 = true ∧ K v h1

theorem Inv.cutH {σ0 : Sg} {h0 : List Blk} {w0 : World} {σ : Sg} {h junk : List Blk} {w : World} (H : Inv σ0 h0 w0 σ (h ++ junk) [] w) (hn : h0.length ≤ h.length) (hh : clean h.length h = true) : Inv σ0 h0 w0 σ h [] w := by
  have hb : ∀ r B, blk h [] r = some B → blk (h ++ junk) [] r = some B := fun r B hr => by
    cases r with
    | g k =>
      simp only [blk] at hr ⊢
      rw [List.getElem?_append_left (List.getElem?_eq_some_iff.1 hr).1]; exact hr
    | l k => exact hr
  refine ⟨⟨fun r B hr => H.sim.ok r B (hb r B hr), fun r r' B B' h1 h2 => H.sim.sep r r' B B' (hb r B h1) (hb r' B' h2), fun B hB => ?_, fun B hB => by cases hB⟩, H.kept, hn, H.old, fun r B hr => H.mine r B (hb r B hr), fun k h1 h2 => H.new k h1 (by simp; omega), fun k B0 B h1 h2 => H.live k B0 B h1 ?_, H.gl⟩
  · simp only [clean, List.all_eq_true] at hh; exact hh B hB
  · rw [List.getElem?_append_left (List.getElem?_eq_some_iff.1 h2).1]; exact h2

theorem Snd.cut {P : Program} {f : FuncId} {S S' : FSpec} (hS : Snd P f S) (hh : ∀ args h K, clean h.length h = true → S' args h K → S args h (Cut h.length K)) : Snd P f S' := fun σ h w args K hs hG hv hk hK => by
  have hc : clean h.length h = true := by
    simp only [clean, List.all_eq_true]
    exact hs.gval
  refine (hS σ h w args _ hs hG hv hk (hh args h K hc hK)).mono ?_
  rintro e w' ⟨v, h', σ', e1, e2, e3, e4, h1, junk, rfl, k1, k2, k3, k4⟩
  exact ⟨v, h1, σ', e1, e2, k3, e4.cutH k1 k2, k4⟩

theorem app_setl {α : Type} {h X : List α} {k : Nat} {B : α} (hk : k < h.length) : (h ++ X).set k B = h.set k B ++ X := List.set_append_left _ _ hk
theorem take_app {α : Type} {h X : List α} {n : Nat} (e : h.length = n) : (h ++ X).take n = h := by subst e; exact List.take_left
theorem drop_app {α : Type} {h X : List α} {n : Nat} (e : h.length = n) : (h ++ X).drop n = X := by subst e; exact List.drop_left
theorem clean_set {n k : Nat} {h : List Blk} {B : Blk} (hc : clean n h = true) (hB : vals n 0 B.cells = true) : clean n (h.set k B) = true := by
  simp only [clean, List.all_eq_true] at *
  intro x hx
  rcases List.mem_or_eq_of_mem_set hx with h1 | h1
  · exact hc x h1
  · subst h1; exact hB
theorem set_hit {h : List Blk} {k : Nat} {B B' : Blk} (hk : h[k]? = some B) : (h.set k B')[k]? = some B' := by
  obtain ⟨hlt, _⟩ := List.getElem?_eq_some_iff.1 hk
  simp [hlt]
theorem set_miss {h : List Blk} {k j : Nat} {B' : Blk} (e : k ≠ j) : (h.set k B')[j]? = h[j]? := by simp [e]
theorem set_self {h : List Blk} {k : Nat} {B : Blk} (hk : h[k]? = some B) : h.set k B = h := by
  obtain ⟨hlt, e⟩ := List.getElem?_eq_some_iff.1 hk
  subst e; simp

/-! ### equations that are used as rewrites, each as a proof of its own -/
theorem lenR_sl {r : R} {o n c : Nat} {ls h : List Blk} : lenR (.s (.sl r o n c)) ls h = .ok (.s (.i .i64 n)) ls h := by rfl
theorem lenR_ns {ls h : List Blk} : lenR (.s .ns) ls h = .ok (.s (.i .i64 0)) ls h := by rfl
theorem lenR_es {a : Addr} {c : Nat} {ls h : List Blk} : lenR (.s (.es a c)) ls h = .ok (.s (.i .i64 0)) ls h := by rfl
section
universe u
theorem q_all_cons {α : Type u} {a : α} {l : List α} {f : α → Bool} : (a :: l).all f = (f a && l.all f) := by rfl
theorem q_all_nil {α : Type u} {f : α → Bool} : ([] : List α).all f = true := by rfl
theorem q_get0 {α : Type u} {a : α} {l : List α} : (a :: l)[0]? = some a := by rfl
theorem q_getS {α : Type u} {a : α} {i : Nat} {l : List α} : (a :: l)[i + 1]? = l[i]? := by rfl
theorem q_getN {α : Type u} {i : Nat} : ([] : List α)[i]? = none := by rfl
theorem q_len_cons {α : Type u} {a : α} {l : List α} : (a :: l).length = l.length + 1 := by rfl
theorem q_len_nil {α : Type u} : ([] : List α).length = 0 := by rfl
theorem q_cons_app {α : Type u} {a : α} {l m : List α} : (a :: l) ++ m = a :: (l ++ m) := by rfl
theorem q_nil_app {α : Type u} (l : List α) : [] ++ l = l := by rfl
theorem q_cond_t {α : Sort u} (a b : α) : (bif true then a else b) = a := by rfl
theorem q_cond_f {α : Sort u} (a b : α) : (bif false then a else b) = b := by rfl
theorem q_cast {n : Nat} : @Nat.cast Int instNatCastInt (no_index (OfNat.ofNat n)) = OfNat.ofNat n := by rfl
theorem q_ite_t {α : Sort u} (a b : α) : (if True then a else b) = a := by simp
theorem q_ite_f {α : Sort u} (a b : α) : (if False then a else b) = b := by simp
theorem q_add_zero (n : Nat) : n + 0 = n := by rfl
theorem q_ne {α : Sort u} (a b : α) : (a ≠ b) = ¬ a = b := by rfl
theorem q_toNat (n : Nat) : ((n : Int)).toNat = n := by rfl
end

theorem cut_s {Γ : FuncId → FSpec} {n0 : Nat} {K : Ex → St → Prop} {n : Nat} {a b : DC} {fs : List Fr} : cutFs Γ n0 K (n + 1) (.seq a b) fs = .c a :: cutFs Γ n0 K n b fs := (rfl)
theorem cut_0 {Γ : FuncId → FSpec} {n0 : Nat} {K : Ex → St → Prop} {d : DC} {fs : List Fr} : cutFs Γ n0 K 0 d fs = .lp (fun s => swp Γ n0 K (.c d :: fs) s) :: fs := by
  unfold cutFs; rfl

/-! ### loops -/
def killT : List Nat → List V → List V
  | [], t => t
  | i :: is, t => killT is (t.set i (.s .u))
def setT : List (Nat × V) → List V → List V
  | [], t => t
  | (i, v) :: is, t => setT is (t.set i v)


theorem loop_rule {Γ : FuncId → FSpec} {n0 : Nat} {K : Ex → St → Prop} {c : DC} {fs : List Fr} {t : List V} {ls h : List Blk} {α : Type} (dead : List Nat) (upd : α → List (Nat × V)) (L H : α → List Blk) (I : α → Prop) (μ : α → Nat) (x0 : α)
    (h0 : I x0) (W0 : Wk n0 ⟨t, ls, h⟩ ⟨setT (upd x0) (killT dead t), L x0, H x0⟩)
    (step : ∀ (X : St → Prop) (x : α), I x → (∀ (y : α) (s : St), μ y < μ x → I y → Wk n0 s ⟨setT (upd y) (killT dead t), L y, H y⟩ → X s) → swp Γ n0 K (.c c :: .lp X :: fs) ⟨setT (upd x) (killT dead t), L x, H x⟩) :
    holds Γ n0 K (.loop c fs t ls h) := by
  rw [holds_loop]
  refine swp_loop fun X hX => ?_
  have main : ∀ (n : Nat) (x : α) (s : St), μ x = n → I x → Wk n0 s ⟨setT (upd x) (killT dead t), L x, H x⟩ → X s := by
    intro n
    induction n using Nat.strongRecOn with
    | _ n ih =>
      intro x s hn hx hW
      exact hX s (swp_weak hW (step X x hx fun y s' hlt hy hW' => ih (μ y) (by omega) y s' rfl hy hW'))
  exact main _ x0 _ rfl h0 W0

/-! ### arrays of structs -/
section arrs
variable {α : Type} (f : α → List S) (k : Nat)

def arr : List α → List S
  | [] => []
  | x :: l => f x ++ arr l

variable {f : α → List S} {k : Nat} (hf : ∀ x, (f x).length = k)
include hf

theorem arr_length : ∀ l : List α, (arr f l).length = l.length * k
  | [] => by simp [arr]
  | x :: l => by simp only [arr, List.length_append, hf, arr_length l, List.length_cons, Nat.succ_mul]; omega

theorem arr_drop : ∀ (l : List α) (i : Nat), (arr f l).drop (i * k) = arr f (l.drop i)
  | [], i => by simp [arr]
  | x :: l, 0 => by simp
  | x :: l, i + 1 => by
    have e : (i + 1) * k = (f x).length + i * k := by rw [hf, Nat.succ_mul]; omega
    simp only [arr, e, List.drop_succ_cons]
    rw [← List.drop_drop, List.drop_left]
    exact arr_drop l i

theorem arr_sub {l : List α} {i : Nat} (h : i < l.length) : sub (arr f l) (i * k) k = f l[i] := by
  unfold sub
  rw [arr_drop hf]
  rw [List.drop_eq_getElem_cons h]
  simp only [arr]
  rw [← hf l[i]]
  exact List.take_left

theorem arr_get {l : List α} {i j : Nat} (h : i < l.length) (hj : j < k) : (arr f l)[i * k + j]? = (f l[i])[j]? := by
  have e := congrArg (fun q => q[j]?) (arr_sub hf h)
  simp only [sub] at e
  rw [List.getElem?_take, if_pos hj, List.getElem?_drop] at e
  exact e

theorem arr_get0 {l : List α} {i : Nat} (h : i < l.length) (hj : 0 < k) : (arr f l)[i * k]? = (f l[i])[0]? := arr_get (j := 0) hf h hj

omit hf in
theorem arr_append (l m : List α) : arr f (l ++ m) = arr f l ++ arr f m := by
  induction l with
  | nil => rfl
  | cons x l ih => simp only [List.cons_append, arr, ih, List.append_assoc]

omit hf in
theorem arr_all (p : S → Bool) (l : List α) : (arr f l).all p = l.all fun x => (f x).all p := by
  induction l with
  | nil => rfl
  | cons x l ih => simp only [arr, List.all_append, List.all_cons, ih]
end arrs

/-! ### specs -/
def noT : Tab := fun _ _ _ => none
def addT (f : FuncId) (g : List V → List Blk → Res) (G : Tab) : Tab := fun k args h => if k = f then some (g args h) else G k args h

def Tab.Snd (P : Program) (G : Tab) : Prop := ∀ f args h r, G f args h = some r → FnOk P f ∧ D.Snd P f fun args h K => ∃ r, G f args h = some r ∧ r.spec K

def Tab.Γ (G : Tab) : FuncId → FSpec := fun f args h K => ∃ r, G f args h = some r ∧ r.spec K
theorem Tab.ok_Γ (G : Tab) : G.ok G.Γ := fun _ _ _ r hr _ hk => ⟨r, hr, hk⟩
theorem Tab.snd_Γ {P : Program} {G : Tab} (h : G.Snd P) : SndΓ P G.Γ := fun f args h' K hg => by
  obtain ⟨r, hr, hk⟩ := hg
  exact h f args h' r hr

theorem noT_snd (P : Program) : noT.Snd P := fun _ _ _ _ h => by cases h
theorem addT_snd {P : Program} {f : FuncId} {g : List V → List Blk → Res} {G : Tab} (ok : FnOk P f) (hg : D.Snd P f (FSpec.of g)) (hG : G.Snd P) : (addT f g G).Snd P := fun k args h r hr => by
  by_cases e : k = f
  · subst e
    refine ⟨ok, ?_⟩
    have : (fun args h K => ∃ r, addT k g G k args h = some r ∧ r.spec K) = FSpec.of g := by
      funext args h K
      simp only [addT, if_true, Option.some.injEq, FSpec.of, exists_eq_left', eq_iff_iff]
    rw [this]
    exact hg
  · have : (fun args h K => ∃ r, addT f g G k args h = some r ∧ r.spec K) = fun args h K => ∃ r, G k args h = some r ∧ r.spec K := by
      funext args h K
      simp only [addT, if_neg e]
    rw [this]
    simp only [addT, if_neg e] at hr
    exact hG k args h r hr

def nth {α : Type} (d : α) : List α → Nat → α
  | [], _ => d
  | x :: _, 0 => x
  | _ :: l, i + 1 => nth d l i
theorem nth_eq {α : Type} {d : α} : ∀ {l : List α} {i : Nat} (h : i < l.length), nth d l i = l[i]
  | [], i, h => by simp at h
  | _ :: _, 0, _ => rfl
  | _ :: l, i + 1, h => nth_eq (l := l) (by simpa using h)
theorem nth_get {α : Type} {d : α} {l : List α} {i : Nat} (h : i < l.length) : l[i]? = some (nth d l i) := by
  rw [List.getElem?_eq_getElem h, nth_eq h]

theorem snd_run {P : Program} {G : Tab} (hG : G.Snd P) (hm : P.follows .mixedOrders = true) {f : FuncId} {fn : Func} {F : DF} (hf : P.funcs[f]? = some fn) (hF : compF P fn = some F) {g : List V → List Blk → Res} (n : Nat)
    (hh : ∀ args h (K : V → List Blk → Prop), clean h.length h = true → (g args h).spec K → holds G.Γ h.length (finP F.res K) (run G n [.c F.body] (args ++ List.replicate (F.ntmps - args.length) (.tup [])) [] h)) :
    D.Snd P f (FSpec.of g) :=
  (fwp_sound (Tab.snd_Γ hG) hm hf hF).weaken fun args h K hc hS => fwp_run G.ok_Γ n (hh args h K hc hS)

theorem snd_cut {P : Program} {G : Tab} (hG : G.Snd P) (hm : P.follows .mixedOrders = true) {f : FuncId} {fn : Func} {F : DF} (hf : P.funcs[f]? = some fn) (hF : compF P fn = some F) {g : List V → List Blk → Res} (n : Nat)
    (hh : ∀ args h (K : V → List Blk → Prop), clean h.length h = true → (g args h).spec K → holds G.Γ h.length (finP F.res (Cut h.length K)) (run G n [.c F.body] (args ++ List.replicate (F.ntmps - args.length) (.tup [])) [] h)) :
    D.Snd P f (FSpec.of g) :=
  ((fwp_sound (Tab.snd_Γ hG) hm hf hF).weaken fun args h K hc hS => fwp_run G.ok_Γ n hS).cut fun args h K hc hS => hh args h K hc hS

/-! ### scalars, form by form (one that is not known stays) -/
theorem S_val {n m : Nat} : (S.val n m .u = true) ∧ (∀ (x : Bool), S.val n m (.b x) = true) ∧ (∀ (k : IntKind) (x : Int), S.val n m (.i k x) = true) ∧ (∀ (r : R) (o : Nat), S.val n m (.p r o) = R.val n m r) ∧ (S.val n m .np = true) ∧ (∀ (r : R) (o a c : Nat), S.val n m (.sl r o a c) = R.val n m r) ∧ (S.val n m .ns = true) ∧ (∀ (a : Addr) (c : Nat), S.val n m (.es a c) = true) ∧ (∀ (f : FuncId) (cs : List (R × Nat)), S.val n m (.fn f cs) = cs.all fun x => R.val n m x.1) ∧ (S.val n m .nf = true) := by
  refine ⟨?_, ?_, ?_, ?_, ?_, ?_, ?_, ?_, ?_, ?_⟩ <;> intros <;> rfl
theorem S_noL  : (S.noL .u = true) ∧ (∀ (x : Bool), S.noL (.b x) = true) ∧ (∀ (k : IntKind) (x : Int), S.noL (.i k x) = true) ∧ (∀ (r : R) (o : Nat), S.noL (.p r o) = R.noL r) ∧ (S.noL .np = true) ∧ (∀ (r : R) (o a c : Nat), S.noL (.sl r o a c) = R.noL r) ∧ (S.noL .ns = true) ∧ (∀ (a : Addr) (c : Nat), S.noL (.es a c) = true) ∧ (∀ (f : FuncId) (cs : List (R × Nat)), S.noL (.fn f cs) = cs.all fun x => R.noL x.1) ∧ (S.noL .nf = true) := by
  refine ⟨?_, ?_, ?_, ?_, ?_, ?_, ?_, ?_, ?_, ?_⟩ <;> intros <;> rfl
theorem S_below {n : Nat} : (S.below n .u = true) ∧ (∀ (x : Bool), S.below n (.b x) = true) ∧ (∀ (k : IntKind) (x : Int), S.below n (.i k x) = true) ∧ (∀ (r : R) (o : Nat), S.below n (.p r o) = R.below n r) ∧ (S.below n .np = true) ∧ (∀ (r : R) (o a c : Nat), S.below n (.sl r o a c) = R.below n r) ∧ (S.below n .ns = true) ∧ (∀ (a : Addr) (c : Nat), S.below n (.es a c) = true) ∧ (∀ (f : FuncId) (cs : List (R × Nat)), S.below n (.fn f cs) = cs.all fun x => R.below n x.1) ∧ (S.below n .nf = true) := by
  refine ⟨?_, ?_, ?_, ?_, ?_, ?_, ?_, ?_, ?_, ?_⟩ <;> intros <;> rfl
theorem S_names {n : Nat} : (S.names n .u = false) ∧ (∀ (x : Bool), S.names n (.b x) = false) ∧ (∀ (k : IntKind) (x : Int), S.names n (.i k x) = false) ∧ (∀ (r : R) (o : Nat), S.names n (.p r o) = R.names n r) ∧ (S.names n .np = false) ∧ (∀ (r : R) (o a c : Nat), S.names n (.sl r o a c) = R.names n r) ∧ (S.names n .ns = false) ∧ (∀ (a : Addr) (c : Nat), S.names n (.es a c) = false) ∧ (∀ (f : FuncId) (cs : List (R × Nat)), S.names n (.fn f cs) = cs.any fun x => R.names n x.1) ∧ (S.names n .nf = false) := by
  refine ⟨?_, ?_, ?_, ?_, ?_, ?_, ?_, ?_, ?_, ?_⟩ <;> intros <;> rfl
theorem S_ren {ρ : R → R} : (S.ren ρ .u = .u) ∧ (∀ (x : Bool), S.ren ρ (.b x) = (.b x)) ∧ (∀ (k : IntKind) (x : Int), S.ren ρ (.i k x) = (.i k x)) ∧ (∀ (r : R) (o : Nat), S.ren ρ (.p r o) = .p (ρ r) o) ∧ (S.ren ρ .np = .np) ∧ (∀ (r : R) (o a c : Nat), S.ren ρ (.sl r o a c) = .sl (ρ r) o a c) ∧ (S.ren ρ .ns = .ns) ∧ (∀ (a : Addr) (c : Nat), S.ren ρ (.es a c) = (.es a c)) ∧ (∀ (f : FuncId) (cs : List (R × Nat)), S.ren ρ (.fn f cs) = .fn f (cs.map fun x => (ρ x.1, x.2))) ∧ (S.ren ρ .nf = .nf) := by
  refine ⟨?_, ?_, ?_, ?_, ?_, ?_, ?_, ?_, ?_, ?_⟩ <;> intros <;> rfl
theorem S_known  : (V.known (.s .u) = false) ∧ (∀ (x : Bool), V.known (.s (.b x)) = true) ∧ (∀ (k : IntKind) (x : Int), V.known (.s (.i k x)) = true) ∧ (∀ (r : R) (o : Nat), V.known (.s (.p r o)) = true) ∧ (V.known (.s .np) = true) ∧ (∀ (r : R) (o a c : Nat), V.known (.s (.sl r o a c)) = true) ∧ (V.known (.s .ns) = true) ∧ (∀ (a : Addr) (c : Nat), V.known (.s (.es a c)) = true) ∧ (∀ (f : FuncId) (cs : List (R × Nat)), V.known (.s (.fn f cs)) = true) ∧ (V.known (.s .nf) = true) := by
  refine ⟨?_, ?_, ?_, ?_, ?_, ?_, ?_, ?_, ?_, ?_⟩ <;> intros <;> rfl
theorem S_plain  : (V.plain (.s .u) = false) ∧ (∀ (x : Bool), V.plain (.s (.b x)) = true) ∧ (∀ (k : IntKind) (x : Int), V.plain (.s (.i k x)) = true) ∧ (∀ (r : R) (o : Nat), V.plain (.s (.p r o)) = true) ∧ (V.plain (.s .np) = true) ∧ (∀ (r : R) (o a c : Nat), V.plain (.s (.sl r o a c)) = true) ∧ (V.plain (.s .ns) = true) ∧ (∀ (a : Addr) (c : Nat), V.plain (.s (.es a c)) = true) ∧ (∀ (f : FuncId) (cs : List (R × Nat)), V.plain (.s (.fn f cs)) = true) ∧ (V.plain (.s .nf) = true) := by
  refine ⟨?_, ?_, ?_, ?_, ?_, ?_, ?_, ?_, ?_, ?_⟩ <;> intros <;> rfl
theorem V_known : (∀ xs, V.known (.agg xs) = known xs) ∧ (∀ cs, V.known (.tup cs) = cs.all C.known) := by
  refine ⟨?_, ?_⟩ <;> intros <;> rfl
theorem V_plain : (∀ xs, V.plain (.agg xs) = known xs) ∧ (∀ cs, V.plain (.tup cs) = false) := by
  refine ⟨?_, ?_⟩ <;> intros <;> rfl
theorem C_known : (∀ x, C.known (.s x) = V.known (.s x)) ∧ (∀ xs, C.known (.agg xs) = known xs) := by
  refine ⟨?_, ?_⟩
  · intro x; cases x <;> rfl
  · intros; rfl

end Go.D

/- The arguments of a statement: what is read of them becomes values over read-only blocks; behind the call they read as before. -/
namespace Go.D
set_option linter.all false
variable [Tabs]

inductive TY where
  | int (k : IntKind)
  | bool
  | slice (e : List TY)

mutual
def hasT (h : List Blk) : TY → S → Prop
  | .int k, s => ∃ n, s = .i k n ∧ (Lit.int k n).wf = true
  | .bool, s => ∃ b, s = .b b
  | .slice e, s => s = .ns ∨ (∃ a c, s = .es a c) ∨ ∃ (j n c : Nat) (E : List (List S)) (st : BK) (room : Nat), s = .sl (.g j) 0 n c ∧ n ≤ c ∧ n ≤ 140737488355328 ∧ h[j]? = some ⟨st, E.flatten, room⟩ ∧ E.length = n ∧ (n ≠ 0 → st = .ro) ∧ st ≠ .rw ∧ ∀ x, x ∈ E → hasTs h e x
def hasTs (h : List Blk) : List TY → List S → Prop
  | [], [] => True
  | t :: ts, s :: ss => hasT h t s ∧ hasTs h ts ss
  | _, _ => False
end

structure RO (σ : Sg) (h : List Blk) (w : World) : Prop where
  ok : ∀ k B, h[k]? = some B → B.st ≠ .rw ∧ OkBlk σ w (.g k) B
  val : ∀ B, B ∈ h → vals h.length 0 B.cells = true

theorem RO.sim {σ : Sg} {h : List Blk} {w : World} (H : RO σ h w) : Sim σ h [] w := by
  refine ⟨fun r B hb => ?_, fun r r' B B' hb hb' hne hst hd => ?_, H.val, fun B hB => by cases hB⟩
  · cases r with
    | g k => exact (H.ok k B hb).2
    | l k => simp [blk] at hb
  · cases r with
    | g k => exact absurd hst (H.ok k B hb).1
    | l k => simp [blk] at hb

mutual
theorem hasT_mono {h h' : List Blk} : ∀ {t : TY} {s : S}, hasT h t s → hasT (h ++ h') t s
  | .int k, s, hs => hs
  | .bool, s, hs => hs
  | .slice e, s, hs => by
    rcases hs with hs | hs | ⟨j, n, c, E, st, room, h1, h2, h3, h4, h5, h6, h7, h8⟩
    · exact .inl hs
    · exact .inr (.inl hs)
    · exact .inr (.inr ⟨j, n, c, E, st, room, h1, h2, h3, by rw [List.getElem?_append_left (List.getElem?_eq_some_iff.1 h4).1]; exact h4, h5, h6, h7, fun x hx => hasTs_mono (h8 x hx)⟩)
theorem hasTs_mono {h h' : List Blk} : ∀ {ts : List TY} {ss : List S}, hasTs h ts ss → hasTs (h ++ h') ts ss
  | [], [], _ => trivial
  | t :: ts, s :: ss, hs => ⟨hasT_mono hs.1, hasTs_mono hs.2⟩
  | [], _ :: _, hs => hs.elim
  | _ :: _, [], hs => hs.elim
end

/-! ### types, flattened -/
def tyFields (P : Program) (r : TypeId → Option (List TY)) : List Field → Nat → Option (List TY)
  | [], _ => some []
  | f :: fs, off => match r f.type, tyFields P r fs (off + P.cellsOf f.type) with
    | some l, some q => if f.offset = off ∧ l.length = P.cellsOf f.type then some (l ++ q) else none
    | _, _ => none

def tyOf (P : Program) : Nat → TypeId → Option (List TY)
  | 0, _ => none
  | d + 1, t => match P.underlying t with
    | some (.int k) => some [.int k]
    | some .bool => some [.bool]
    | some (.slice e) => match tyOf P d e with
      | some l => if l.length = P.cellsOf e ∧ 0 < l.length ∧ 0 < P.bytesOf e then some [.slice l] else none
      | none => none
    | some (.struct fs) => match tyFields P (tyOf P d) fs.toList 0 with
      | some l => if l.length = P.cellsOf t then some l else none
      | none => none
    | some (.array n e) => match tyOf P d e with
      | some l => if l.length = P.cellsOf e ∧ P.cellsOf t = n * P.cellsOf e then some (List.replicate n l).flatten else none
      | none => none
    | _ => none

section
variable {H : Type} {enc : TypeId × Value → H} {P : Program} {w : World}

def Opens (w : World) (cs : List Value) (tys : List TY) : Prop :=
  ∀ (σ : Sg) (h : List Blk), RO σ h w → ∃ (h' : List Blk) (σ' : Sg) (ss : List S), (∀ k, k < h.length → σ' (.g k) = σ (.g k)) ∧ RO σ' (h ++ h') w ∧ hasTs (h ++ h') tys ss ∧ ss.map (S.tr σ') = cs ∧ vals (h ++ h').length 0 ss = true ∧ known ss = true

theorem hasTs_append {h : List Blk} : ∀ {t1 t2 : List TY} {s1 s2 : List S}, hasTs h t1 s1 → hasTs h t2 s2 → hasTs h (t1 ++ t2) (s1 ++ s2)
  | [], _, [], _, _, h2 => h2
  | _ :: _, _, _ :: _, _, h1, h2 => ⟨h1.1, hasTs_append h1.2 h2⟩
  | [], _, _ :: _, _, h1, _ => h1.elim
  | _ :: _, _, [], _, h1, _ => h1.elim

theorem hasTs_length {h : List Blk} : ∀ {ts : List TY} {ss : List S}, hasTs h ts ss → ss.length = ts.length
  | [], [], _ => rfl
  | _ :: _, _ :: _, h1 => by simp [hasTs_length h1.2]
  | [], _ :: _, h1 => h1.elim
  | _ :: _, [], h1 => h1.elim

theorem trs_old {σ σ' : Sg} {n : Nat} (hA : ∀ k, k < n → σ' (.g k) = σ (.g k)) {ss : List S} (hv : vals n 0 ss = true) : ss.map (S.tr σ') = ss.map (S.tr σ) := by
  simp only [vals, List.all_eq_true] at hv
  refine List.map_congr_left fun s hs => S.tr_congr (n := n) (m := 0) (fun r hr => ?_) s (hv s hs)
  cases r with
  | g k => exact hA k (by simpa [R.val] using hr)
  | l k => simp [R.val] at hr

theorem Opens.nil : Opens w [] [] := fun σ h H => ⟨[], σ, [], fun _ _ => rfl, by simpa using H, trivial, rfl, rfl, rfl⟩

theorem Opens.append {c1 c2 : List Value} {t1 t2 : List TY} (h1 : Opens w c1 t1) (h2 : Opens w c2 t2) : Opens w (c1 ++ c2) (t1 ++ t2) := fun σ h H => by
  obtain ⟨ha, σa, sa, a1, a2, a3, a4, a5, a6⟩ := h1 σ h H
  obtain ⟨hb, σb, sb, b1, b2, b3, b4, b5, b6⟩ := h2 σa (h ++ ha) a2
  refine ⟨ha ++ hb, σb, sa ++ sb, fun k hk => ?_, by rw [← List.append_assoc]; exact b2, ?_, ?_, ?_, ?_⟩
  · rw [b1 k (by simp; omega), a1 k hk]
  · rw [← List.append_assoc]; exact hasTs_append (hasTs_mono a3) b3
  · rw [List.map_append, b4, trs_old b1 a5, a4]
  · rw [← List.append_assoc]
    simp only [vals, List.all_append, Bool.and_eq_true]
    exact ⟨vals_mono (by simp) (Nat.le_refl _) a5, b5⟩
  · simp only [known, List.all_append, Bool.and_eq_true]
    exact ⟨a6, b6⟩

theorem Opens.one {v : Value} {t : TY} (h : ∀ σ : Sg, ∀ h : List Blk, ∃ s : S, hasT h t s ∧ s.tr σ = v ∧ s.val 0 0 = true ∧ V.known (.s s) = true) : Opens w [v] [t] := fun σ h0 H => by
  obtain ⟨s, e1, e2, e3, e4⟩ := h σ h0
  refine ⟨[], σ, [s], fun _ _ => rfl, by simpa using H, ⟨by simpa using e1, trivial⟩, by simp [e2], ?_, ?_⟩
  · simp only [vals, List.all_cons, List.all_nil, Bool.and_true]
    exact S.val_mono (Nat.zero_le _) (Nat.zero_le _) e3
  · rw [known_cons, e4]; rfl

theorem Opens.list {l : List TY} (C : Nat → List Value) : ∀ m : Nat, (∀ i, i < m → Opens w (C i) l) → ∀ (σ : Sg) (h : List Blk), RO σ h w → ∃ (h' : List Blk) (σ' : Sg) (E : List (List S)), (∀ k, k < h.length → σ' (.g k) = σ (.g k)) ∧ RO σ' (h ++ h') w ∧ E.length = m ∧
      (∀ x, x ∈ E → hasTs (h ++ h') l x) ∧ E.flatten.map (S.tr σ') = ((List.range m).map C).flatten ∧ vals (h ++ h').length 0 E.flatten = true ∧ known E.flatten = true
  | 0, _, σ, h, H => ⟨[], σ, [], fun _ _ => rfl, by simpa using H, rfl, fun x hx => absurd hx List.not_mem_nil, rfl, rfl, rfl⟩
  | m + 1, hC, σ, h, H => by
    obtain ⟨ha, σa, E, a1, a2, a3, a4, a5, a6, a7⟩ := Opens.list C m (fun i hi => hC i (by omega)) σ h H
    obtain ⟨hb, σb, sb, b1, b2, b3, b4, b5, b6⟩ := hC m (by omega) σa (h ++ ha) a2
    refine ⟨ha ++ hb, σb, E ++ [sb], fun k hk => ?_, by rw [← List.append_assoc]; exact b2, by simp [a3], fun x hx => ?_, ?_, ?_, ?_⟩
    · rw [b1 k (by simp; omega), a1 k hk]
    · rw [← List.append_assoc]
      rcases List.mem_append.1 hx with h1 | h1
      · exact hasTs_mono (a4 x h1)
      · simp only [List.mem_singleton] at h1; subst h1; exact b3
    · rw [List.flatten_append, List.map_append, trs_old b1 a6, a5, List.range_succ, List.map_append, List.flatten_append]
      simp [b4]
    · rw [← List.append_assoc, List.flatten_append, show [sb].flatten = sb by simp]
      simp only [vals, List.all_append, Bool.and_eq_true]
      exact ⟨vals_mono (by simp) (Nat.le_refl _) a6, b5⟩
    · rw [List.flatten_append, show [sb].flatten = sb by simp]
      simp only [known, List.all_append, Bool.and_eq_true]
      exact ⟨a7, b6⟩

theorem Opens.slice {l : List TY} {a : Addr} {len cap k : Nat} (ha : a.spot = none) (hk : l.length = k) (hlc : len ≤ cap) (hcm : len ≤ 140737488355328) (C : Nat → List Value) (hC : ∀ i, i < len → Opens w (C i) l)
    (hcell : ∀ i j, i < len → j < k → ∃ v, (C i)[j]? = some v ∧ w.cell? (a.add (i * k + j)) = some v) (hlen : ∀ i, i < len → (C i).length = k) (hsz : len ≠ 0 → a.block < w.heap.size) : Opens w [.slice (some a) len cap] [.slice l] := fun σ h H => by
  obtain ⟨ha', σa, E, a1, a2, a3, a4, a5, a6, a7⟩ := Opens.list C len hC σ h H
  let n := (h ++ ha').length
  let σ' : Sg := fun r => if r = .g n then (a.block, a.off) else σa r
  have hσ : ∀ k, k < n → σ' (.g k) = σa (.g k) := fun k hk => by
    show (if R.g k = .g n then _ else _) = _
    rw [if_neg (by intro e; cases e; omega)]
  have hσn : σ' (.g n) = (a.block, a.off) := by
    show (if R.g n = .g n then _ else _) = _
    rw [if_pos rfl]
  have hEl : ∀ x, x ∈ E → x.length = k := fun x hx => by rw [hasTs_length (a4 x hx), hk]
  have hEt : E.flatten.map (S.tr σ') = ((List.range len).map C).flatten := by rw [trs_old hσ a6, a5]
  have hflat : ∀ (m : Nat) (q : Nat) (v : Value), m ≤ len → (((List.range m).map C).flatten)[q]? = some v → w.cell? (a.add q) = some v ∧ q < m * k := by
    intro m
    induction m with
    | zero => intro q v _ h; simp at h
    | succ m ih =>
      intro q v hm hq
      have hl : (((List.range m).map C).flatten).length = m * k := by
        have : ∀ m', m' ≤ len → (((List.range m').map C).flatten).length = m' * k := by
          intro m'
          induction m' with
          | zero => intro _; simp
          | succ m' ih' => intro hm'; rw [List.range_succ, List.map_append, List.flatten_append, List.length_append, ih' (by omega)]; simp [hlen m' (by omega), Nat.succ_mul]
        exact this m (by omega)
      rw [List.range_succ, List.map_append, List.flatten_append] at hq
      by_cases hlt : q < m * k
      · rw [List.getElem?_append_left (by omega)] at hq
        obtain ⟨h1, h2⟩ := ih q v (by omega) hq
        exact ⟨h1, by rw [Nat.succ_mul]; omega⟩
      · rw [List.getElem?_append_right (by omega), hl] at hq
        simp only [List.map_cons, List.map_nil, List.flatten_cons, List.flatten_nil, List.append_nil] at hq
        have hj : q - m * k < k := by
          have := (List.getElem?_eq_some_iff.1 hq).1
          rw [hlen m (by omega)] at this; exact this
        obtain ⟨v', h1, h2⟩ := hcell m (q - m * k) (by omega) hj
        rw [hq] at h1
        cases h1
        have e : m * k + (q - m * k) = q := by omega
        rw [e] at h2
        exact ⟨h2, by rw [Nat.succ_mul]; omega⟩
  let B : Blk := ⟨if len = 0 then .dead else .ro, E.flatten, 0⟩
  have hBst : B.st ≠ .rw := by
    show (if len = 0 then BK.dead else .ro) ≠ .rw
    split <;> simp
  have hn1 : (h ++ (ha' ++ [B])).length = n + 1 := by simp only [n, List.length_append, List.length_cons, List.length_nil]; omega
  refine ⟨ha' ++ [B], σ', [.sl (.g n) 0 len cap], fun k hk => ?_, ⟨fun k B' hB => ?_, fun B' hB => ?_⟩, ⟨.inr (.inr ⟨n, len, cap, E, _, 0, rfl, hlc, hcm, ?_, a3, fun h0 => if_neg h0, hBst, fun x hx => ?_⟩), trivial⟩, ?_, ?_, rfl⟩
  · rw [hσ k (by show k < (h ++ ha').length; simp; omega), a1 k hk]
  · rw [← List.append_assoc] at hB
    by_cases hk : k < n
    · rw [List.getElem?_append_left hk] at hB
      obtain ⟨c1, c2⟩ := a2.ok k B' hB
      refine ⟨c1, c2.move (n := n) (m := 0) (hσ k hk) (fun r hr => ?_) (a2.val B' (List.mem_of_getElem? hB)) (Nat.le_refl _) (fun _ => rfl)⟩
      cases r with
      | g i => exact hσ i (by simpa [R.val] using hr)
      | l i => simp [R.val] at hr
    · have hkn : k = n := by
        have := (List.getElem?_eq_some_iff.1 hB).1
        simp only [List.length_append, List.length_cons, List.length_nil] at this
        simp only [n, List.length_append] at hk ⊢
        omega
      subst hkn
      rw [List.getElem?_append_right (Nat.le_refl _), Nat.sub_self] at hB
      simp only [List.getElem?_cons_zero, Option.some.injEq] at hB
      subst hB
      refine ⟨hBst, ?_⟩
      unfold OkBlk
      show match (if len = 0 then BK.dead else .ro) with
        | .dead => True
        | .ro => _
        | .rw => _
      by_cases h0 : len = 0
      · rw [if_pos h0]; trivial
      · rw [if_neg h0]
        refine ⟨by rw [hσn]; exact hsz h0, fun i s hs _ => ?_⟩
        have h1 : (E.flatten.map (S.tr σ'))[i]? = some (s.tr σ') := by
          rw [List.getElem?_map, show E.flatten[i]? = some s from hs]; rfl
        rw [hEt] at h1
        have h2 := (hflat len i _ (Nat.le_refl _) h1).1
        have e : a.add i = adr σ' (.g n) i := by
          simp only [adr, hσn, Addr.add]
          cases a; simp only at ha; subst ha
          by_cases hi : i = 0
          · subst hi; simp
          · simp [hi]
        rw [← e]; exact h2
  · rw [hn1]
    rw [← List.append_assoc] at hB
    rcases List.mem_append.1 hB with hB | hB
    · exact vals_mono (Nat.le_succ n) (Nat.le_refl _) (a2.val B' hB)
    · simp only [List.mem_singleton] at hB
      subst hB
      exact vals_mono (Nat.le_succ n) (Nat.le_refl _) a6
  · rw [← List.append_assoc, List.getElem?_append_right (Nat.le_refl _), Nat.sub_self]; rfl
  · rw [← List.append_assoc]; exact hasTs_mono (a4 x hx)
  · simp only [List.map_cons, List.map_nil, S.tr, adr, hσn, Nat.add_zero]
    cases a; simp only at ha; subst ha; rfl
  · rw [hn1]; simp [vals, S.val, R.val]


theorem Opens.fields {d : TypeId → Option (List TY)} {cs : List Value} : ∀ (fs : List Field) (off : Nat) (tys : List TY), tyFields P d fs off = some tys → off + tys.length = cs.length →
      (∀ f, f ∈ fs → ∀ l, d f.type = some l → l.length = P.cellsOf f.type → f.offset + P.cellsOf f.type ≤ cs.length → Opens w ((cs.drop f.offset).take (P.cellsOf f.type)) l) → Opens w (cs.drop off) tys
  | [], off, tys, ht, hl, _ => by
    simp only [tyFields, Option.some.injEq] at ht
    subst ht
    rw [List.drop_eq_nil_of_le (by simp at hl; omega)]
    exact Opens.nil
  | f :: fs, off, tys, ht, hl, hf => by
    simp only [tyFields] at ht
    split at ht
    · rename_i l q h1 h2
      split at ht
      · rename_i hc
        cases ht
        obtain ⟨h3, h4⟩ := hc
        simp only [List.length_append] at hl
        have ih := Opens.fields fs (off + P.cellsOf f.type) q h2 (by omega) (fun g hg => hf g (List.mem_cons_of_mem _ hg))
        have h0 := hf f List.mem_cons_self l h1 h4 (by rw [h3]; omega)
        rw [h3] at h0
        have e : cs.drop off = (cs.drop off).take (P.cellsOf f.type) ++ cs.drop (off + P.cellsOf f.type) := by
          rw [← List.drop_drop, List.take_append_drop]
        rw [e]
        exact h0.append ih
      · cases ht
    · cases ht

theorem Opens.array {k : Nat} {l : List TY} (hk : l.length = k) : ∀ (n : Nat) (cs : List Value), cs.length = n * k → (∀ i, i < n → Opens w ((cs.drop (i * k)).take k) l) → Opens w cs (List.replicate n l).flatten
  | 0, cs, hl, _ => by
    have : cs = [] := by cases cs <;> simp_all
    subst this
    exact Opens.nil
  | n + 1, cs, hl, h => by
    have h0 := h 0 (by omega)
    simp only [Nat.zero_mul, List.drop_zero] at h0
    have ih := Opens.array hk n (cs.drop k) (by simp [hl, Nat.succ_mul]) (fun i hi => by
      have := h (i + 1) (by omega)
      rw [List.drop_drop]
      have e : k + i * k = (i + 1) * k := by rw [Nat.succ_mul]; omega
      rw [e]; exact this)
    have e : cs = cs.take k ++ cs.drop k := (List.take_append_drop _ _).symm
    rw [e, List.replicate_succ, List.flatten_cons]
    exact h0.append ih


theorem weightsAll_mem {e : TypeId} : ∀ {l : List (DataW H)} {d : DataW H}, d ∈ l → ∀ n, n ∈ d.weights P e → n ∈ DataW.weightsAll P e l
  | x :: l, d, h, n, hn => by
    simp only [DataW.weightsAll, List.mem_append]
    rcases List.mem_cons.1 h with rfl | h
    · exact .inl hn
    · exact .inr (weightsAll_mem h n hn)

theorem open_trod {base : Nat} {spare : Nat → Bool} {held : Bool} : ∀ (d : Nat) (n : Nat) (t : TypeId) (cs : List Value) (x : DataW H × List MemPlace) (tys : List TY),
    DataW.trod enc P w base spare held n t cs = some x → tyOf P d t = some tys → (∀ k, k ∈ x.1.weights P t → k ≤ reachBytes) → Opens w cs tys
  | 0, _, _, _, _, _, _, ht, _ => by simp [tyOf] at ht
  | d + 1, n, t, cs, x, tys, hx, ht, hw => by
    simp only [tyOf] at ht
    split at ht
    · rename_i k hu
      cases ht
      obtain ⟨m, rfl, _, hwf⟩ := DataW.trod_int hu hx
      exact Opens.one fun σ h => ⟨.i k m, ⟨m, rfl, hwf⟩, rfl, rfl, rfl⟩
    · rename_i hu
      cases ht
      obtain ⟨b, rfl, _⟩ := DataW.trod_bool hu hx
      exact Opens.one fun σ h => ⟨.b b, ⟨b, rfl⟩, rfl, rfl, rfl⟩
    · rename_i e hu
      split at ht
      · rename_i l hl
        split at ht
        · rename_i hc
          cases ht
          rcases DataW.trod_slice hu hx with ⟨rfl, _⟩ | ⟨a, len, cap, elems, rest, m, _, rfl, rfl, hb, hlc, hcm, hel, hE, _, _⟩
          · exact Opens.one fun σ h => ⟨.ns, .inl rfl, rfl, rfl, rfl⟩
          · by_cases hl0 : len = 0
            · subst hl0
              exact Opens.one fun σ h => ⟨.es a cap, .inr (.inl ⟨a, cap, rfl⟩), rfl, rfl, rfl⟩
            have hget : ∀ i, i < len → ∃ cs', w.cells? base (a.add (i * P.cellsOf e)) (P.cellsOf e) = some cs' ∧ ∃ y, DataW.trod enc P w base spare held m e cs' = some y := fun i hi => by
              have := hE i hi
              rw [List.getElem?_eq_getElem (by omega)] at this
              obtain ⟨cs', h1, h2⟩ := Option.bind_eq_some_iff.1 this
              exact ⟨cs', h1, _, h2⟩
            let C : Nat → List Value := fun i => (w.cells? base (a.add (i * P.cellsOf e)) (P.cellsOf e)).getD []
            have hC : ∀ i, i < len → w.cells? base (a.add (i * P.cellsOf e)) (P.cellsOf e) = some (C i) := fun i hi => by
              obtain ⟨cs', h1, _⟩ := hget i hi
              simp only [C, h1, Option.getD_some]
            have hadd : ∀ i j, (a.add i).add j = a.add (i + j) := fun i j => by
              simp only [Addr.add]
              by_cases hi : i = 0
              · subst hi; simp
              · by_cases hj : j = 0
                · subst hj; simp [hi]
                · simp [hi, hj, Nat.add_assoc]
            have hsp : a.spot = none := by
              obtain ⟨_, h3, h4⟩ := World.cells?_some (hC 0 (by omega))
              have h5 := h4 0 (by have := hc.1; omega)
              rw [List.getElem?_eq_getElem (by have := hc.1; omega)] at h5
              have h6 := World.cell?_spot h5
              simpa [Addr.add] using h6
            have hbound : len ≤ 140737488355328 := by
              have h1 := hw ((elems.length + rest.length) * P.bytesOf e) (by simp [DataW.weights, hu])
              have h2 := reachBytes_lt
              have h3 := hc.2.2
              have h4 : len ≤ (elems.length + rest.length) * P.bytesOf e := by
                calc len ≤ elems.length + rest.length := by omega
                  _ ≤ (elems.length + rest.length) * P.bytesOf e := Nat.le_mul_of_pos_right _ h3
              omega
            refine Opens.slice (k := P.cellsOf e) hsp hc.1 hlc hbound C (fun i hi => ?_) (fun i j hi hj => ?_) (fun i hi => (World.cells?_some (hC i hi)).2.1) (fun h0 => ?_)
            · obtain ⟨cs', h1, y, h2⟩ := hget i hi
              rw [hC i hi] at h1
              cases h1
              have hy : elems[i]? = some y := by
                rw [← hE i hi, hC i hi]; exact h2
              exact open_trod d m e (C i) y l h2 hl fun k hk => hw k (by
                simp only [DataW.weights, hu, List.mem_cons, List.mem_append]
                exact .inr (.inl (weightsAll_mem (List.mem_map.2 ⟨y, List.mem_of_getElem? hy, rfl⟩) k hk)))
            · obtain ⟨_, h3, h4⟩ := World.cells?_some (hC i hi)
              have h5 := h4 j hj
              rw [List.getElem?_eq_getElem (by omega), hadd] at h5
              exact ⟨_, List.getElem?_eq_getElem (by omega), h5⟩
            · have h3 := hC 0 (by omega)
              obtain ⟨_, h4, h5⟩ := World.cells?_some h3
              have h6 := h5 0 (by have := hc.1; omega)
              rw [List.getElem?_eq_getElem (by have := hc.1; omega), hadd] at h6
              simp only [Nat.zero_mul, Nat.add_zero, Addr.add, if_true] at h6
              unfold World.cell? at h6
              cases hb : w.heap[a.block]? with
              | none => rw [hb] at h6; cases h6
              | some o => exact (Array.getElem?_eq_some_iff.1 hb).1
        · cases ht
      · cases ht
    · rename_i fs hu
      split at ht
      · rename_i l hl
        split at ht
        · rename_i hlen
          have ht' : l = tys := by simpa using ht
          rw [← ht']
          obtain ⟨xs, m, _, rfl, hcs, hxs, hf⟩ := DataW.trod_struct hu hx
          have := Opens.fields (w := w) (cs := cs) fs.toList 0 l hl (by omega) (fun f hf' q hq hql hle => by
            obtain ⟨i, hi, rfl⟩ := List.mem_iff_getElem.1 hf'
            have hi' : i < fs.size := by simpa using hi
            have h1 := hf i fs[i] (Array.getElem?_eq_getElem hi')
            rw [List.getElem?_eq_getElem (by omega)] at h1
            exact open_trod d m _ _ _ q h1 hq fun k hk => hw k (by
              simp only [DataW.weights, hu]
              exact DataW.weights_mem_each (j := i) (t := fs[i].type) (d := (xs[i]'(by omega)).1) (by simp [hi']) (by rw [List.getElem?_map, List.getElem?_eq_getElem (by omega)]; rfl) k hk))
          simpa using this
        · cases ht
      · cases ht
    · rename_i m e hu
      split at ht
      · rename_i l hl
        split at ht
        · rename_i hc
          cases ht
          obtain ⟨xs, f, _, rfl, hcs, hxs, hf⟩ := DataW.trod_array hu hx
          refine Opens.array (k := P.cellsOf e) hc.1 m cs (by rw [hcs, hc.2]) (fun i hi => ?_)
          have h1 := hf i hi
          rw [List.getElem?_eq_getElem (by omega)] at h1
          exact open_trod d f _ _ _ l h1 hl fun k hk => hw k (by
            simp only [DataW.weights, hu]
            exact weightsAll_mem (List.mem_map.2 ⟨_, List.getElem_mem _, rfl⟩) k hk)
        · cases ht
      · cases ht
    · cases ht

end

end Go.D

