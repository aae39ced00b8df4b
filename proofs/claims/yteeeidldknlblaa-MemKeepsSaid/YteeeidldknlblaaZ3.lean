/- Law 02: weighs, MemPlays. -/
import Derived.Test.YteeeidldknlblaaZ2
import Derived.Test.YteeeidldknlblaaZ1
/- The machine's memory: how it stands among the blocks. -/
namespace Go.Proofs.Yteeeidldknlblaa
open Go.D
set_option linter.all false
set_option maxRecDepth 100000
set_option maxHeartbeats 4000000

/-- A word of any number. -/
def uw (x : Int) : Int := x % 18446744073709551616
theorem uw_u (x : Int) : u64 (uw x) := by simp only [u64, uw]; omega
theorem uw_of {x : Int} (h : u64 x) : uw x = x := by simp only [u64, uw] at *; omega
theorem u64_0 : u64 0 := by simp only [u64]; omega

structure M where
  w : List Int
  n : Int
  u : ∀ x, x ∈ w → u64 x
  l : w.length ≤ 65536
theorem M.ext' {m k : M} (h1 : m.w = k.w) (h2 : m.n = k.n) : m = k := by
  cases m; cases k; simp only at h1 h2; subst h1; subst h2; rfl

def wc (w : List Int) : List S := w.map (S.i .u64)
theorem wc_len (w : List Int) : (wc w).length = w.length := by simp [wc]
theorem wc_get {w : List Int} {i : Nat} (h : i < w.length) : (wc w)[i]? = some (.i .u64 (nth 0 w i)) := by
  simp only [wc, List.getElem?_map, nth_get (d := 0) h, Option.map_some]
theorem wc_set (w : List Int) (i : Nat) (x : Int) : (wc w).set i (.i .u64 x) = wc (w.set i x) := by simp [wc, List.map_set]
theorem wc_all {p : S → Bool} (hp : ∀ x, p (.i .u64 x) = true) (w : List Int) : (wc w).all p = true := by simp [wc, hp]
theorem wc_known (w : List Int) : known (wc w) = true := by unfold known; exact wc_all (fun _ => rfl) w
theorem wc_vals (n k : Nat) (w : List Int) : vals n k (wc w) = true := by unfold vals; exact wc_all (fun _ => rfl) w
theorem wc_below (n : Nat) (w : List Int) : (wc w).all (S.below n) = true := wc_all (fun _ => rfl) w
theorem wc_takes (r : R) (n k : Nat) (w : List Int) : (wc w).all (r.takes n k) = true := wc_all (fun _ => by cases r <;> rfl) w
theorem wc_names (k : Nat) (w : List Int) : (wc w).all (fun s => !s.names k) = true := wc_all (fun _ => rfl) w
theorem wc_kept (k : List Nat) (w : List Int) : (wc w).all (S.kept k) = true := wc_all (fun _ => rfl) w
theorem wc_sub (w : List Int) (a k : Nat) : sub (wc w) a k = wc ((w.drop a).take k) := by simp [wc, sub, List.map_take, List.map_drop]
theorem wc_app (v w : List Int) : wc v ++ wc w = wc (v ++ w) := by simp [wc]
theorem wc_snoc (v : List Int) (a : Int) : wc (v ++ [a]) = wc v ++ [.i .u64 a] := by simp [wc]
theorem wc_nil : wc [] = [] := rfl
theorem wc_cons (x : Int) (w : List Int) : wc (x :: w) = .i .u64 x :: wc w := rfl
theorem wc_inj {v w : List Int} (h : wc v = wc w) : v = w := by
  induction v generalizing w with
  | nil => cases w with
    | nil => rfl
    | cons y w => simp [wc] at h
  | cons x v ih => cases w with
    | nil => simp [wc] at h
    | cons y w =>
      simp only [wc, List.map_cons, List.cons.injEq, S.i.injEq, true_and] at h
      rw [h.1, ih h.2]
theorem wc_ren (ρ : R → R) (w : List Int) : (wc w).map (S.ren ρ) = wc w := by simp [wc, Function.comp_def, S.ren]
theorem wc_zeros (n : Nat) : zeros [.i .u64 0] n = wc (List.replicate n 0) := by
  induction n with
  | zero => rfl
  | succ n ih => simp only [zeros, ih, List.replicate_succ, wc_cons, List.cons_append, List.nil_append]
theorem wc_map (w : List Int) : w.map (S.i .u64) = wc w := rfl

def M.at (m : M) (i : Int) : Int := nth 0 m.w i.toNat
theorem nth_mem {α : Type} {d : α} {l : List α} {i : Nat} (h : i < l.length) : nth d l i ∈ l := by rw [nth_eq h]; exact List.getElem_mem h
theorem nth_out {α : Type} {d : α} : ∀ {l : List α} {i : Nat}, l.length ≤ i → nth d l i = d
  | [], _, _ => rfl
  | _ :: _, 0, h => by simp at h
  | _ :: l, i + 1, h => nth_out (l := l) (by simpa using h)
theorem M.at_u (m : M) (i : Int) : u64 (m.at i) := by
  unfold M.at
  rcases Nat.lt_or_ge i.toNat m.w.length with h | h
  · exact m.u _ (nth_mem h)
  · rw [nth_out h]; exact u64_0

def M.put (m : M) (i : Nat) (x : Int) : M := ⟨m.w.set i (uw x), m.n, fun y hy => by
  rcases List.mem_or_eq_of_mem_set hy with h | h
  · exact m.u y h
  · subst h; exact uw_u x, by simpa using m.l⟩
def M.tick (m : M) (k : Int) : M := ⟨m.w, IntKind.i64.wrap (m.n + k), m.u, m.l⟩
def M.fill (m : M) (a : Nat) (x : Int) : Nat → M
  | 0 => m
  | k + 1 => (M.fill m a x k).put (a + k) x
def M.lay (m : M) (o : Nat) : List Int → M
  | [] => m
  | v :: vs => M.lay (m.put o v) (o + 1) vs
/-- Is a range there? -/
def M.has (m : M) (a k : Int) : Bool := decide (0 ≤ a ∧ 0 ≤ k ∧ a ≤ m.w.length ∧ k ≤ m.w.length - a)
theorem M.has_iff {m : M} {a k : Int} : m.has a k = true ↔ 0 ≤ a ∧ 0 ≤ k ∧ a ≤ m.w.length ∧ k ≤ m.w.length - a := by simp [M.has]
theorem M.has_nat {m : M} {a k : Int} (h : m.has a k = true) : ∃ i j : Nat, a = i ∧ k = j ∧ i + j ≤ m.w.length := by
  rw [M.has_iff] at h
  exact ⟨a.toNat, k.toNat, by omega, by omega, by omega⟩
theorem M.has_not {m : M} {a k : Int} (h : m.has a k = false) : ¬ (0 ≤ a ∧ 0 ≤ k ∧ a ≤ m.w.length ∧ k ≤ m.w.length - a) := by simpa [M.has] using h

theorem M.put_len (m : M) (i : Nat) (x : Int) : (m.put i x).w.length = m.w.length := by simp [M.put]
theorem M.tick_len (m : M) (k : Int) : (m.tick k).w.length = m.w.length := rfl
theorem M.fill_len (m : M) (a : Nat) (x : Int) : ∀ k, (m.fill a x k).w.length = m.w.length
  | 0 => rfl
  | k + 1 => by rw [M.fill, M.put_len, M.fill_len m a x k]
theorem M.lay_len : ∀ (vs : List Int) (m : M) (o : Nat), (m.lay o vs).w.length = m.w.length
  | [], _, _ => rfl
  | v :: vs, m, o => by rw [M.lay, M.lay_len vs, M.put_len]
theorem M.put_has (m : M) (i : Nat) (x a k : Int) : (m.put i x).has a k = m.has a k := by simp only [M.has, M.put_len]
theorem M.tick_has (m : M) (j a k : Int) : (m.tick j).has a k = m.has a k := rfl
theorem M.fill_has (m : M) (o : Nat) (x : Int) (j : Nat) (a k : Int) : (m.fill o x j).has a k = m.has a k := by simp only [M.has, M.fill_len]
theorem M.lay_has (m : M) (o : Nat) (vs : List Int) (a k : Int) : (m.lay o vs).has a k = m.has a k := by simp only [M.has, M.lay_len]
theorem M.put_n (m : M) (i : Nat) (x : Int) : (m.put i x).n = m.n := rfl
theorem M.fill_n (m : M) (a : Nat) (x : Int) : ∀ k, (m.fill a x k).n = m.n
  | 0 => rfl
  | k + 1 => by rw [M.fill, M.put_n, M.fill_n m a x k]
theorem M.lay_n : ∀ (vs : List Int) (m : M) (o : Nat), (m.lay o vs).n = m.n
  | [], _, _ => rfl
  | v :: vs, m, o => by rw [M.lay, M.lay_n vs, M.put_n]
theorem M.lay_snoc (v : Int) : ∀ (vs : List Int) (m : M) (o : Nat), m.lay o (vs ++ [v]) = (m.lay o vs).put (o + vs.length) v
  | [], m, o => rfl
  | u :: vs, m, o => by
    simp only [List.cons_append, M.lay, M.lay_snoc v vs, List.length_cons]
    rw [show o + 1 + vs.length = o + (vs.length + 1) by omega]
theorem M.lay_w : ∀ (vs : List Int) (m : M) (o : Nat), (∀ x, x ∈ vs → u64 x) → D.put (wc m.w) o (wc vs) = wc (m.lay o vs).w
  | [], _, _, _ => rfl
  | v :: vs, m, o, hu => by
    simp only [wc_cons, M.lay]
    rw [show D.put (wc m.w) o (S.i .u64 v :: wc vs) = D.put ((wc m.w).set o (.i .u64 v)) (o + 1) (wc vs) from rfl]
    rw [wc_set, show v = uw v from (uw_of (hu v (by simp))).symm]
    rw [show m.w.set o (uw v) = (m.put o v).w from rfl, M.lay_w vs (m.put o v) (o + 1) (fun x hx => hu x (by simp [hx]))]
    rw [← show v = uw v from (uw_of (hu v (by simp))).symm]

/-! ### among the blocks -/
def MB (b : Nat) (m : M) : Blk := ⟨.rw, [.sl (.g b) 0 m.w.length m.w.length, .i .i64 m.n], 2⟩
def MW (m : M) : Blk := ⟨.rw, wc m.w, m.w.length⟩
structure IsMem (h : List Blk) (a b : Nat) (m : M) : Prop where
  ne : a ≠ b
  ha : h[a]? = some (MB b m)
  hb : h[b]? = some (MW m)
def setM (h : List Blk) (a b : Nat) (m : M) : List Blk := (h.set a (MB b m)).set b (MW m)

theorem IsMem.lta {h : List Blk} {a b : Nat} {m : M} (H : IsMem h a b m) : a < h.length := (List.getElem?_eq_some_iff.1 H.ha).1
theorem IsMem.ltb {h : List Blk} {a b : Nat} {m : M} (H : IsMem h a b m) : b < h.length := (List.getElem?_eq_some_iff.1 H.hb).1
theorem setM_len {h : List Blk} {a b : Nat} {m : M} : (setM h a b m).length = h.length := by simp [setM]
theorem IsMem.set {h : List Blk} {a b : Nat} {m : M} (H : IsMem h a b m) (m' : M) : IsMem (setM h a b m') a b m' := by
  refine ⟨H.ne, ?_, ?_⟩
  · simp only [setM]
    rw [List.getElem?_set_ne (Ne.symm H.ne), List.getElem?_set_self H.lta]
  · simp only [setM]
    rw [List.getElem?_set_self (by simpa using H.ltb)]
theorem setM_set {h : List Blk} {a b : Nat} {m m' : M} (ne : a ≠ b) : setM (setM h a b m) a b m' = setM h a b m' := by
  simp only [setM]
  rw [List.set_comm _ _ ne, List.set_set, List.set_comm _ _ ne, List.set_set, List.set_comm _ _ (Ne.symm ne)]
theorem setM_self {h : List Blk} {a b : Nat} {m : M} (H : IsMem h a b m) : setM h a b m = h := by
  simp only [setM]
  rw [set_self H.ha, set_self H.hb]
theorem setM_fun {h : List Blk} {a b : Nat} {m m0 : M} (H : IsMem h a b m0) : setM (setM h a b m) a b = setM h a b := funext fun m' => setM_set H.ne
theorem IsMem.app {h X : List Blk} {a b : Nat} {m : M} (H : IsMem h a b m) : IsMem (h ++ X) a b m :=
  ⟨H.ne, by rw [List.getElem?_append_left H.lta]; exact H.ha, by rw [List.getElem?_append_left H.ltb]; exact H.hb⟩
theorem setM_app {h X : List Blk} {a b : Nat} {m m' : M} (H : IsMem h a b m) : setM (h ++ X) a b m' = setM h a b m' ++ X := by
  simp only [setM]
  rw [app_setl H.lta, app_setl (by simpa using H.ltb)]
theorem setM_words {h : List Blk} {a b : Nat} {m m' : M} (H : IsMem h a b m) (hl : m'.w.length = m.w.length) (hn : m'.n = m.n) : h.set b (MW m') = setM h a b m' := by
  simp only [setM]
  rw [show MB b m' = MB b m by simp only [MB, hl, hn], set_self H.ha]
theorem setM_steps {h : List Blk} {a b : Nat} {m m' : M} (H : IsMem h a b m) (hw : m'.w = m.w) : h.set a (MB b m') = setM h a b m' := by
  simp only [setM]
  rw [List.set_comm _ _ H.ne, show MW m' = MW m by simp only [MW, hw], set_self H.hb]
theorem IsMem.uniq {h : List Blk} {a b b' : Nat} {m m' : M} (H : IsMem h a b m) (H' : IsMem h a b' m') : b = b' ∧ m = m' := by
  have h1 := H.ha.symm.trans H'.ha
  simp only [MB, Option.some.injEq, Blk.mk.injEq, List.cons.injEq, S.sl.injEq, R.g.injEq, S.i.injEq, true_and, and_true] at h1
  obtain ⟨⟨e, _, _⟩, e2⟩ := h1
  subst e
  have h2 := H.hb.symm.trans H'.hb
  simp only [MW, Option.some.injEq, Blk.mk.injEq, true_and] at h2
  exact ⟨rfl, M.ext' (wc_inj h2.1) e2⟩
theorem setM_clean {h : List Blk} {a b : Nat} {m m0 : M} {n : Nat} (H : IsMem h a b m0) (hc : clean n h = true) (hn : b < n) : clean n (setM h a b m) = true := by
  refine clean_set (clean_set hc ?_) (wc_vals _ _ _)
  simp [MB, vals, S.val, R.val, hn]

open Classical in
noncomputable def memOf (h : List Blk) (a : Nat) : Option (Nat × M) := if hx : ∃ x : Nat × M, IsMem h a x.1 x.2 then some (Classical.choose hx) else none
theorem memOf_eq {h : List Blk} {a b : Nat} {m : M} (H : IsMem h a b m) : memOf h a = some (b, m) := by
  have hx : ∃ x : Nat × M, IsMem h a x.1 x.2 := ⟨(b, m), H⟩
  unfold memOf
  rw [dif_pos hx]
  have := IsMem.uniq (Classical.choose_spec hx) H
  rw [show Classical.choose hx = (b, m) from Prod.ext this.1 this.2]
theorem memOf_some {h : List Blk} {a b : Nat} {m : M} (e : memOf h a = some (b, m)) : IsMem h a b m := by
  unfold memOf at e
  split at e
  · rename_i hx
    have := Classical.choose_spec hx
    rw [Option.some.injEq] at e
    rw [e] at this
    exact this
  · cases e

/-- What is done with a memory, its first argument. -/
noncomputable def memF (f : Nat → M → (M → List Blk) → List V → Res) : List V → List Blk → Res
  | .s (.p (.g a) 0) :: rest, h => match memOf h a with
    | some (b, m) => f b m (setM h a b) rest
    | none => .bad
  | _, _ => .bad
theorem memF_spec {f : Nat → M → (M → List Blk) → List V → Res} {args : List V} {h : List Blk} {K : V → List Blk → Prop} (hS : (memF f args h).spec K) :
    ∃ a b m rest, args = .s (.p (.g a) 0) :: rest ∧ IsMem h a b m ∧ (f b m (setM h a b) rest).spec K := by
  unfold memF at hS
  split at hS
  · split at hS
    · rename_i e
      exact ⟨_, _, _, _, rfl, memOf_some e, hS⟩
    · exact hS.elim
  · exact hS.elim
theorem memF_eq {f : Nat → M → (M → List Blk) → List V → Res} {h : List Blk} {a b : Nat} {m : M} {rest : List V} (H : IsMem h a b m) : memF f (.s (.p (.g a) 0) :: rest) h = f b m (setM h a b) rest := by
  simp only [memF, memOf_eq H]
theorem memF_set {f : Nat → M → (M → List Blk) → List V → Res} {h : List Blk} {a b : Nat} {m m' : M} {rest : List V} (H : IsMem h a b m) : memF f (.s (.p (.g a) 0) :: rest) (setM h a b m') = f b m' (setM h a b) rest := by
  rw [memF_eq (H.set m'), setM_fun H]
theorem memF_app {f : Nat → M → (M → List Blk) → List V → Res} {h X : List Blk} {a b : Nat} {m m' : M} {rest : List V} (H : IsMem h a b m) : memF f (.s (.p (.g a) 0) :: rest) (setM h a b m' ++ X) = f b m' (fun m => setM h a b m ++ X) rest := by
  rw [memF_eq ((H.set m').app), show setM (setM h a b m' ++ X) a b = fun m => setM h a b m ++ X from funext fun k => by rw [setM_app (H.set m'), setM_set H.ne]]
theorem memF_app0 {f : Nat → M → (M → List Blk) → List V → Res} {h X : List Blk} {a b : Nat} {m : M} {rest : List V} (H : IsMem h a b m) : memF f (.s (.p (.g a) 0) :: rest) (h ++ X) = f b m (fun m => setM h a b m ++ X) rest := by
  rw [memF_eq H.app, show setM (h ++ X) a b = fun m => setM h a b m ++ X from funext fun k => by rw [setM_app H]]

/-! ### new memories -/
def memH (h : List Blk) (m : M) : List Blk := h ++ [MB (h.length + 1) m, MW m]
theorem memH_len {h : List Blk} {m : M} : (memH h m).length = h.length + 2 := by simp [memH]
theorem memH_is (h : List Blk) (m : M) : IsMem (memH h m) h.length (h.length + 1) m := by
  refine ⟨by omega, ?_, ?_⟩
  · simp only [memH]; rw [app_get0]; rfl
  · simp only [memH]; rw [app_getn]; rfl
theorem memH_set (h : List Blk) (m m' : M) : setM (memH h m) h.length (h.length + 1) m' = memH h m' := by
  simp only [memH, setM]
  rw [app_set0, app_setn]; rfl
theorem memH_fun (h : List Blk) (m : M) : setM (memH h m) h.length (h.length + 1) = memH h := funext (memH_set h m)
theorem memF_new {f : Nat → M → (M → List Blk) → List V → Res} {h : List Blk} {m : M} {rest : List V} : memF f (.s (.p (.g h.length) 0) :: rest) (memH h m) = f (h.length + 1) m (memH h) rest := by
  rw [memF_eq (memH_is h m), memH_fun]
theorem memH_is1 (h : List Blk) (m k : M) : IsMem (memH (memH h m) k) h.length (h.length + 1) m := (memH_is h m).app
theorem memH_is2 (h : List Blk) (m k : M) : IsMem (memH (memH h m) k) (h.length + 2) (h.length + 3) k := by
  have := memH_is (memH h m) k
  rw [memH_len] at this
  exact this
theorem memH_set1 (h : List Blk) (m k m' : M) : setM (memH (memH h m) k) h.length (h.length + 1) m' = memH (memH h m') k := by
  show setM (memH h m ++ [MB ((memH h m).length + 1) k, MW k]) _ _ _ = _
  rw [setM_app (memH_is h m), memH_set]
  simp [memH]
theorem memH_set2 (h : List Blk) (m k m' : M) : setM (memH (memH h m) k) (h.length + 2) (h.length + 3) m' = memH (memH h m) m' := by
  have := memH_set (memH h m) k m'
  rw [memH_len] at this
  exact this
theorem memF_new1 {f : Nat → M → (M → List Blk) → List V → Res} {h : List Blk} {m k : M} {rest : List V} : memF f (.s (.p (.g h.length) 0) :: rest) (memH (memH h m) k) = f (h.length + 1) m (fun m => memH (memH h m) k) rest := by
  rw [memF_eq (memH_is1 h m k), show setM (memH (memH h m) k) h.length (h.length + 1) = fun m => memH (memH h m) k from funext (memH_set1 h m k)]
theorem memF_new2 {f : Nat → M → (M → List Blk) → List V → Res} {h : List Blk} {m k : M} {rest : List V} : memF f (.s (.p (.g (h.length + 2)) 0) :: rest) (memH (memH h m) k) = f (h.length + 3) k (memH (memH h m)) rest := by
  rw [memF_eq (memH_is2 h m k), show setM (memH (memH h m) k) (h.length + 2) (h.length + 3) = memH (memH h m) from funext (memH_set2 h m k)]
end Go.Proofs.Yteeeidldknlblaa

/- The machine's memory: what its functions do. -/
namespace Go.Proofs.Yteeeidldknlblaa
open Go.D
set_option linter.all false
set_option maxRecDepth 100000
set_option maxHeartbeats 4000000

theorem pow16 (k : Nat) : 2 ^ min k 16 ≤ 65536 := by
  have : min k 16 ≤ 16 := by omega
  exact Nat.pow_le_pow_right (n := 2) (by omega) this
def M.zero (k : Nat) : M := ⟨List.replicate (2 ^ min k 16) 0, 0, fun x hx => by rw [List.eq_of_mem_replicate hx]; exact u64_0, by simpa using pow16 k⟩
theorem M.zero_len (k : Nat) : (M.zero k).w.length = 2 ^ min k 16 := by simp [M.zero]

def newM : List V → List Blk → Res
  | [.s (.i .i64 b)], h => .br (decide (11 ≤ b) && decide (b ≤ 16)) (.ok (.tup [.s (.p (.g h.length) 0), .s (.i .i64 0)]) [] (memH h (M.zero b.toNat))) (.ok (.tup [.s .np, .s (.i .i64 1)]) [] h)
  | _, _ => .bad
theorem new_snd : Snd Try.prog 23 (FSpec.of newM) := snd_run (noT_snd _) mixed Try.func23 dc23 100 fun args h K hc hS => by
  unfold newM at hS
  split at hS
  · rename_i b
    simp only [spec_br, spec_ok, Bool.and_eq_true, decide_eq_true_eq] at hS
    by_cases c1 : b < 11
    · simp (config := { maxSteps := 10000000 }) only [EV1, EV2, EV3, EV4, EV5, EV6, addT, istep, lenR_sl, lenR_ns, lenR_es, pickR, putD, bin1R, un1R, slcR, bnd, capsOf, fillP, S_plain, V_plain, V.cells, S_known, V_known, C.v, blk, setL, setH, eqS, eq1, cmpS, cmp1, isNil, popTo, killT, setT, leT, V.below, C.below, S_below, R.below, V.val, C.val, S_val, R.val, R.takes, vals, shows, List.any_cons, List.any_nil, unnamed, V.kill, V.names, C.names, S_names, R.names, List.set, List.replicate, ↓q_cond_t, ↓q_cond_f, if_true, if_false, reduceCtorEq, rvals, rvC, result, C_known, V.noL, C.noL, S_noL, R.noL, Option.map, true_and, and_true, ge_iff_le, gt_iff_lt, implies_true, q_ite_t, q_ite_f, beq_iff_eq, bne_iff_ne, q_ne, Nat.reduceAdd, Nat.reducePow, Int.reducePow, Nat.reduceMul, Nat.reduceSub, Nat.reduceLeDiff, Nat.reduceLT, Nat.reduceEqDiff, Int.reduceNeg, Int.reduceLT, Int.reduceLE, Int.reduceEq, Int.reduceNe, Int.reduceAdd, Int.reduceSub, Int.reduceMul, Int.reduceToNat, Int.reduceBEq, Int.reduceBNe, df23, c1]
      exact hS.2 (by simp; omega)
    by_cases c2 : 16 < b
    · simp (config := { maxSteps := 10000000 }) only [EV1, EV2, EV3, EV4, EV5, EV6, addT, istep, lenR_sl, lenR_ns, lenR_es, pickR, putD, bin1R, un1R, slcR, bnd, capsOf, fillP, S_plain, V_plain, V.cells, S_known, V_known, C.v, blk, setL, setH, eqS, eq1, cmpS, cmp1, isNil, popTo, killT, setT, leT, V.below, C.below, S_below, R.below, V.val, C.val, S_val, R.val, R.takes, vals, shows, List.any_cons, List.any_nil, unnamed, V.kill, V.names, C.names, S_names, R.names, List.set, List.replicate, ↓q_cond_t, ↓q_cond_f, if_true, if_false, reduceCtorEq, rvals, rvC, result, C_known, V.noL, C.noL, S_noL, R.noL, Option.map, true_and, and_true, ge_iff_le, gt_iff_lt, implies_true, q_ite_t, q_ite_f, beq_iff_eq, bne_iff_ne, q_ne, Nat.reduceAdd, Nat.reducePow, Int.reducePow, Nat.reduceMul, Nat.reduceSub, Nat.reduceLeDiff, Nat.reduceLT, Nat.reduceEqDiff, Int.reduceNeg, Int.reduceLT, Int.reduceLE, Int.reduceEq, Int.reduceNe, Int.reduceAdd, Int.reduceSub, Int.reduceMul, Int.reduceToNat, Int.reduceBEq, Int.reduceBNe, df23, c1, c2]
      exact hS.2 (by simp; omega)
    have hS := hS.1 (by omega)
    obtain ⟨k, rfl⟩ : ∃ k : Nat, b = k := ⟨b.toNat, by omega⟩
    have hk : min k 16 = k := by omega
    have m1 : min k IntKind.i64.bits = k := by show min k 64 = _; omega
    have p1 := pow16 k
    rw [hk] at p1
    obtain ⟨p, hp⟩ : ∃ p : Nat, 2 ^ k = p := ⟨_, rfl⟩
    rw [hp] at p1
    have c3 : (0 : Int) ≤ k := by omega
    have w1 : IntKind.i64.wrap (1 * 2 ^ k) = (p : Int) := by
      rw [Int.one_mul, show (2 : Int) ^ k = (p : Int) by rw [← hp]; simp, wrap64] <;> omega
    have c4 : (0 : Int) ≤ (p : Int) := by omega
    have c5 : (p : Int) ≤ 1099511627776 := by omega
    have c6 : (8 : Int) * (p : Int) ≤ 281474976710656 := by omega
    simp (config := { maxSteps := 10000000 }) only [EV1, EV2, EV3, EV4, EV5, EV6, addT, istep, lenR_sl, lenR_ns, lenR_es, pickR, putD, bin1R, un1R, slcR, bnd, capsOf, fillP, S_plain, V_plain, V.cells, S_known, V_known, C.v, blk, setL, setH, eqS, eq1, cmpS, cmp1, isNil, popTo, killT, setT, leT, V.below, C.below, S_below, R.below, V.val, C.val, S_val, R.val, R.takes, vals, shows, List.any_cons, List.any_nil, unnamed, V.kill, V.names, C.names, S_names, R.names, List.set, List.replicate, ↓q_cond_t, ↓q_cond_f, if_true, if_false, reduceCtorEq, rvals, rvC, result, C_known, V.noL, C.noL, S_noL, R.noL, Option.map, true_and, and_true, ge_iff_le, gt_iff_lt, implies_true, q_ite_t, q_ite_f, beq_iff_eq, bne_iff_ne, q_ne, Nat.reduceAdd, Nat.reducePow, Int.reducePow, Nat.reduceMul, Nat.reduceSub, Nat.reduceLeDiff, Nat.reduceLT, Nat.reduceEqDiff, Int.reduceNeg, Int.reduceLT, Int.reduceLE, Int.reduceEq, Int.reduceNe, Int.reduceAdd, Int.reduceSub, Int.reduceMul, Int.reduceToNat, Int.reduceBEq, Int.reduceBNe, df23, c1, c2, c3, m1, w1, c4, Int.le_refl, c5, c6, wc_zeros, put, fillP]
    refine ⟨[1, 0], by simp, rfl, ?_⟩
    simp only [getAll, List.getElem?_cons_zero, List.getElem?_cons_succ]
    refine ⟨?_, ?_⟩
    · simp [S.kept, R.kept, wc_kept]
    · refine cast (congrArg (K _) ?_) hS
      simp [memH, MB, MW, M.zero, hk, hp, Blk.ren, S.ren, R.prom, List.idxOf, List.findIdx, List.findIdx.go, wc_ren, wc_len, V.ren, C.ren, wc_map]
  · exact hS.elim
theorem rnew_snd : Snd Try.prog 32 (FSpec.of newM) := snd_run (noT_snd _) mixed Try.func32 dc32 100 fun args h K hc hS => by
  unfold newM at hS
  split at hS
  · rename_i b
    simp only [spec_br, spec_ok, Bool.and_eq_true, decide_eq_true_eq] at hS
    by_cases c1 : b < 11
    · simp (config := { maxSteps := 10000000 }) only [EV1, EV2, EV3, EV4, EV5, EV6, addT, istep, lenR_sl, lenR_ns, lenR_es, pickR, putD, bin1R, un1R, slcR, bnd, capsOf, fillP, S_plain, V_plain, V.cells, S_known, V_known, C.v, blk, setL, setH, eqS, eq1, cmpS, cmp1, isNil, popTo, killT, setT, leT, V.below, C.below, S_below, R.below, V.val, C.val, S_val, R.val, R.takes, vals, shows, List.any_cons, List.any_nil, unnamed, V.kill, V.names, C.names, S_names, R.names, List.set, List.replicate, ↓q_cond_t, ↓q_cond_f, if_true, if_false, reduceCtorEq, rvals, rvC, result, C_known, V.noL, C.noL, S_noL, R.noL, Option.map, true_and, and_true, ge_iff_le, gt_iff_lt, implies_true, q_ite_t, q_ite_f, beq_iff_eq, bne_iff_ne, q_ne, Nat.reduceAdd, Nat.reducePow, Int.reducePow, Nat.reduceMul, Nat.reduceSub, Nat.reduceLeDiff, Nat.reduceLT, Nat.reduceEqDiff, Int.reduceNeg, Int.reduceLT, Int.reduceLE, Int.reduceEq, Int.reduceNe, Int.reduceAdd, Int.reduceSub, Int.reduceMul, Int.reduceToNat, Int.reduceBEq, Int.reduceBNe, df32, c1]
      exact hS.2 (by simp; omega)
    by_cases c2 : 16 < b
    · simp (config := { maxSteps := 10000000 }) only [EV1, EV2, EV3, EV4, EV5, EV6, addT, istep, lenR_sl, lenR_ns, lenR_es, pickR, putD, bin1R, un1R, slcR, bnd, capsOf, fillP, S_plain, V_plain, V.cells, S_known, V_known, C.v, blk, setL, setH, eqS, eq1, cmpS, cmp1, isNil, popTo, killT, setT, leT, V.below, C.below, S_below, R.below, V.val, C.val, S_val, R.val, R.takes, vals, shows, List.any_cons, List.any_nil, unnamed, V.kill, V.names, C.names, S_names, R.names, List.set, List.replicate, ↓q_cond_t, ↓q_cond_f, if_true, if_false, reduceCtorEq, rvals, rvC, result, C_known, V.noL, C.noL, S_noL, R.noL, Option.map, true_and, and_true, ge_iff_le, gt_iff_lt, implies_true, q_ite_t, q_ite_f, beq_iff_eq, bne_iff_ne, q_ne, Nat.reduceAdd, Nat.reducePow, Int.reducePow, Nat.reduceMul, Nat.reduceSub, Nat.reduceLeDiff, Nat.reduceLT, Nat.reduceEqDiff, Int.reduceNeg, Int.reduceLT, Int.reduceLE, Int.reduceEq, Int.reduceNe, Int.reduceAdd, Int.reduceSub, Int.reduceMul, Int.reduceToNat, Int.reduceBEq, Int.reduceBNe, df32, c1, c2]
      exact hS.2 (by simp; omega)
    have hS := hS.1 (by omega)
    obtain ⟨k, rfl⟩ : ∃ k : Nat, b = k := ⟨b.toNat, by omega⟩
    have hk : min k 16 = k := by omega
    have m1 : min k IntKind.i64.bits = k := by show min k 64 = _; omega
    have p1 := pow16 k
    rw [hk] at p1
    obtain ⟨p, hp⟩ : ∃ p : Nat, 2 ^ k = p := ⟨_, rfl⟩
    rw [hp] at p1
    have c3 : (0 : Int) ≤ k := by omega
    have w1 : IntKind.i64.wrap (1 * 2 ^ k) = (p : Int) := by
      rw [Int.one_mul, show (2 : Int) ^ k = (p : Int) by rw [← hp]; simp, wrap64] <;> omega
    have c4 : (0 : Int) ≤ (p : Int) := by omega
    have c5 : (p : Int) ≤ 1099511627776 := by omega
    have c6 : (8 : Int) * (p : Int) ≤ 281474976710656 := by omega
    simp (config := { maxSteps := 10000000 }) only [EV1, EV2, EV3, EV4, EV5, EV6, addT, istep, lenR_sl, lenR_ns, lenR_es, pickR, putD, bin1R, un1R, slcR, bnd, capsOf, fillP, S_plain, V_plain, V.cells, S_known, V_known, C.v, blk, setL, setH, eqS, eq1, cmpS, cmp1, isNil, popTo, killT, setT, leT, V.below, C.below, S_below, R.below, V.val, C.val, S_val, R.val, R.takes, vals, shows, List.any_cons, List.any_nil, unnamed, V.kill, V.names, C.names, S_names, R.names, List.set, List.replicate, ↓q_cond_t, ↓q_cond_f, if_true, if_false, reduceCtorEq, rvals, rvC, result, C_known, V.noL, C.noL, S_noL, R.noL, Option.map, true_and, and_true, ge_iff_le, gt_iff_lt, implies_true, q_ite_t, q_ite_f, beq_iff_eq, bne_iff_ne, q_ne, Nat.reduceAdd, Nat.reducePow, Int.reducePow, Nat.reduceMul, Nat.reduceSub, Nat.reduceLeDiff, Nat.reduceLT, Nat.reduceEqDiff, Int.reduceNeg, Int.reduceLT, Int.reduceLE, Int.reduceEq, Int.reduceNe, Int.reduceAdd, Int.reduceSub, Int.reduceMul, Int.reduceToNat, Int.reduceBEq, Int.reduceBNe, df32, c1, c2, c3, m1, w1, c4, Int.le_refl, c5, c6, wc_zeros, put, fillP]
    refine ⟨[1, 0], by simp, rfl, ?_⟩
    simp only [getAll, List.getElem?_cons_zero, List.getElem?_cons_succ]
    refine ⟨?_, ?_⟩
    · simp [S.kept, R.kept, wc_kept]
    · refine cast (congrArg (K _) ?_) hS
      simp [memH, MB, MW, M.zero, hk, hp, Blk.ren, S.ren, R.prom, List.idxOf, List.findIdx, List.findIdx.go, wc_ren, wc_len, V.ren, C.ren, wc_map]
  · exact hS.elim
def wordsM (b : Nat) (m : M) (st : M → List Blk) : List V → Res
  | [] => .ok (.s (.i .i64 m.w.length)) [] (st m)
  | _ => .bad
noncomputable def wordsG := memF wordsM
theorem mwords_snd : Snd Try.prog 34 (FSpec.of wordsG) := snd_run (noT_snd _) mixed Try.func34 dc34 100 fun args h K hc hS => by
  obtain ⟨a, b, m, rest, rfl, H, hS1⟩ := memF_spec hS
  clear hS
  have hS := hS1
  clear hS1
  unfold wordsM at hS
  split at hS
  · simp only [spec_ok, setM_self H] at hS
    simp (config := { maxSteps := 10000000 }) only [EV1, EV2, EV3, EV4, EV5, EV6, addT, istep, lenR_sl, lenR_ns, lenR_es, pickR, putD, bin1R, un1R, slcR, bnd, capsOf, fillP, S_plain, V_plain, V.cells, S_known, V_known, C.v, blk, setL, setH, eqS, eq1, cmpS, cmp1, isNil, popTo, killT, setT, leT, V.below, C.below, S_below, R.below, V.val, C.val, S_val, R.val, R.takes, vals, shows, List.any_cons, List.any_nil, unnamed, V.kill, V.names, C.names, S_names, R.names, List.set, List.replicate, ↓q_cond_t, ↓q_cond_f, if_true, if_false, reduceCtorEq, rvals, rvC, result, C_known, V.noL, C.noL, S_noL, R.noL, Option.map, true_and, and_true, ge_iff_le, gt_iff_lt, implies_true, q_ite_t, q_ite_f, beq_iff_eq, bne_iff_ne, q_ne, Nat.reduceAdd, Nat.reducePow, Int.reducePow, Nat.reduceMul, Nat.reduceSub, Nat.reduceLeDiff, Nat.reduceLT, Nat.reduceEqDiff, Int.reduceNeg, Int.reduceLT, Int.reduceLE, Int.reduceEq, Int.reduceNe, Int.reduceAdd, Int.reduceSub, Int.reduceMul, Int.reduceToNat, Int.reduceBEq, Int.reduceBNe, df34, H.ha, MB]
    exact hS
  · exact hS.elim

def stepsM (b : Nat) (m : M) (st : M → List Blk) : List V → Res
  | [] => .ok (.s (.i .i64 m.n)) [] (st m)
  | _ => .bad
noncomputable def stepsG := memF stepsM
theorem msteps_snd : Snd Try.prog 25 (FSpec.of stepsG) := snd_run (noT_snd _) mixed Try.func25 dc25 100 fun args h K hc hS => by
  obtain ⟨a, b, m, rest, rfl, H, hS1⟩ := memF_spec hS
  clear hS
  have hS := hS1
  clear hS1
  unfold stepsM at hS
  split at hS
  · simp only [spec_ok, setM_self H] at hS
    simp (config := { maxSteps := 10000000 }) only [EV1, EV2, EV3, EV4, EV5, EV6, addT, istep, lenR_sl, lenR_ns, lenR_es, pickR, putD, bin1R, un1R, slcR, bnd, capsOf, fillP, S_plain, V_plain, V.cells, S_known, V_known, C.v, blk, setL, setH, eqS, eq1, cmpS, cmp1, isNil, popTo, killT, setT, leT, V.below, C.below, S_below, R.below, V.val, C.val, S_val, R.val, R.takes, vals, shows, List.any_cons, List.any_nil, unnamed, V.kill, V.names, C.names, S_names, R.names, List.set, List.replicate, ↓q_cond_t, ↓q_cond_f, if_true, if_false, reduceCtorEq, rvals, rvC, result, C_known, V.noL, C.noL, S_noL, R.noL, Option.map, true_and, and_true, ge_iff_le, gt_iff_lt, implies_true, q_ite_t, q_ite_f, beq_iff_eq, bne_iff_ne, q_ne, Nat.reduceAdd, Nat.reducePow, Int.reducePow, Nat.reduceMul, Nat.reduceSub, Nat.reduceLeDiff, Nat.reduceLT, Nat.reduceEqDiff, Int.reduceNeg, Int.reduceLT, Int.reduceLE, Int.reduceEq, Int.reduceNe, Int.reduceAdd, Int.reduceSub, Int.reduceMul, Int.reduceToNat, Int.reduceBEq, Int.reduceBNe, df25, H.ha, MB]
    exact hS
  · exact hS.elim

/-- Where a part of the words begins. -/
def offM (m : M) (a : Nat) : Nat := if m.w.length = a then 0 else a
def spanM (b : Nat) (m : M) (st : M → List Blk) : List V → Res
  | [.s (.i .i64 a), .s (.i .i64 k)] => .br (m.has a k) (.ok (.tup [.s (.sl (.g b) (if m.w.length = a.toNat then 0 else a.toNat) k.toNat (m.w.length - a.toNat)), .s (.b true)]) [] (st m)) (.ok (.tup [.s .ns, .s (.b false)]) [] (st m))
  | _ => .bad
noncomputable def spanG := memF spanM
theorem span_snd : Snd Try.prog 59 (FSpec.of spanG) := snd_run (noT_snd _) mixed Try.func59 dc59 100 fun args h K hc hS => by
  obtain ⟨a, b, m, rest, rfl, H, hS1⟩ := memF_spec hS
  clear hS
  have hS := hS1
  clear hS1
  unfold spanM at hS
  split at hS
  · rename_i x k
    simp only [spec_ok, spec_br, setM_self H] at hS
    have hl := m.l
    cases hh : m.has x k with
    | true =>
      have hS := hS.1 hh
      obtain ⟨i, j, rfl, rfl, hij⟩ := M.has_nat hh
      have c1 : ¬ ((i : Int) < 0) := by omega
      have c2 : ¬ ((j : Int) < 0) := by omega
      have c3 : ¬ ((m.w.length : Int) < i) := by omega
      have w1 : IntKind.i64.wrap ((m.w.length : Int) - i) = m.w.length - i := wrap64 (by omega) (by omega)
      have c4 : ¬ ((m.w.length : Int) - i < j) := by omega
      have w2 : IntKind.i64.wrap ((i : Int) + j) = ((i + j : Nat) : Int) := by rw [wrap64] <;> omega
      have c5 : (0 : Int) ≤ i := by omega
      have c6 : (i : Int) ≤ ((i + j : Nat) : Int) := by omega
      have c7 : ((i + j : Nat) : Int) ≤ m.w.length := by omega
      have e1 : i + j - i = j := by omega
      have c8 : 0 ≤ (i : Int) ∧ (i : Int) ≤ ((i + j : Nat) : Int) ∧ ((i + j : Nat) : Int) ≤ m.w.length := by omega
      simp (config := { maxSteps := 10000000 }) only [EV1, EV2, EV3, EV4, EV5, EV6, addT, istep, lenR_sl, lenR_ns, lenR_es, pickR, putD, bin1R, un1R, slcR, bnd, capsOf, fillP, S_plain, V_plain, V.cells, S_known, V_known, C.v, blk, setL, setH, eqS, eq1, cmpS, cmp1, isNil, popTo, killT, setT, leT, V.below, C.below, S_below, R.below, V.val, C.val, S_val, R.val, R.takes, vals, shows, List.any_cons, List.any_nil, unnamed, V.kill, V.names, C.names, S_names, R.names, List.set, List.replicate, ↓q_cond_t, ↓q_cond_f, if_true, if_false, reduceCtorEq, rvals, rvC, result, C_known, V.noL, C.noL, S_noL, R.noL, Option.map, true_and, and_true, ge_iff_le, gt_iff_lt, implies_true, q_ite_t, q_ite_f, beq_iff_eq, bne_iff_ne, q_ne, Nat.reduceAdd, Nat.reducePow, Int.reducePow, Nat.reduceMul, Nat.reduceSub, Nat.reduceLeDiff, Nat.reduceLT, Nat.reduceEqDiff, Int.reduceNeg, Int.reduceLT, Int.reduceLE, Int.reduceEq, Int.reduceNe, Int.reduceAdd, Int.reduceSub, Int.reduceMul, Int.reduceToNat, Int.reduceBEq, Int.reduceBNe, df59, H.ha, MB, c1, c2, c3, w1, c4, w2, slcR, c5, c6, c7, e1]
      exact hS
    | false =>
      have hS := hS.2 hh
      have hn := M.has_not hh
      by_cases c1 : x < 0
      · simp (config := { maxSteps := 10000000 }) only [EV1, EV2, EV3, EV4, EV5, EV6, addT, istep, lenR_sl, lenR_ns, lenR_es, pickR, putD, bin1R, un1R, slcR, bnd, capsOf, fillP, S_plain, V_plain, V.cells, S_known, V_known, C.v, blk, setL, setH, eqS, eq1, cmpS, cmp1, isNil, popTo, killT, setT, leT, V.below, C.below, S_below, R.below, V.val, C.val, S_val, R.val, R.takes, vals, shows, List.any_cons, List.any_nil, unnamed, V.kill, V.names, C.names, S_names, R.names, List.set, List.replicate, ↓q_cond_t, ↓q_cond_f, if_true, if_false, reduceCtorEq, rvals, rvC, result, C_known, V.noL, C.noL, S_noL, R.noL, Option.map, true_and, and_true, ge_iff_le, gt_iff_lt, implies_true, q_ite_t, q_ite_f, beq_iff_eq, bne_iff_ne, q_ne, Nat.reduceAdd, Nat.reducePow, Int.reducePow, Nat.reduceMul, Nat.reduceSub, Nat.reduceLeDiff, Nat.reduceLT, Nat.reduceEqDiff, Int.reduceNeg, Int.reduceLT, Int.reduceLE, Int.reduceEq, Int.reduceNe, Int.reduceAdd, Int.reduceSub, Int.reduceMul, Int.reduceToNat, Int.reduceBEq, Int.reduceBNe, df59, c1]
        exact hS
      by_cases c2 : k < 0
      · simp (config := { maxSteps := 10000000 }) only [EV1, EV2, EV3, EV4, EV5, EV6, addT, istep, lenR_sl, lenR_ns, lenR_es, pickR, putD, bin1R, un1R, slcR, bnd, capsOf, fillP, S_plain, V_plain, V.cells, S_known, V_known, C.v, blk, setL, setH, eqS, eq1, cmpS, cmp1, isNil, popTo, killT, setT, leT, V.below, C.below, S_below, R.below, V.val, C.val, S_val, R.val, R.takes, vals, shows, List.any_cons, List.any_nil, unnamed, V.kill, V.names, C.names, S_names, R.names, List.set, List.replicate, ↓q_cond_t, ↓q_cond_f, if_true, if_false, reduceCtorEq, rvals, rvC, result, C_known, V.noL, C.noL, S_noL, R.noL, Option.map, true_and, and_true, ge_iff_le, gt_iff_lt, implies_true, q_ite_t, q_ite_f, beq_iff_eq, bne_iff_ne, q_ne, Nat.reduceAdd, Nat.reducePow, Int.reducePow, Nat.reduceMul, Nat.reduceSub, Nat.reduceLeDiff, Nat.reduceLT, Nat.reduceEqDiff, Int.reduceNeg, Int.reduceLT, Int.reduceLE, Int.reduceEq, Int.reduceNe, Int.reduceAdd, Int.reduceSub, Int.reduceMul, Int.reduceToNat, Int.reduceBEq, Int.reduceBNe, df59, c1, c2]
        exact hS
      by_cases c3 : (m.w.length : Int) < x
      · simp (config := { maxSteps := 10000000 }) only [EV1, EV2, EV3, EV4, EV5, EV6, addT, istep, lenR_sl, lenR_ns, lenR_es, pickR, putD, bin1R, un1R, slcR, bnd, capsOf, fillP, S_plain, V_plain, V.cells, S_known, V_known, C.v, blk, setL, setH, eqS, eq1, cmpS, cmp1, isNil, popTo, killT, setT, leT, V.below, C.below, S_below, R.below, V.val, C.val, S_val, R.val, R.takes, vals, shows, List.any_cons, List.any_nil, unnamed, V.kill, V.names, C.names, S_names, R.names, List.set, List.replicate, ↓q_cond_t, ↓q_cond_f, if_true, if_false, reduceCtorEq, rvals, rvC, result, C_known, V.noL, C.noL, S_noL, R.noL, Option.map, true_and, and_true, ge_iff_le, gt_iff_lt, implies_true, q_ite_t, q_ite_f, beq_iff_eq, bne_iff_ne, q_ne, Nat.reduceAdd, Nat.reducePow, Int.reducePow, Nat.reduceMul, Nat.reduceSub, Nat.reduceLeDiff, Nat.reduceLT, Nat.reduceEqDiff, Int.reduceNeg, Int.reduceLT, Int.reduceLE, Int.reduceEq, Int.reduceNe, Int.reduceAdd, Int.reduceSub, Int.reduceMul, Int.reduceToNat, Int.reduceBEq, Int.reduceBNe, df59, H.ha, MB, c1, c2, c3]
        exact hS
      have w1 : IntKind.i64.wrap ((m.w.length : Int) - x) = m.w.length - x := wrap64 (by omega) (by omega)
      have c4 : (m.w.length : Int) - x < k := by omega
      simp (config := { maxSteps := 10000000 }) only [EV1, EV2, EV3, EV4, EV5, EV6, addT, istep, lenR_sl, lenR_ns, lenR_es, pickR, putD, bin1R, un1R, slcR, bnd, capsOf, fillP, S_plain, V_plain, V.cells, S_known, V_known, C.v, blk, setL, setH, eqS, eq1, cmpS, cmp1, isNil, popTo, killT, setT, leT, V.below, C.below, S_below, R.below, V.val, C.val, S_val, R.val, R.takes, vals, shows, List.any_cons, List.any_nil, unnamed, V.kill, V.names, C.names, S_names, R.names, List.set, List.replicate, ↓q_cond_t, ↓q_cond_f, if_true, if_false, reduceCtorEq, rvals, rvC, result, C_known, V.noL, C.noL, S_noL, R.noL, Option.map, true_and, and_true, ge_iff_le, gt_iff_lt, implies_true, q_ite_t, q_ite_f, beq_iff_eq, bne_iff_ne, q_ne, Nat.reduceAdd, Nat.reducePow, Int.reducePow, Nat.reduceMul, Nat.reduceSub, Nat.reduceLeDiff, Nat.reduceLT, Nat.reduceEqDiff, Int.reduceNeg, Int.reduceLT, Int.reduceLE, Int.reduceEq, Int.reduceNe, Int.reduceAdd, Int.reduceSub, Int.reduceMul, Int.reduceToNat, Int.reduceBEq, Int.reduceBNe, df59, H.ha, MB, c1, c2, c3, w1, c4]
      exact hS
  · exact hS.elim

def thereM (b : Nat) (m : M) (st : M → List Blk) : List V → Res
  | [.s (.i .i64 a), .s (.i .i64 k)] => .ok (.s (.b (m.has a k))) [] (st m)
  | _ => .bad
noncomputable def thereG := memF thereM
theorem rthere_snd : Snd Try.prog 72 (FSpec.of thereG) := snd_run (noT_snd _) mixed Try.func72 dc72 100 fun args h K hc hS => by
  obtain ⟨a, b, m, rest, rfl, H, hS1⟩ := memF_spec hS
  clear hS
  have hS := hS1
  clear hS1
  unfold thereM at hS
  split at hS
  · rename_i x k
    simp only [spec_ok, setM_self H] at hS
    have hl := m.l
    cases hh : m.has x k with
    | true =>
      rw [hh] at hS
      obtain ⟨i, j, rfl, rfl, hij⟩ := M.has_nat hh
      have w1 : IntKind.i64.wrap ((m.w.length : Int) - i) = m.w.length - i := wrap64 (by omega) (by omega)
      have c1 : (0 : Int) ≤ i := by omega
      have c2 : (0 : Int) ≤ j := by omega
      have c3 : (i : Int) ≤ m.w.length := by omega
      have c4 : (j : Int) ≤ (m.w.length : Int) - i := by omega
      simp (config := { maxSteps := 10000000 }) only [EV1, EV2, EV3, EV4, EV5, EV6, addT, istep, lenR_sl, lenR_ns, lenR_es, pickR, putD, bin1R, un1R, slcR, bnd, capsOf, fillP, S_plain, V_plain, V.cells, S_known, V_known, C.v, blk, setL, setH, eqS, eq1, cmpS, cmp1, isNil, popTo, killT, setT, leT, V.below, C.below, S_below, R.below, V.val, C.val, S_val, R.val, R.takes, vals, shows, List.any_cons, List.any_nil, unnamed, V.kill, V.names, C.names, S_names, R.names, List.set, List.replicate, ↓q_cond_t, ↓q_cond_f, if_true, if_false, reduceCtorEq, rvals, rvC, result, C_known, V.noL, C.noL, S_noL, R.noL, Option.map, true_and, and_true, ge_iff_le, gt_iff_lt, implies_true, q_ite_t, q_ite_f, beq_iff_eq, bne_iff_ne, q_ne, Nat.reduceAdd, Nat.reducePow, Int.reducePow, Nat.reduceMul, Nat.reduceSub, Nat.reduceLeDiff, Nat.reduceLT, Nat.reduceEqDiff, Int.reduceNeg, Int.reduceLT, Int.reduceLE, Int.reduceEq, Int.reduceNe, Int.reduceAdd, Int.reduceSub, Int.reduceMul, Int.reduceToNat, Int.reduceBEq, Int.reduceBNe, df72, H.ha, MB, c1, c2, c3, w1, c4]
      exact hS
    | false =>
      rw [hh] at hS
      have hn := M.has_not hh
      by_cases c1 : 0 ≤ x
      · by_cases c2 : 0 ≤ k
        · by_cases c3 : x ≤ m.w.length
          · have w1 : IntKind.i64.wrap ((m.w.length : Int) - x) = m.w.length - x := wrap64 (by omega) (by omega)
            have c4 : ¬ (k ≤ (m.w.length : Int) - x) := by omega
            simp (config := { maxSteps := 10000000 }) only [EV1, EV2, EV3, EV4, EV5, EV6, addT, istep, lenR_sl, lenR_ns, lenR_es, pickR, putD, bin1R, un1R, slcR, bnd, capsOf, fillP, S_plain, V_plain, V.cells, S_known, V_known, C.v, blk, setL, setH, eqS, eq1, cmpS, cmp1, isNil, popTo, killT, setT, leT, V.below, C.below, S_below, R.below, V.val, C.val, S_val, R.val, R.takes, vals, shows, List.any_cons, List.any_nil, unnamed, V.kill, V.names, C.names, S_names, R.names, List.set, List.replicate, ↓q_cond_t, ↓q_cond_f, if_true, if_false, reduceCtorEq, rvals, rvC, result, C_known, V.noL, C.noL, S_noL, R.noL, Option.map, true_and, and_true, ge_iff_le, gt_iff_lt, implies_true, q_ite_t, q_ite_f, beq_iff_eq, bne_iff_ne, q_ne, Nat.reduceAdd, Nat.reducePow, Int.reducePow, Nat.reduceMul, Nat.reduceSub, Nat.reduceLeDiff, Nat.reduceLT, Nat.reduceEqDiff, Int.reduceNeg, Int.reduceLT, Int.reduceLE, Int.reduceEq, Int.reduceNe, Int.reduceAdd, Int.reduceSub, Int.reduceMul, Int.reduceToNat, Int.reduceBEq, Int.reduceBNe, df72, H.ha, MB, c1, c2, c3, w1, c4]
            exact hS
          · simp (config := { maxSteps := 10000000 }) only [EV1, EV2, EV3, EV4, EV5, EV6, addT, istep, lenR_sl, lenR_ns, lenR_es, pickR, putD, bin1R, un1R, slcR, bnd, capsOf, fillP, S_plain, V_plain, V.cells, S_known, V_known, C.v, blk, setL, setH, eqS, eq1, cmpS, cmp1, isNil, popTo, killT, setT, leT, V.below, C.below, S_below, R.below, V.val, C.val, S_val, R.val, R.takes, vals, shows, List.any_cons, List.any_nil, unnamed, V.kill, V.names, C.names, S_names, R.names, List.set, List.replicate, ↓q_cond_t, ↓q_cond_f, if_true, if_false, reduceCtorEq, rvals, rvC, result, C_known, V.noL, C.noL, S_noL, R.noL, Option.map, true_and, and_true, ge_iff_le, gt_iff_lt, implies_true, q_ite_t, q_ite_f, beq_iff_eq, bne_iff_ne, q_ne, Nat.reduceAdd, Nat.reducePow, Int.reducePow, Nat.reduceMul, Nat.reduceSub, Nat.reduceLeDiff, Nat.reduceLT, Nat.reduceEqDiff, Int.reduceNeg, Int.reduceLT, Int.reduceLE, Int.reduceEq, Int.reduceNe, Int.reduceAdd, Int.reduceSub, Int.reduceMul, Int.reduceToNat, Int.reduceBEq, Int.reduceBNe, df72, H.ha, MB, c1, c2, c3]
            exact hS
        · simp (config := { maxSteps := 10000000 }) only [EV1, EV2, EV3, EV4, EV5, EV6, addT, istep, lenR_sl, lenR_ns, lenR_es, pickR, putD, bin1R, un1R, slcR, bnd, capsOf, fillP, S_plain, V_plain, V.cells, S_known, V_known, C.v, blk, setL, setH, eqS, eq1, cmpS, cmp1, isNil, popTo, killT, setT, leT, V.below, C.below, S_below, R.below, V.val, C.val, S_val, R.val, R.takes, vals, shows, List.any_cons, List.any_nil, unnamed, V.kill, V.names, C.names, S_names, R.names, List.set, List.replicate, ↓q_cond_t, ↓q_cond_f, if_true, if_false, reduceCtorEq, rvals, rvC, result, C_known, V.noL, C.noL, S_noL, R.noL, Option.map, true_and, and_true, ge_iff_le, gt_iff_lt, implies_true, q_ite_t, q_ite_f, beq_iff_eq, bne_iff_ne, q_ne, Nat.reduceAdd, Nat.reducePow, Int.reducePow, Nat.reduceMul, Nat.reduceSub, Nat.reduceLeDiff, Nat.reduceLT, Nat.reduceEqDiff, Int.reduceNeg, Int.reduceLT, Int.reduceLE, Int.reduceEq, Int.reduceNe, Int.reduceAdd, Int.reduceSub, Int.reduceMul, Int.reduceToNat, Int.reduceBEq, Int.reduceBNe, df72, H.ha, MB, c1, c2]
          exact hS
      · simp (config := { maxSteps := 10000000 }) only [EV1, EV2, EV3, EV4, EV5, EV6, addT, istep, lenR_sl, lenR_ns, lenR_es, pickR, putD, bin1R, un1R, slcR, bnd, capsOf, fillP, S_plain, V_plain, V.cells, S_known, V_known, C.v, blk, setL, setH, eqS, eq1, cmpS, cmp1, isNil, popTo, killT, setT, leT, V.below, C.below, S_below, R.below, V.val, C.val, S_val, R.val, R.takes, vals, shows, List.any_cons, List.any_nil, unnamed, V.kill, V.names, C.names, S_names, R.names, List.set, List.replicate, ↓q_cond_t, ↓q_cond_f, if_true, if_false, reduceCtorEq, rvals, rvC, result, C_known, V.noL, C.noL, S_noL, R.noL, Option.map, true_and, and_true, ge_iff_le, gt_iff_lt, implies_true, q_ite_t, q_ite_f, beq_iff_eq, bne_iff_ne, q_ne, Nat.reduceAdd, Nat.reducePow, Int.reducePow, Nat.reduceMul, Nat.reduceSub, Nat.reduceLeDiff, Nat.reduceLT, Nat.reduceEqDiff, Int.reduceNeg, Int.reduceLT, Int.reduceLE, Int.reduceEq, Int.reduceNe, Int.reduceAdd, Int.reduceSub, Int.reduceMul, Int.reduceToNat, Int.reduceBEq, Int.reduceBNe, df72, H.ha, MB, c1]
        exact hS
  · exact hS.elim
end Go.Proofs.Yteeeidldknlblaa

/- The machine's memory: reading and writing. -/
namespace Go.Proofs.Yteeeidldknlblaa
open Go.D
set_option linter.all false
set_option maxRecDepth 100000
set_option maxHeartbeats 4000000

theorem IsMem.hb' {h : List Blk} {a b : Nat} {m : M} (H : IsMem h a b m) (B : Blk) : (h.set a B)[b]? = some (MW m) := by rw [set_miss H.ne]; exact H.hb
theorem IsMem.ha' {h : List Blk} {a b : Nat} {m : M} (H : IsMem h a b m) (B : Blk) : (h.set b B)[a]? = some (MB b m) := by rw [set_miss (Ne.symm H.ne)]; exact H.ha

noncomputable def TSp : Tab := addT 59 spanG (addT 72 thereG noT)
theorem TSp_snd : TSp.Snd Try.prog := addT_snd ok59 span_snd (addT_snd ok72 rthere_snd (noT_snd _))

def readM (b : Nat) (m : M) (st : M → List Blk) : List V → Res
  | [.s (.i .i64 x)] => .br (m.has x 1) (.ok (.tup [.s (.i .u64 (m.at x)), .s (.i .i64 0)]) [] (st (m.tick 1))) (.ok (.tup [.s (.i .u64 0), .s (.i .i64 20)]) [] (st m))
  | _ => .bad
noncomputable def readG := memF readM
theorem mread_snd : Snd Try.prog 30 (FSpec.of readG) := snd_run TSp_snd mixed Try.func30 dc30 100 fun args h K hc hS => by
  obtain ⟨a, b, m, rest, rfl, H, hS1⟩ := memF_spec hS
  clear hS
  have hS := hS1
  clear hS1
  unfold readM at hS
  split at hS
  · rename_i x
    simp only [spec_ok, spec_br, setM_self H] at hS
    rw [← setM_steps H (m' := m.tick 1) rfl] at hS
    cases hh : m.has x 1 with
    | true =>
      have hS := hS.1 hh
      obtain ⟨i, j, rfl, e, hij⟩ := M.has_nat hh
      have c1 : ¬ (m.w.length = i) := by omega
      have c2 : (0 : Int) ≤ i ∧ (i : Int) < m.w.length := by omega
      have g := wc_get (w := m.w) (i := i) (by omega)
      simp (config := { maxSteps := 10000000 }) only [EV1, EV2, EV3, EV4, EV5, EV6, addT, istep, lenR_sl, lenR_ns, lenR_es, pickR, putD, bin1R, un1R, slcR, bnd, capsOf, fillP, S_plain, V_plain, V.cells, S_known, V_known, C.v, blk, setL, setH, eqS, eq1, cmpS, cmp1, isNil, popTo, killT, setT, leT, V.below, C.below, S_below, R.below, V.val, C.val, S_val, R.val, R.takes, vals, shows, List.any_cons, List.any_nil, unnamed, V.kill, V.names, C.names, S_names, R.names, List.set, List.replicate, ↓q_cond_t, ↓q_cond_f, if_true, if_false, reduceCtorEq, rvals, rvC, result, C_known, V.noL, C.noL, S_noL, R.noL, Option.map, true_and, and_true, ge_iff_le, gt_iff_lt, implies_true, q_ite_t, q_ite_f, beq_iff_eq, bne_iff_ne, q_ne, Nat.reduceAdd, Nat.reducePow, Int.reducePow, Nat.reduceMul, Nat.reduceSub, Nat.reduceLeDiff, Nat.reduceLT, Nat.reduceEqDiff, Int.reduceNeg, Int.reduceLT, Int.reduceLE, Int.reduceEq, Int.reduceNe, Int.reduceAdd, Int.reduceSub, Int.reduceMul, Int.reduceToNat, Int.reduceBEq, Int.reduceBNe, df30, TSp, spanG, thereG, memF_eq H, spanM, thereM, setM_self H, hh, c1, c2, H.ha, H.hb, H.hb', MB, MW, g, Int.toNat_natCast, set_hit H.ha]
      exact hS
    | false =>
      have hS := hS.2 hh
      simp (config := { maxSteps := 10000000 }) only [EV1, EV2, EV3, EV4, EV5, EV6, addT, istep, lenR_sl, lenR_ns, lenR_es, pickR, putD, bin1R, un1R, slcR, bnd, capsOf, fillP, S_plain, V_plain, V.cells, S_known, V_known, C.v, blk, setL, setH, eqS, eq1, cmpS, cmp1, isNil, popTo, killT, setT, leT, V.below, C.below, S_below, R.below, V.val, C.val, S_val, R.val, R.takes, vals, shows, List.any_cons, List.any_nil, unnamed, V.kill, V.names, C.names, S_names, R.names, List.set, List.replicate, ↓q_cond_t, ↓q_cond_f, if_true, if_false, reduceCtorEq, rvals, rvC, result, C_known, V.noL, C.noL, S_noL, R.noL, Option.map, true_and, and_true, ge_iff_le, gt_iff_lt, implies_true, q_ite_t, q_ite_f, beq_iff_eq, bne_iff_ne, q_ne, Nat.reduceAdd, Nat.reducePow, Int.reducePow, Nat.reduceMul, Nat.reduceSub, Nat.reduceLeDiff, Nat.reduceLT, Nat.reduceEqDiff, Int.reduceNeg, Int.reduceLT, Int.reduceLE, Int.reduceEq, Int.reduceNe, Int.reduceAdd, Int.reduceSub, Int.reduceMul, Int.reduceToNat, Int.reduceBEq, Int.reduceBNe, df30, TSp, spanG, thereG, memF_eq H, spanM, thereM, setM_self H, hh]
      exact hS
  · exact hS.elim
theorem rread_snd : Snd Try.prog 44 (FSpec.of readG) := snd_run TSp_snd mixed Try.func44 dc44 100 fun args h K hc hS => by
  obtain ⟨a, b, m, rest, rfl, H, hS1⟩ := memF_spec hS
  clear hS
  have hS := hS1
  clear hS1
  unfold readM at hS
  split at hS
  · rename_i x
    simp only [spec_ok, spec_br, setM_self H] at hS
    rw [← setM_steps H (m' := m.tick 1) rfl] at hS
    cases hh : m.has x 1 with
    | true =>
      have hS := hS.1 hh
      obtain ⟨i, j, rfl, e, hij⟩ := M.has_nat hh
      have c1 : ¬ (m.w.length = i) := by omega
      have c2 : (0 : Int) ≤ i ∧ (i : Int) < m.w.length := by omega
      have g := wc_get (w := m.w) (i := i) (by omega)
      simp (config := { maxSteps := 10000000 }) only [EV1, EV2, EV3, EV4, EV5, EV6, addT, istep, lenR_sl, lenR_ns, lenR_es, pickR, putD, bin1R, un1R, slcR, bnd, capsOf, fillP, S_plain, V_plain, V.cells, S_known, V_known, C.v, blk, setL, setH, eqS, eq1, cmpS, cmp1, isNil, popTo, killT, setT, leT, V.below, C.below, S_below, R.below, V.val, C.val, S_val, R.val, R.takes, vals, shows, List.any_cons, List.any_nil, unnamed, V.kill, V.names, C.names, S_names, R.names, List.set, List.replicate, ↓q_cond_t, ↓q_cond_f, if_true, if_false, reduceCtorEq, rvals, rvC, result, C_known, V.noL, C.noL, S_noL, R.noL, Option.map, true_and, and_true, ge_iff_le, gt_iff_lt, implies_true, q_ite_t, q_ite_f, beq_iff_eq, bne_iff_ne, q_ne, Nat.reduceAdd, Nat.reducePow, Int.reducePow, Nat.reduceMul, Nat.reduceSub, Nat.reduceLeDiff, Nat.reduceLT, Nat.reduceEqDiff, Int.reduceNeg, Int.reduceLT, Int.reduceLE, Int.reduceEq, Int.reduceNe, Int.reduceAdd, Int.reduceSub, Int.reduceMul, Int.reduceToNat, Int.reduceBEq, Int.reduceBNe, df44, TSp, spanG, thereG, memF_eq H, spanM, thereM, setM_self H, hh, c1, c2, H.ha, H.hb, H.hb', MB, MW, g, Int.toNat_natCast, set_hit H.ha]
      exact hS
    | false =>
      have hS := hS.2 hh
      simp (config := { maxSteps := 10000000 }) only [EV1, EV2, EV3, EV4, EV5, EV6, addT, istep, lenR_sl, lenR_ns, lenR_es, pickR, putD, bin1R, un1R, slcR, bnd, capsOf, fillP, S_plain, V_plain, V.cells, S_known, V_known, C.v, blk, setL, setH, eqS, eq1, cmpS, cmp1, isNil, popTo, killT, setT, leT, V.below, C.below, S_below, R.below, V.val, C.val, S_val, R.val, R.takes, vals, shows, List.any_cons, List.any_nil, unnamed, V.kill, V.names, C.names, S_names, R.names, List.set, List.replicate, ↓q_cond_t, ↓q_cond_f, if_true, if_false, reduceCtorEq, rvals, rvC, result, C_known, V.noL, C.noL, S_noL, R.noL, Option.map, true_and, and_true, ge_iff_le, gt_iff_lt, implies_true, q_ite_t, q_ite_f, beq_iff_eq, bne_iff_ne, q_ne, Nat.reduceAdd, Nat.reducePow, Int.reducePow, Nat.reduceMul, Nat.reduceSub, Nat.reduceLeDiff, Nat.reduceLT, Nat.reduceEqDiff, Int.reduceNeg, Int.reduceLT, Int.reduceLE, Int.reduceEq, Int.reduceNe, Int.reduceAdd, Int.reduceSub, Int.reduceMul, Int.reduceToNat, Int.reduceBEq, Int.reduceBNe, df44, TSp, spanG, thereG, memF_eq H, spanM, thereM, setM_self H, hh]
      exact hS
  · exact hS.elim

def fillM (b : Nat) (m : M) (st : M → List Blk) : List V → Res
  | [.s (.i .i64 x), .s (.i .i64 k), .s (.i .u64 v)] => .ob (u64 v) (.br (m.has x k) (.ok (.s (.i .i64 0)) [] (st ((m.fill x.toNat v k.toNat).tick k))) (.ok (.s (.i .i64 20)) [] (st m)))
  | _ => .bad
noncomputable def fillG := memF fillM
theorem mfill_snd : Snd Try.prog 29 (FSpec.of fillG) := snd_run TSp_snd mixed Try.func29 dc29 100 fun args h K hc hS => by
  obtain ⟨a, b, m, rest, rfl, H, hS1⟩ := memF_spec hS
  clear hS
  have hS := hS1
  clear hS1
  unfold fillM at hS
  split at hS
  · rename_i x k v
    simp only [spec_ob, spec_ok, spec_br, setM_self H] at hS
    obtain ⟨hv, hS⟩ := hS
    cases hh : m.has x k with
    | true =>
      have hS := hS.1 hh
      obtain ⟨i, j, rfl, rfl, hij⟩ := M.has_nat hh
      simp only [Int.toNat_natCast] at hS
      have hl := m.l
      obtain ⟨o, ho, hoi⟩ : ∃ o : Nat, (if m.w.length = i then 0 else i) = o ∧ (i < m.w.length → o = i) := ⟨_, rfl, fun hlt => if_neg (by omega)⟩
      simp (config := { maxSteps := 10000000 }) only [EV1, EV2, EV3, EV4, EV5, EV6, addT, istep, lenR_sl, lenR_ns, lenR_es, pickR, putD, bin1R, un1R, slcR, bnd, capsOf, fillP, S_plain, V_plain, V.cells, S_known, V_known, C.v, blk, setL, setH, eqS, eq1, cmpS, cmp1, isNil, popTo, killT, setT, leT, V.below, C.below, S_below, R.below, V.val, C.val, S_val, R.val, R.takes, vals, shows, List.any_cons, List.any_nil, unnamed, V.kill, V.names, C.names, S_names, R.names, List.set, List.replicate, ↓q_cond_t, ↓q_cond_f, if_true, if_false, reduceCtorEq, rvals, rvC, result, C_known, V.noL, C.noL, S_noL, R.noL, Option.map, true_and, and_true, ge_iff_le, gt_iff_lt, implies_true, q_ite_t, q_ite_f, beq_iff_eq, bne_iff_ne, q_ne, Nat.reduceAdd, Nat.reducePow, Int.reducePow, Nat.reduceMul, Nat.reduceSub, Nat.reduceLeDiff, Nat.reduceLT, Nat.reduceEqDiff, Int.reduceNeg, Int.reduceLT, Int.reduceLE, Int.reduceEq, Int.reduceNe, Int.reduceAdd, Int.reduceSub, Int.reduceMul, Int.reduceToNat, Int.reduceBEq, Int.reduceBNe, df29, TSp, spanG, memF_eq H, spanM, setM_self H, hh, Int.toNat_natCast, ho]
      refine loop_rule (α := Nat) [11, 23, 24, 25, 26, 27, 28, 29, 30] (fun q => [(23, .s (.i .i64 q))]) (fun _ => []) (fun q => h.set b ⟨.rw, wc (m.fill i v q).w, m.w.length⟩) (fun q => q ≤ j) (fun q => j - q) 0 (by omega) ?_ ?_
      · simp only [M.fill]
        rw [show (⟨.rw, wc m.w, m.w.length⟩ : Blk) = MW m from rfl, set_self H.hb]
        refine Wk.less ?_
        simp (config := { maxSteps := 10000000 }) only [EV1, EV2, EV3, EV4, EV5, EV6, addT, istep, lenR_sl, lenR_ns, lenR_es, pickR, putD, bin1R, un1R, slcR, bnd, capsOf, fillP, S_plain, V_plain, V.cells, S_known, V_known, C.v, blk, setL, setH, eqS, eq1, cmpS, cmp1, isNil, popTo, killT, setT, leT, V.below, C.below, S_below, R.below, V.val, C.val, S_val, R.val, R.takes, vals, shows, List.any_cons, List.any_nil, unnamed, V.kill, V.names, C.names, S_names, R.names, List.set, List.replicate, ↓q_cond_t, ↓q_cond_f, if_true, if_false, reduceCtorEq, rvals, rvC, result, C_known, V.noL, C.noL, S_noL, R.noL, Option.map, true_and, and_true, ge_iff_le, gt_iff_lt, implies_true, q_ite_t, q_ite_f, beq_iff_eq, bne_iff_ne, q_ne, Nat.reduceAdd, Nat.reducePow, Int.reducePow, Nat.reduceMul, Nat.reduceSub, Nat.reduceLeDiff, Nat.reduceLT, Nat.reduceEqDiff, Int.reduceNeg, Int.reduceLT, Int.reduceLE, Int.reduceEq, Int.reduceNe, Int.reduceAdd, Int.reduceSub, Int.reduceMul, Int.reduceToNat, Int.reduceBEq, Int.reduceBNe, q_cast, Int.natCast_zero]
      · rintro X q hq IH
        rcases Nat.lt_or_ge q j with h1 | h1
        · obtain ⟨d1, d2, d3, d4⟩ := idx h1 (by omega)
          have c1 := (hoi (by omega)).symm
          subst c1
          have c3 : (h.set b ⟨BK.rw, wc (m.fill i v q).w, m.w.length⟩)[b]? = some ⟨BK.rw, wc (m.fill i v q).w, m.w.length⟩ := set_hit H.hb
          have c4 : i + q + 1 ≤ (wc (m.fill i v q).w).length := by rw [wc_len, M.fill_len]; omega
          have c5 : ((wc (m.fill i v q).w).set (i + q) (S.i .u64 v)) = wc (m.fill i v (q + 1)).w := by rw [wc_set]; simp only [M.fill, M.put, uw_of hv]
          refine run_sound (Tab.ok_Γ _) 100 _ _ _ _ ?_
          simp (config := { maxSteps := 10000000 }) only [EV1, EV2, EV3, EV4, EV5, EV6, addT, istep, lenR_sl, lenR_ns, lenR_es, pickR, putD, bin1R, un1R, slcR, bnd, capsOf, fillP, S_plain, V_plain, V.cells, S_known, V_known, C.v, blk, setL, setH, eqS, eq1, cmpS, cmp1, isNil, popTo, killT, setT, leT, V.below, C.below, S_below, R.below, V.val, C.val, S_val, R.val, R.takes, vals, shows, List.any_cons, List.any_nil, unnamed, V.kill, V.names, C.names, S_names, R.names, List.set, List.replicate, ↓q_cond_t, ↓q_cond_f, if_true, if_false, reduceCtorEq, rvals, rvC, result, C_known, V.noL, C.noL, S_noL, R.noL, Option.map, true_and, and_true, ge_iff_le, gt_iff_lt, implies_true, q_ite_t, q_ite_f, beq_iff_eq, bne_iff_ne, q_ne, Nat.reduceAdd, Nat.reducePow, Int.reducePow, Nat.reduceMul, Nat.reduceSub, Nat.reduceLeDiff, Nat.reduceLT, Nat.reduceEqDiff, Int.reduceNeg, Int.reduceLT, Int.reduceLE, Int.reduceEq, Int.reduceNe, Int.reduceAdd, Int.reduceSub, Int.reduceMul, Int.reduceToNat, Int.reduceBEq, Int.reduceBNe, d1, d2, d3, d4, c3, MW, c4, Int.toNat_natCast, put, c5, List.set_set]
          exact IH (q + 1) _ (by omega) (by omega) (Wk.same rfl rfl (by simp (config := { maxSteps := 10000000 }) only [EV1, EV2, EV3, EV4, EV5, EV6, addT, istep, lenR_sl, lenR_ns, lenR_es, pickR, putD, bin1R, un1R, slcR, bnd, capsOf, fillP, S_plain, V_plain, V.cells, S_known, V_known, C.v, blk, setL, setH, eqS, eq1, cmpS, cmp1, isNil, popTo, killT, setT, leT, V.below, C.below, S_below, R.below, V.val, C.val, S_val, R.val, R.takes, vals, shows, List.any_cons, List.any_nil, unnamed, V.kill, V.names, C.names, S_names, R.names, List.set, List.replicate, ↓q_cond_t, ↓q_cond_f, if_true, if_false, reduceCtorEq, rvals, rvC, result, C_known, V.noL, C.noL, S_noL, R.noL, Option.map, true_and, and_true, ge_iff_le, gt_iff_lt, implies_true, q_ite_t, q_ite_f, beq_iff_eq, bne_iff_ne, q_ne, Nat.reduceAdd, Nat.reducePow, Int.reducePow, Nat.reduceMul, Nat.reduceSub, Nat.reduceLeDiff, Nat.reduceLT, Nat.reduceEqDiff, Int.reduceNeg, Int.reduceLT, Int.reduceLE, Int.reduceEq, Int.reduceNe, Int.reduceAdd, Int.reduceSub, Int.reduceMul, Int.reduceToNat, Int.reduceBEq, Int.reduceBNe]))
        · have : q = j := by omega
          subst this
          have ha := H.ha'
          refine run_sound (Tab.ok_Γ _) 100 _ _ _ _ ?_
          simp (config := { maxSteps := 10000000 }) only [EV1, EV2, EV3, EV4, EV5, EV6, addT, istep, lenR_sl, lenR_ns, lenR_es, pickR, putD, bin1R, un1R, slcR, bnd, capsOf, fillP, S_plain, V_plain, V.cells, S_known, V_known, C.v, blk, setL, setH, eqS, eq1, cmpS, cmp1, isNil, popTo, killT, setT, leT, V.below, C.below, S_below, R.below, V.val, C.val, S_val, R.val, R.takes, vals, shows, List.any_cons, List.any_nil, unnamed, V.kill, V.names, C.names, S_names, R.names, List.set, List.replicate, ↓q_cond_t, ↓q_cond_f, if_true, if_false, reduceCtorEq, rvals, rvC, result, C_known, V.noL, C.noL, S_noL, R.noL, Option.map, true_and, and_true, ge_iff_le, gt_iff_lt, implies_true, q_ite_t, q_ite_f, beq_iff_eq, bne_iff_ne, q_ne, Nat.reduceAdd, Nat.reducePow, Int.reducePow, Nat.reduceMul, Nat.reduceSub, Nat.reduceLeDiff, Nat.reduceLT, Nat.reduceEqDiff, Int.reduceNeg, Int.reduceLT, Int.reduceLE, Int.reduceEq, Int.reduceNe, Int.reduceAdd, Int.reduceSub, Int.reduceMul, Int.reduceToNat, Int.reduceBEq, Int.reduceBNe, Int.lt_irrefl, ha, MB]
          refine cast (congrArg (K _) ?_) hS
          simp only [setM]
          rw [List.set_comm _ _ H.ne]
          simp only [MW, MB, M.tick, M.fill_len, M.fill_n]
    | false =>
      have hS := hS.2 hh
      simp (config := { maxSteps := 10000000 }) only [EV1, EV2, EV3, EV4, EV5, EV6, addT, istep, lenR_sl, lenR_ns, lenR_es, pickR, putD, bin1R, un1R, slcR, bnd, capsOf, fillP, S_plain, V_plain, V.cells, S_known, V_known, C.v, blk, setL, setH, eqS, eq1, cmpS, cmp1, isNil, popTo, killT, setT, leT, V.below, C.below, S_below, R.below, V.val, C.val, S_val, R.val, R.takes, vals, shows, List.any_cons, List.any_nil, unnamed, V.kill, V.names, C.names, S_names, R.names, List.set, List.replicate, ↓q_cond_t, ↓q_cond_f, if_true, if_false, reduceCtorEq, rvals, rvC, result, C_known, V.noL, C.noL, S_noL, R.noL, Option.map, true_and, and_true, ge_iff_le, gt_iff_lt, implies_true, q_ite_t, q_ite_f, beq_iff_eq, bne_iff_ne, q_ne, Nat.reduceAdd, Nat.reducePow, Int.reducePow, Nat.reduceMul, Nat.reduceSub, Nat.reduceLeDiff, Nat.reduceLT, Nat.reduceEqDiff, Int.reduceNeg, Int.reduceLT, Int.reduceLE, Int.reduceEq, Int.reduceNe, Int.reduceAdd, Int.reduceSub, Int.reduceMul, Int.reduceToNat, Int.reduceBEq, Int.reduceBNe, df29, TSp, spanG, memF_eq H, spanM, setM_self H, hh]
      exact hS
  · exact hS.elim

def writeM (b : Nat) (m : M) (st : M → List Blk) : List V → Res
  | [.s (.i .i64 x), .s (.i .u64 v)] => .ob (u64 v) (.br (m.has x 1) (.ok (.s (.i .i64 0)) [] (st ((m.put x.toNat v).tick 1))) (.ok (.s (.i .i64 20)) [] (st m)))
  | _ => .bad
noncomputable def writeG := memF writeM
noncomputable def TFi : Tab := addT 29 fillG noT
theorem TFi_snd : TFi.Snd Try.prog := addT_snd ok29 mfill_snd (noT_snd _)
theorem mwrite_snd : Snd Try.prog 24 (FSpec.of writeG) := snd_run TFi_snd mixed Try.func24 dc24 100 fun args h K hc hS => by
  obtain ⟨a, b, m, rest, rfl, H, hS1⟩ := memF_spec hS
  clear hS
  have hS := hS1
  clear hS1
  unfold writeM at hS
  split at hS
  · rename_i x v
    simp only [spec_ob, spec_ok, spec_br, setM_self H] at hS
    obtain ⟨hv, hS⟩ := hS
    cases hh : m.has x 1 with
    | true =>
      have hS := hS.1 hh
      simp (config := { maxSteps := 10000000 }) only [EV1, EV2, EV3, EV4, EV5, EV6, addT, istep, lenR_sl, lenR_ns, lenR_es, pickR, putD, bin1R, un1R, slcR, bnd, capsOf, fillP, S_plain, V_plain, V.cells, S_known, V_known, C.v, blk, setL, setH, eqS, eq1, cmpS, cmp1, isNil, popTo, killT, setT, leT, V.below, C.below, S_below, R.below, V.val, C.val, S_val, R.val, R.takes, vals, shows, List.any_cons, List.any_nil, unnamed, V.kill, V.names, C.names, S_names, R.names, List.set, List.replicate, ↓q_cond_t, ↓q_cond_f, if_true, if_false, reduceCtorEq, rvals, rvC, result, C_known, V.noL, C.noL, S_noL, R.noL, Option.map, true_and, and_true, ge_iff_le, gt_iff_lt, implies_true, q_ite_t, q_ite_f, beq_iff_eq, bne_iff_ne, q_ne, Nat.reduceAdd, Nat.reducePow, Int.reducePow, Nat.reduceMul, Nat.reduceSub, Nat.reduceLeDiff, Nat.reduceLT, Nat.reduceEqDiff, Int.reduceNeg, Int.reduceLT, Int.reduceLE, Int.reduceEq, Int.reduceNe, Int.reduceAdd, Int.reduceSub, Int.reduceMul, Int.reduceToNat, Int.reduceBEq, Int.reduceBNe, df24, TFi, fillG, memF_eq H, fillM, setM_self H, hh, hv, M.fill]
      exact hS
    | false =>
      have hS := hS.2 hh
      simp (config := { maxSteps := 10000000 }) only [EV1, EV2, EV3, EV4, EV5, EV6, addT, istep, lenR_sl, lenR_ns, lenR_es, pickR, putD, bin1R, un1R, slcR, bnd, capsOf, fillP, S_plain, V_plain, V.cells, S_known, V_known, C.v, blk, setL, setH, eqS, eq1, cmpS, cmp1, isNil, popTo, killT, setT, leT, V.below, C.below, S_below, R.below, V.val, C.val, S_val, R.val, R.takes, vals, shows, List.any_cons, List.any_nil, unnamed, V.kill, V.names, C.names, S_names, R.names, List.set, List.replicate, ↓q_cond_t, ↓q_cond_f, if_true, if_false, reduceCtorEq, rvals, rvC, result, C_known, V.noL, C.noL, S_noL, R.noL, Option.map, true_and, and_true, ge_iff_le, gt_iff_lt, implies_true, q_ite_t, q_ite_f, beq_iff_eq, bne_iff_ne, q_ne, Nat.reduceAdd, Nat.reducePow, Int.reducePow, Nat.reduceMul, Nat.reduceSub, Nat.reduceLeDiff, Nat.reduceLT, Nat.reduceEqDiff, Int.reduceNeg, Int.reduceLT, Int.reduceLE, Int.reduceEq, Int.reduceNe, Int.reduceAdd, Int.reduceSub, Int.reduceMul, Int.reduceToNat, Int.reduceBEq, Int.reduceBNe, df24, TFi, fillG, memF_eq H, fillM, setM_self H, hh, hv, M.fill]
      exact hS
  · exact hS.elim
theorem rwrite_snd : Snd Try.prog 61 (FSpec.of writeG) := snd_run TSp_snd mixed Try.func61 dc61 100 fun args h K hc hS => by
  obtain ⟨a, b, m, rest, rfl, H, hS1⟩ := memF_spec hS
  clear hS
  have hS := hS1
  clear hS1
  unfold writeM at hS
  split at hS
  · rename_i x v
    simp only [spec_ob, spec_ok, spec_br, setM_self H] at hS
    obtain ⟨hv, hS⟩ := hS
    cases hh : m.has x 1 with
    | true =>
      have hS := hS.1 hh
      obtain ⟨i, j, rfl, e, hij⟩ := M.has_nat hh
      have c2 : (0 : Int) ≤ i ∧ (i : Int) < m.w.length := by omega
      have c4 : i + 1 ≤ (wc m.w).length := by rw [wc_len]; omega
      simp (config := { maxSteps := 10000000 }) only [EV1, EV2, EV3, EV4, EV5, EV6, addT, istep, lenR_sl, lenR_ns, lenR_es, pickR, putD, bin1R, un1R, slcR, bnd, capsOf, fillP, S_plain, V_plain, V.cells, S_known, V_known, C.v, blk, setL, setH, eqS, eq1, cmpS, cmp1, isNil, popTo, killT, setT, leT, V.below, C.below, S_below, R.below, V.val, C.val, S_val, R.val, R.takes, vals, shows, List.any_cons, List.any_nil, unnamed, V.kill, V.names, C.names, S_names, R.names, List.set, List.replicate, ↓q_cond_t, ↓q_cond_f, if_true, if_false, reduceCtorEq, rvals, rvC, result, C_known, V.noL, C.noL, S_noL, R.noL, Option.map, true_and, and_true, ge_iff_le, gt_iff_lt, implies_true, q_ite_t, q_ite_f, beq_iff_eq, bne_iff_ne, q_ne, Nat.reduceAdd, Nat.reducePow, Int.reducePow, Nat.reduceMul, Nat.reduceSub, Nat.reduceLeDiff, Nat.reduceLT, Nat.reduceEqDiff, Int.reduceNeg, Int.reduceLT, Int.reduceLE, Int.reduceEq, Int.reduceNe, Int.reduceAdd, Int.reduceSub, Int.reduceMul, Int.reduceToNat, Int.reduceBEq, Int.reduceBNe, df61, TSp, thereG, memF_eq H, thereM, setM_self H, hh, c2, H.ha, H.hb, H.ha', H.hb', MB, MW, put, wc_set, Int.toNat_natCast, c4, set_hit H.ha]
      refine cast (congrArg (K _) ?_) hS
      simp only [setM, MW, MB, M.tick, M.put, List.length_set, uw_of hv, Int.toNat_natCast]
    | false =>
      have hS := hS.2 hh
      simp (config := { maxSteps := 10000000 }) only [EV1, EV2, EV3, EV4, EV5, EV6, addT, istep, lenR_sl, lenR_ns, lenR_es, pickR, putD, bin1R, un1R, slcR, bnd, capsOf, fillP, S_plain, V_plain, V.cells, S_known, V_known, C.v, blk, setL, setH, eqS, eq1, cmpS, cmp1, isNil, popTo, killT, setT, leT, V.below, C.below, S_below, R.below, V.val, C.val, S_val, R.val, R.takes, vals, shows, List.any_cons, List.any_nil, unnamed, V.kill, V.names, C.names, S_names, R.names, List.set, List.replicate, ↓q_cond_t, ↓q_cond_f, if_true, if_false, reduceCtorEq, rvals, rvC, result, C_known, V.noL, C.noL, S_noL, R.noL, Option.map, true_and, and_true, ge_iff_le, gt_iff_lt, implies_true, q_ite_t, q_ite_f, beq_iff_eq, bne_iff_ne, q_ne, Nat.reduceAdd, Nat.reducePow, Int.reducePow, Nat.reduceMul, Nat.reduceSub, Nat.reduceLeDiff, Nat.reduceLT, Nat.reduceEqDiff, Int.reduceNeg, Int.reduceLT, Int.reduceLE, Int.reduceEq, Int.reduceNe, Int.reduceAdd, Int.reduceSub, Int.reduceMul, Int.reduceToNat, Int.reduceBEq, Int.reduceBNe, df61, TSp, thereG, memF_eq H, thereM, setM_self H, hh]
      exact hS
  · exact hS.elim
end Go.Proofs.Yteeeidldknlblaa

/- The machine's memory: what is read behind a write. -/
namespace Go.Proofs.Yteeeidldknlblaa
open Go.D
set_option linter.all false
set_option maxRecDepth 100000
set_option maxHeartbeats 4000000

theorem nth_set {α : Type} {d : α} : ∀ (l : List α) (i j : Nat) (x : α), nth d (l.set i x) j = if i = j ∧ i < l.length then x else nth d l j
  | [], i, j, x => by simp [nth]
  | y :: l, 0, 0, x => by simp [nth]
  | y :: l, 0, j + 1, x => by simp [nth]
  | y :: l, i + 1, 0, x => by simp [nth]
  | y :: l, i + 1, j + 1, x => by simp [nth, nth_set l i j x]
theorem nth_replicate {α : Type} {d : α} {n i : Nat} : nth d (List.replicate n d) i = d := by
  induction n generalizing i with
  | zero => rfl
  | succ n ih => cases i with
    | zero => rfl
    | succ i => exact ih
theorem M.at_put (m : M) (i : Nat) (x : Int) (j : Int) : (m.put i x).at j = if i = j.toNat ∧ i < m.w.length then uw x else m.at j := by
  simp only [M.at, M.put, nth_set]
theorem M.at_tick (m : M) (k j : Int) : (m.tick k).at j = m.at j := rfl
theorem M.at_zero (k : Nat) (j : Int) : (M.zero k).at j = 0 := by simp only [M.at, M.zero, nth_replicate]
theorem M.at_fill (m : M) (a : Nat) (x : Int) (j : Int) : ∀ k : Nat, (m.fill a x k).at j = if a ≤ j.toNat ∧ j.toNat < a + k ∧ j.toNat < m.w.length then uw x else m.at j
  | 0 => by rw [M.fill, if_neg (by omega)]
  | k + 1 => by
    rw [M.fill, M.at_put, M.fill_len, M.at_fill m a x j k]
    split
    · rw [if_pos (by omega)]
    · split
      · rw [if_pos (by omega)]
      · rw [if_neg (by omega)]
/-- Two memories of the same words and steps are the same. -/
theorem M.ext_at {m k : M} (hl : m.w.length = k.w.length) (hn : m.n = k.n) (h : ∀ i : Nat, i < m.w.length → m.at i = k.at i) : m = k := by
  refine M.ext' (List.ext_getElem hl fun i h1 h2 => ?_) hn
  have := h i h1
  simp only [M.at, Int.toNat_natCast, nth_eq h1, nth_eq h2] at this
  exact this
theorem M.has_of {m : M} {a k : Int} (h : 0 ≤ a ∧ 0 ≤ k ∧ a + k ≤ m.w.length) : m.has a k = true := by rw [M.has_iff]; omega
theorem M.has_no {m : M} {a k : Int} (h : ¬ (0 ≤ a ∧ 0 ≤ k ∧ a + k ≤ m.w.length)) : m.has a k = false := by
  rw [Bool.eq_false_iff]
  intro e
  rw [M.has_iff] at e
  omega
end Go.Proofs.Yteeeidldknlblaa

/- Slices of elements, as they lie in a block. -/
namespace Go.Proofs.Yteeeidldknlblaa
open Go.D
set_option linter.all false
set_option maxRecDepth 100000

/-- A slice of elements, as an argument. -/
def IsArr {α : Type} (c : α → List S) (h : List Blk) (s : S) (L : List α) : Prop :=
  ((s = .ns ∨ ∃ a c', s = .es a c') ∧ L = []) ∨ ∃ j c' st room, s = .sl (.g j) 0 L.length c' ∧ h[j]? = some ⟨st, arr c L, room⟩ ∧ (L.length ≠ 0 → st ≠ .dead)
theorem arr_inj {α : Type} {c : α → List S} {k : Nat} (hk : ∀ x, (c x).length = k) (hc : ∀ x y, c x = c y → x = y) : ∀ (L M : List α), L.length = M.length → arr c L = arr c M → L = M
  | [], [], _, _ => rfl
  | x :: L, y :: M, hl, e => by
    simp only [arr] at e
    obtain ⟨e1, e2⟩ := List.append_inj e (by rw [hk, hk])
    rw [hc x y e1, arr_inj hk hc L M (by simpa using hl) e2]
  | [], _ :: _, hl, _ => by simp at hl
  | _ :: _, [], hl, _ => by simp at hl
/-- Elements that can be told apart by their cells. -/
class Cells {α : Type} (c : α → List S) : Prop where
  len : ∃ k, ∀ x, (c x).length = k
  inj : ∀ x y, c x = c y → x = y
theorem IsArr.uniq {α : Type} {c : α → List S} [C : Cells c] {h : List Blk} {s : S} {L M : List α} (H : IsArr c h s L) (H' : IsArr c h s M) : L = M := by
  rcases H with ⟨e0, rfl⟩ | ⟨j, c1, st, room, rfl, e1, _⟩
  · rcases H' with ⟨_, rfl⟩ | ⟨_, _, _, _, e, _⟩
    · rfl
    · subst e; rcases e0 with e0 | ⟨_, _, e0⟩ <;> cases e0
  · rcases H' with ⟨e | ⟨_, _, e⟩, _⟩ | ⟨j', c1', st', room', e, e2, _⟩
    · cases e
    · cases e
    · simp only [S.sl.injEq, R.g.injEq, true_and] at e
      obtain ⟨rfl, hl, rfl⟩ := e
      rw [e1, Option.some.injEq, Blk.mk.injEq] at e2
      obtain ⟨k, hk⟩ := C.len
      exact arr_inj hk C.inj L M hl e2.2.1
open Classical in
noncomputable def arrOf {α : Type} (c : α → List S) (h : List Blk) (s : S) : Option (List α) := if hx : ∃ v, IsArr c h s v then some (Classical.choose hx) else none
theorem arrOf_eq {α : Type} {c : α → List S} [Cells c] {h : List Blk} {s : S} {v : List α} (H : IsArr c h s v) : arrOf c h s = some v := by
  have hx : ∃ v, IsArr c h s v := ⟨v, H⟩
  unfold arrOf
  rw [dif_pos hx, IsArr.uniq (Classical.choose_spec hx) H]
theorem arrOf_some {α : Type} {c : α → List S} {h : List Blk} {s : S} {v : List α} (e : arrOf c h s = some v) : IsArr c h s v := by
  unfold arrOf at e
  split at e
  · rename_i hx
    have := Classical.choose_spec hx
    rw [Option.some.injEq] at e
    rw [e] at this
    exact this
  · cases e
theorem IsArr.app {α : Type} {c : α → List S} {h X : List Blk} {s : S} {L : List α} (H : IsArr c h s L) : IsArr c (h ++ X) s L := by
  rcases H with ⟨e0, rfl⟩ | ⟨j, c', st, room, rfl, e1, e2⟩
  · exact .inl ⟨e0, rfl⟩
  · exact .inr ⟨j, c', st, room, rfl, by rw [List.getElem?_append_left (List.getElem?_eq_some_iff.1 e1).1]; exact e1, e2⟩
def In.c (n : Int) : List S := [.i .i64 n]
theorem In.c_len (n : Int) : (In.c n).length = 1 := rfl
instance : Cells In.c := ⟨⟨1, In.c_len⟩, fun x y e => by simpa [In.c] using e⟩

/-! ### a slice whose form is not looked at -/
/-- A slice of so many elements; of a block that was there. -/
def IsSl (q : Nat) (s : S) (n : Nat) : Prop := (s = .ns ∧ n = 0) ∨ (∃ a c, s = .es a c ∧ n = 0) ∨ ∃ j o c, s = .sl (.g j) o n c ∧ j < q
section
variable {q : Nat} {s : S} {n : Nat} (H : IsSl q s n)
include H
theorem IsSl.len {ls h : List Blk} : lenR (.s s) ls h = .ok (.s (.i .i64 n)) ls h := by
  rcases H with ⟨rfl, rfl⟩ | ⟨a, c, rfl, rfl⟩ | ⟨j, o, c, rfl, _⟩ <;> rfl
theorem IsSl.known : V.known (.s s) = true := by
  rcases H with ⟨rfl, rfl⟩ | ⟨a, c, rfl, rfl⟩ | ⟨j, o, c, rfl, _⟩ <;> rfl
theorem IsSl.plain : V.plain (.s s) = true := by
  rcases H with ⟨rfl, rfl⟩ | ⟨a, c, rfl, rfl⟩ | ⟨j, o, c, rfl, _⟩ <;> rfl
theorem IsSl.noL : s.noL = true := by
  rcases H with ⟨rfl, rfl⟩ | ⟨a, c, rfl, rfl⟩ | ⟨j, o, c, rfl, _⟩ <;> rfl
theorem IsSl.below (m : Nat) : s.below m = true := by
  rcases H with ⟨rfl, rfl⟩ | ⟨a, c, rfl, rfl⟩ | ⟨j, o, c, rfl, _⟩ <;> rfl
theorem IsSl.names (m : Nat) : s.names m = false := by
  rcases H with ⟨rfl, rfl⟩ | ⟨a, c, rfl, rfl⟩ | ⟨j, o, c, rfl, _⟩ <;> rfl
theorem IsSl.ren {ρ : R → R} (hρ : ∀ k, ρ (.g k) = .g k) : s.ren ρ = s := by
  rcases H with ⟨rfl, rfl⟩ | ⟨a, c, rfl, rfl⟩ | ⟨j, o, c, rfl, _⟩ <;> simp [S.ren, hρ]
theorem IsSl.lend (m : Nat) : s.ren (R.lend m) = s := H.ren fun _ => rfl
theorem IsSl.unlend {k : Nat} (hk : q ≤ k) : s.ren (R.unlend k) = s := by
  rcases H with ⟨rfl, rfl⟩ | ⟨a, c, rfl, rfl⟩ | ⟨j, o, c, rfl, hj⟩
  · rfl
  · rfl
  · simp only [S.ren, R.unlend]; rw [if_pos (by omega)]
theorem IsSl.pick (l : List Nat) : s.ren (R.pick l) = s := H.ren fun _ => rfl
theorem IsSl.val {k m : Nat} (hk : q ≤ k) : s.val k m = true := by
  rcases H with ⟨rfl, rfl⟩ | ⟨a, c, rfl, rfl⟩ | ⟨j, o, c, rfl, hj⟩
  · rfl
  · rfl
  · simp only [S.val, R.val, decide_eq_true_eq]; omega
end
theorem IsArr.sl {α : Type} {c : α → List S} {h : List Blk} {s : S} {L : List α} (H : IsArr c h s L) : IsSl h.length s L.length := by
  rcases H with ⟨e0 | ⟨a, c', e0⟩, rfl⟩ | ⟨j, c', st, room, rfl, e, _⟩
  · exact .inl ⟨e0, rfl⟩
  · exact .inr (.inl ⟨a, c', e0, rfl⟩)
  · exact .inr (.inr ⟨j, 0, c', rfl, (List.getElem?_eq_some_iff.1 e).1⟩)
/-- Where there is an element the slice is a block's. -/
theorem IsArr.at {α : Type} {c : α → List S} {h : List Blk} {s : S} {L : List α} (H : IsArr c h s L) {i : Nat} (hi : i < L.length) : ∃ j c' st room, s = .sl (.g j) 0 L.length c' ∧ h[j]? = some ⟨st, arr c L, room⟩ ∧ st ≠ .dead := by
  rcases H with ⟨_, rfl⟩ | ⟨j, c', st, room, e, e1, e2⟩
  · simp at hi
  · exact ⟨j, c', st, room, e, e1, e2 (by omega)⟩
end Go.Proofs.Yteeeidldknlblaa

/- Lists of words: Dump, Load, Same. -/
namespace Go.Proofs.Yteeeidldknlblaa
open Go.D
set_option linter.all false
set_option maxRecDepth 100000
set_option maxHeartbeats 4000000

/-- A list of words, as a slice. -/
def IsList (h : List Blk) (s : S) (vs : List Int) : Prop :=
  ((s = .ns ∨ ∃ a c, s = .es a c) ∧ vs = []) ∨ (∃ j o c B, s = .sl (.g j) o 0 c ∧ h[j]? = some B ∧ vs = []) ∨ ∃ j o c B, s = .sl (.g j) o vs.length c ∧ h[j]? = some B ∧ B.st ≠ .dead ∧ o + vs.length ≤ B.cells.length ∧ sub B.cells o vs.length = wc vs
theorem IsList.uniq {h : List Blk} {s : S} {v w : List Int} (H : IsList h s v) (H' : IsList h s w) : v = w := by
  rcases H with ⟨e0, rfl⟩ | ⟨j, o, c, B, rfl, e1, rfl⟩ | ⟨j, o, c, B, rfl, e1, _, _, e2⟩
  · rcases H' with ⟨_, rfl⟩ | ⟨_, _, _, _, e, _⟩ | ⟨j, o, c, B, e, _⟩
    · rfl
    · subst e; rcases e0 with e0 | ⟨_, _, e0⟩ <;> cases e0
    · subst e; rcases e0 with e0 | ⟨_, _, e0⟩ <;> cases e0
  · rcases H' with ⟨e | ⟨_, _, e⟩, _⟩ | ⟨_, _, _, _, _, _, rfl⟩ | ⟨j', o', c', B', e, _⟩
    · cases e
    · cases e
    · rfl
    · simp only [S.sl.injEq] at e
      exact (List.eq_nil_of_length_eq_zero e.2.2.1.symm).symm
  · rcases H' with ⟨e | ⟨_, _, e⟩, _⟩ | ⟨_, _, _, _, e, _, rfl⟩ | ⟨j', o', c', B', e, e3, _, _, e4⟩
    · cases e
    · cases e
    · simp only [S.sl.injEq] at e
      exact List.eq_nil_of_length_eq_zero e.2.2.1
    · simp only [S.sl.injEq, R.g.injEq] at e
      obtain ⟨rfl, rfl, e5, rfl⟩ := e
      rw [e1, Option.some.injEq] at e3
      subst e3
      rw [← e5, e2] at e4
      exact wc_inj e4
theorem IsList.sl {h : List Blk} {s : S} {vs : List Int} (H : IsList h s vs) : IsSl h.length s vs.length := by
  rcases H with ⟨e0 | ⟨a, c', e0⟩, rfl⟩ | ⟨j, o, c, B, rfl, e1, rfl⟩ | ⟨j, o, c, B, rfl, e1, _, _, e2⟩
  · exact .inl ⟨e0, rfl⟩
  · exact .inr (.inl ⟨a, c', e0, rfl⟩)
  · exact .inr (.inr ⟨j, o, c, rfl, (List.getElem?_eq_some_iff.1 e1).1⟩)
  · exact .inr (.inr ⟨j, o, c, rfl, (List.getElem?_eq_some_iff.1 e1).1⟩)
theorem IsList.shows {h : List Blk} {s : S} {vs : List Int} (H : IsList h s vs) (ls : List Blk) : shows ls h 1 s = some (vs.length, wc vs) := by
  rcases H with ⟨rfl | ⟨a, c', rfl⟩, rfl⟩ | ⟨j, o, c, B, rfl, e1, rfl⟩ | ⟨j, o, c, B, rfl, e1, hd, hl, e2⟩
  · rfl
  · rfl
  · simp only [D.shows, blk, e1]
    split
    · simp [wc]
    · simp [sub, wc]
  · simp only [D.shows, blk, e1, Nat.mul_one]
    rw [if_neg (by rintro (x | x); exact hd x; omega), e2]
/-- Where there is a word the slice is a block's. -/
theorem IsList.at {h : List Blk} {s : S} {vs : List Int} (H : IsList h s vs) {i : Nat} (hi : i < vs.length) : ∃ j o c B, s = .sl (.g j) o vs.length c ∧ h[j]? = some B ∧ B.st ≠ .dead ∧ o + vs.length ≤ B.cells.length ∧ sub B.cells o vs.length = wc vs := by
  rcases H with ⟨_, rfl⟩ | ⟨_, _, _, _, _, _, rfl⟩ | h
  · simp at hi
  · simp at hi
  · exact h
open Classical in
noncomputable def listOf (h : List Blk) (s : S) : Option (List Int) := if hx : ∃ v, IsList h s v then some (Classical.choose hx) else none
theorem listOf_eq {h : List Blk} {s : S} {v : List Int} (H : IsList h s v) : listOf h s = some v := by
  have hx : ∃ v, IsList h s v := ⟨v, H⟩
  unfold listOf
  rw [dif_pos hx, IsList.uniq (Classical.choose_spec hx) H]
theorem listOf_some {h : List Blk} {s : S} {v : List Int} (e : listOf h s = some v) : IsList h s v := by
  unfold listOf at e
  split at e
  · rename_i hx
    have := Classical.choose_spec hx
    rw [Option.some.injEq] at e
    rw [e] at this
    exact this
  · cases e
theorem IsList.get {o n : Nat} {cells : List S} {vs : List Int} (e : sub cells o n = wc vs) {i : Nat} (h : i < vs.length) (hn : vs.length = n) : cells[o + i]? = some (.i .u64 (nth 0 vs i)) := by
  have h1 := congrArg (fun l => l[i]?) e
  simp only [sub, wc_get h] at h1
  rw [List.getElem?_take, if_pos (by omega), List.getElem?_drop] at h1
  exact h1
/-- A whole block. -/
theorem IsList.whole {h : List Blk} {j c room : Nat} {st : BK} {vs : List Int} (hj : h[j]? = some ⟨st, wc vs, room⟩) (hs : st ≠ .dead) : IsList h (.sl (.g j) 0 vs.length c) vs := by
  refine .inr (.inr ⟨j, 0, c, _, rfl, hj, hs, ?_, ?_⟩)
  · simp [wc_len]
  · rw [wc_sub, List.drop_zero, List.take_length]
theorem IsList.app {h X : List Blk} {s : S} {v : List Int} (H : IsList h s v) : IsList (h ++ X) s v := by
  rcases H with ⟨e0, rfl⟩ | ⟨j, o, c, B, rfl, e1, e2⟩ | ⟨j, o, c, B, rfl, e1, e2⟩
  · exact .inl ⟨e0, rfl⟩
  · exact .inr (.inl ⟨j, o, c, B, rfl, by rw [List.getElem?_append_left (List.getElem?_eq_some_iff.1 e1).1]; exact e1, e2⟩)
  · exact .inr (.inr ⟨j, o, c, B, rfl, by rw [List.getElem?_append_left (List.getElem?_eq_some_iff.1 e1).1]; exact e1, e2⟩)

theorem wc_val (n k : Nat) (w : List Int) : (wc w).all (S.val n k) = true := wc_all (fun _ => rfl) w
noncomputable def cloneG : List V → List Blk → Res
  | [.s .ns], h => .ok (.s .ns) [] h
  | [.s (.sl r o n c)], h => match listOf h (.sl r o n c) with
    | some vs => .ob (vs.length ≤ 8796093022208) (.all vs.length fun c => .ok (.s (.sl (.g h.length) 0 vs.length c)) [] (h ++ [⟨.rw, wc vs, c⟩]))
    | none => .bad
  | _, _ => .bad
theorem clone_snd : Snd Try.prog 60 (FSpec.of cloneG) := snd_run (noT_snd _) mixed Try.func60 dc60 100 fun args h K hc hS => by
  unfold cloneG at hS
  split at hS
  · simp only [spec_ok] at hS
    simp (config := { maxSteps := 10000000 }) only [EV1, EV2, EV3, EV4, EV5, EV6, addT, istep, lenR_sl, lenR_ns, lenR_es, pickR, putD, bin1R, un1R, slcR, bnd, capsOf, fillP, S_plain, V_plain, V.cells, S_known, V_known, C.v, blk, setL, setH, eqS, eq1, cmpS, cmp1, isNil, popTo, killT, setT, leT, V.below, C.below, S_below, R.below, V.val, C.val, S_val, R.val, R.takes, vals, shows, List.any_cons, List.any_nil, unnamed, V.kill, V.names, C.names, S_names, R.names, List.set, List.replicate, ↓q_cond_t, ↓q_cond_f, if_true, if_false, reduceCtorEq, rvals, rvC, result, C_known, V.noL, C.noL, S_noL, R.noL, Option.map, true_and, and_true, ge_iff_le, gt_iff_lt, implies_true, q_ite_t, q_ite_f, beq_iff_eq, bne_iff_ne, q_ne, Nat.reduceAdd, Nat.reducePow, Int.reducePow, Nat.reduceMul, Nat.reduceSub, Nat.reduceLeDiff, Nat.reduceLT, Nat.reduceEqDiff, Int.reduceNeg, Int.reduceLT, Int.reduceLE, Int.reduceEq, Int.reduceNe, Int.reduceAdd, Int.reduceSub, Int.reduceMul, Int.reduceToNat, Int.reduceBEq, Int.reduceBNe, df60]
    exact hS
  · rename_i r o n c
    split at hS
    · rename_i vs hv
      obtain ⟨hl, hS⟩ := hS
      rcases listOf_some hv with ⟨e | ⟨_, _, e⟩, _⟩ | ⟨j, o', c', B, e, hj, rfl⟩ | ⟨j, o', c', B, e, hj, hd, hle, hs⟩
      · cases e
      · cases e
      · simp only [S.sl.injEq] at e
        obtain ⟨rfl, rfl, rfl, rfl⟩ := e
        simp only [spec_all, spec_ok] at hS
        simp (config := { maxSteps := 10000000 }) only [EV1, EV2, EV3, EV4, EV5, EV6, addT, istep, lenR_sl, lenR_ns, lenR_es, pickR, putD, bin1R, un1R, slcR, bnd, capsOf, fillP, S_plain, V_plain, V.cells, S_known, V_known, C.v, blk, setL, setH, eqS, eq1, cmpS, cmp1, isNil, popTo, killT, setT, leT, V.below, C.below, S_below, R.below, V.val, C.val, S_val, R.val, R.takes, vals, shows, List.any_cons, List.any_nil, unnamed, V.kill, V.names, C.names, S_names, R.names, List.set, List.replicate, ↓q_cond_t, ↓q_cond_f, if_true, if_false, reduceCtorEq, rvals, rvC, result, C_known, V.noL, C.noL, S_noL, R.noL, Option.map, true_and, and_true, ge_iff_le, gt_iff_lt, implies_true, q_ite_t, q_ite_f, beq_iff_eq, bne_iff_ne, q_ne, Nat.reduceAdd, Nat.reducePow, Int.reducePow, Nat.reduceMul, Nat.reduceSub, Nat.reduceLeDiff, Nat.reduceLT, Nat.reduceEqDiff, Int.reduceNeg, Int.reduceLT, Int.reduceLE, Int.reduceEq, Int.reduceNe, Int.reduceAdd, Int.reduceSub, Int.reduceMul, Int.reduceToNat, Int.reduceBEq, Int.reduceBNe, df60, fillP, hj, sub, List.take_zero, ite_self]
        intro c hc1
        refine ⟨[0], by simp, rfl, ?_⟩
        simp only [getAll, List.getElem?_cons_zero]
        refine ⟨rfl, ?_⟩
        have := hS c hc1
        refine cast (congrArg (K _) ?_) this
        simp [Blk.ren, wc]
      · simp only [S.sl.injEq] at e
        obtain ⟨rfl, rfl, rfl, rfl⟩ := e
        have c1 : ¬ (B.st = .dead ∨ B.cells.length < o + vs.length) := by rintro (x | x); exact hd x; omega
        have c2 : vs.length * 8 ≤ 140737488355328 := by omega
        have c3 : vals h.length 1 (wc vs) = true := wc_vals _ _ _
        have c4 : (wc vs).all (fun s => !S.names 0 s) = true := wc_names 0 vs
        have c5 : ¬ B.cells.length < o + vs.length := by omega
        simp only [spec_all, spec_ok] at hS
        simp (config := { maxSteps := 10000000 }) only [EV1, EV2, EV3, EV4, EV5, EV6, addT, istep, lenR_sl, lenR_ns, lenR_es, pickR, putD, bin1R, un1R, slcR, bnd, capsOf, fillP, S_plain, V_plain, V.cells, S_known, V_known, C.v, blk, setL, setH, eqS, eq1, cmpS, cmp1, isNil, popTo, killT, setT, leT, V.below, C.below, S_below, R.below, V.val, C.val, S_val, R.val, R.takes, vals, shows, List.any_cons, List.any_nil, unnamed, V.kill, V.names, C.names, S_names, R.names, List.set, List.replicate, ↓q_cond_t, ↓q_cond_f, if_true, if_false, reduceCtorEq, rvals, rvC, result, C_known, V.noL, C.noL, S_noL, R.noL, Option.map, true_and, and_true, ge_iff_le, gt_iff_lt, implies_true, q_ite_t, q_ite_f, beq_iff_eq, bne_iff_ne, q_ne, Nat.reduceAdd, Nat.reducePow, Int.reducePow, Nat.reduceMul, Nat.reduceSub, Nat.reduceLeDiff, Nat.reduceLT, Nat.reduceEqDiff, Int.reduceNeg, Int.reduceLT, Int.reduceLE, Int.reduceEq, Int.reduceNe, Int.reduceAdd, Int.reduceSub, Int.reduceMul, Int.reduceToNat, Int.reduceBEq, Int.reduceBNe, df60, fillP, hj, hd, c1, c5, hs, wc_known, c2, wc_val, wc_all]
        intro c hc1
        refine ⟨[0], by simp, rfl, ?_⟩
        simp only [getAll, List.getElem?_cons_zero]
        refine ⟨?_, ?_⟩
        · simp [wc_kept]
        · have := hS c hc1
          refine cast (congrArg (K _) ?_) this
          simp [Blk.ren, wc_ren]
    · exact hS.elim
  · exact hS.elim

noncomputable def dumpM (b : Nat) (m : M) (st : M → List Blk) : List V → Res
  | [.s (.i .i64 x), .s (.i .i64 k)] => .br (m.has x k) (.all k.toNat fun c => .ok (.tup [.s (.sl (.g (st m).length) 0 k.toNat c), .s (.i .i64 0)]) [] (st m ++ [⟨.rw, wc ((m.w.drop x.toNat).take k.toNat), c⟩]))
      (.ok (.tup [.s .ns, .s (.i .i64 20)]) [] (st m))
  | _ => .bad
noncomputable def dumpG := memF dumpM
noncomputable def TDu : Tab := addT 59 spanG (addT 60 cloneG noT)
theorem TDu_snd : TDu.Snd Try.prog := addT_snd ok59 span_snd (addT_snd ok60 clone_snd (noT_snd _))
theorem mdump_snd : Snd Try.prog 26 (FSpec.of dumpG) := snd_run TDu_snd mixed Try.func26 dc26 100 fun args h K hc hS => by
  obtain ⟨a, b, m, rest, rfl, H, hS1⟩ := memF_spec hS
  clear hS
  have hS := hS1
  clear hS1
  unfold dumpM at hS
  split at hS
  · rename_i x k
    simp only [spec_ok, spec_br, spec_all, setM_self H] at hS
    have hl := m.l
    cases hh : m.has x k with
    | true =>
      have hS := hS.1 hh
      obtain ⟨i, j, rfl, rfl, hij⟩ := M.has_nat hh
      simp only [Int.toNat_natCast] at hS
      have hvl : ((m.w.drop i).take j).length = j := by simp; omega
      have hL : IsList h (.sl (.g b) (if m.w.length = i then 0 else i) j (m.w.length - i)) ((m.w.drop i).take j) := by
        refine .inr (.inr ⟨b, _, _, MW m, by rw [hvl], H.hb, fun x => BK.noConfusion x, ?_, ?_⟩)
        · rw [hvl]; simp only [MW, wc_len]; split <;> omega
        · rw [hvl]; simp only [MW]; rw [wc_sub]
          split
          · have : j = 0 := by omega
            subst this; simp
          · rfl
      have hB : j ≤ 8796093022208 := by omega
      simp (config := { maxSteps := 10000000 }) only [EV1, EV2, EV3, EV4, EV5, EV6, addT, istep, lenR_sl, lenR_ns, lenR_es, pickR, putD, bin1R, un1R, slcR, bnd, capsOf, fillP, S_plain, V_plain, V.cells, S_known, V_known, C.v, blk, setL, setH, eqS, eq1, cmpS, cmp1, isNil, popTo, killT, setT, leT, V.below, C.below, S_below, R.below, V.val, C.val, S_val, R.val, R.takes, vals, shows, List.any_cons, List.any_nil, unnamed, V.kill, V.names, C.names, S_names, R.names, List.set, List.replicate, ↓q_cond_t, ↓q_cond_f, if_true, if_false, reduceCtorEq, rvals, rvC, result, C_known, V.noL, C.noL, S_noL, R.noL, Option.map, true_and, and_true, ge_iff_le, gt_iff_lt, implies_true, q_ite_t, q_ite_f, beq_iff_eq, bne_iff_ne, q_ne, Nat.reduceAdd, Nat.reducePow, Int.reducePow, Nat.reduceMul, Nat.reduceSub, Nat.reduceLeDiff, Nat.reduceLT, Nat.reduceEqDiff, Int.reduceNeg, Int.reduceLT, Int.reduceLE, Int.reduceEq, Int.reduceNe, Int.reduceAdd, Int.reduceSub, Int.reduceMul, Int.reduceToNat, Int.reduceBEq, Int.reduceBNe, df26, TDu, spanG, memF_eq H, spanM, setM_self H, hh, cloneG, listOf_eq hL, hvl, hB, Int.toNat_natCast]
      exact hS
    | false =>
      have hS := hS.2 hh
      simp (config := { maxSteps := 10000000 }) only [EV1, EV2, EV3, EV4, EV5, EV6, addT, istep, lenR_sl, lenR_ns, lenR_es, pickR, putD, bin1R, un1R, slcR, bnd, capsOf, fillP, S_plain, V_plain, V.cells, S_known, V_known, C.v, blk, setL, setH, eqS, eq1, cmpS, cmp1, isNil, popTo, killT, setT, leT, V.below, C.below, S_below, R.below, V.val, C.val, S_val, R.val, R.takes, vals, shows, List.any_cons, List.any_nil, unnamed, V.kill, V.names, C.names, S_names, R.names, List.set, List.replicate, ↓q_cond_t, ↓q_cond_f, if_true, if_false, reduceCtorEq, rvals, rvC, result, C_known, V.noL, C.noL, S_noL, R.noL, Option.map, true_and, and_true, ge_iff_le, gt_iff_lt, implies_true, q_ite_t, q_ite_f, beq_iff_eq, bne_iff_ne, q_ne, Nat.reduceAdd, Nat.reducePow, Int.reducePow, Nat.reduceMul, Nat.reduceSub, Nat.reduceLeDiff, Nat.reduceLT, Nat.reduceEqDiff, Int.reduceNeg, Int.reduceLT, Int.reduceLE, Int.reduceEq, Int.reduceNe, Int.reduceAdd, Int.reduceSub, Int.reduceMul, Int.reduceToNat, Int.reduceBEq, Int.reduceBNe, df26, TDu, spanG, memF_eq H, spanM, setM_self H, hh]
      exact hS
  · exact hS.elim

/-- The slice is none of the memory's words. -/
def apartS (b : Nat) : S → Prop
  | .sl (.g j) _ _ _ => j ≠ b
  | _ => True
noncomputable def loadG : List V → List Blk → Res
  | [.s (.p (.g a) 0), .s (.i .i64 x), .s s], h => match memOf h a, listOf h s with
    | some (b, m), some vs => .ob (apartS b s ∧ ∀ v, v ∈ vs → u64 v) (.br (m.has x vs.length) (.ok (.s (.i .i64 0)) [] (setM h a b (m.lay x.toNat vs))) (.ok (.s (.i .i64 20)) [] h))
    | _, _ => .bad
  | _, _ => .bad
theorem loadG_spec {args : List V} {h : List Blk} {K : V → List Blk → Prop} (hS : (loadG args h).spec K) : ∃ a x s b m vs, args = [.s (.p (.g a) 0), .s (.i .i64 x), .s s] ∧ IsMem h a b m ∧ IsList h s vs ∧ apartS b s ∧ (∀ v, v ∈ vs → u64 v) ∧
    (m.has x vs.length = true → K (.s (.i .i64 0)) (setM h a b (m.lay x.toNat vs))) ∧ (m.has x vs.length = false → K (.s (.i .i64 20)) h) := by
  unfold loadG at hS
  split at hS
  · split at hS
    · rename_i e1 e2
      exact ⟨_, _, _, _, _, _, rfl, memOf_some e1, listOf_some e2, hS.1.1, hS.1.2, hS.2.1, hS.2.2⟩
    · exact hS.elim
  · exact hS.elim
theorem put_none {xs : List S} {o : Nat} : put xs o [] = xs := rfl
theorem mload_snd : Snd Try.prog 27 (FSpec.of loadG) := snd_run TSp_snd mixed Try.func27 dc27 100 fun args h K hc hS => by
  obtain ⟨a, x, s, b, m, vs, rfl, H, HL, hap, hu, q1, q2⟩ := loadG_spec hS
  clear hS
  have hl := m.l
  have hlen := fun ls h' => HL.sl.len (ls := ls) (h := h')
  have hsh := fun ls => HL.shows ls
  cases hh : m.has x vs.length with
  | true =>
    have hS := q1 hh
    obtain ⟨i, n, rfl, e, hij⟩ := M.has_nat hh
    have e : vs.length = n := by omega
    simp only [Int.toNat_natCast] at hS
    have hcl : (wc m.w).length = m.w.length := wc_len _
    obtain ⟨o', ho, hoi⟩ : ∃ o' : Nat, (if m.w.length = i then 0 else i) = o' ∧ (i < m.w.length → o' = i) := ⟨_, rfl, fun hlt => if_neg (by omega)⟩
    have c2 : o' + vs.length ≤ m.w.length := by rw [← ho]; split <;> omega
    have hsub : sub (wc vs) 0 vs.length = wc vs := by rw [wc_sub, List.drop_zero, List.take_length]
    have hmin : min vs.length vs.length = vs.length := Nat.min_self _
    have hlay : D.put (wc m.w) o' (wc vs) = wc (m.lay i vs).w := by
      rcases Nat.eq_zero_or_pos vs.length with h0 | h0
      · have : vs = [] := List.eq_nil_of_length_eq_zero h0
        subst this; rfl
      · rw [hoi (by omega)]; exact M.lay_w vs m i hu
    have hset := setM_words H (M.lay_len vs m i) (M.lay_n vs m i)
    rw [← hset] at hS
    simp only [MW, M.lay_len] at hS
    have ht : (wc vs).all (R.takes (R.g b) h.length 0) = true := wc_takes _ _ _ _
    simp (config := { maxSteps := 10000000 }) only [EV1, EV2, EV3, EV4, EV5, EV6, addT, istep, lenR_sl, lenR_ns, lenR_es, pickR, putD, bin1R, un1R, slcR, bnd, capsOf, fillP, S_plain, V_plain, V.cells, S_known, V_known, C.v, blk, setL, setH, eqS, eq1, cmpS, cmp1, isNil, popTo, killT, setT, leT, V.below, C.below, S_below, R.below, V.val, C.val, S_val, R.val, R.takes, vals, shows, List.any_cons, List.any_nil, unnamed, V.kill, V.names, C.names, S_names, R.names, List.set, List.replicate, ↓q_cond_t, ↓q_cond_f, if_true, if_false, reduceCtorEq, rvals, rvC, result, C_known, V.noL, C.noL, S_noL, R.noL, Option.map, true_and, and_true, ge_iff_le, gt_iff_lt, implies_true, q_ite_t, q_ite_f, beq_iff_eq, bne_iff_ne, q_ne, Nat.reduceAdd, Nat.reducePow, Int.reducePow, Nat.reduceMul, Nat.reduceSub, Nat.reduceLeDiff, Nat.reduceLT, Nat.reduceEqDiff, Int.reduceNeg, Int.reduceLT, Int.reduceLE, Int.reduceEq, Int.reduceNe, Int.reduceAdd, Int.reduceSub, Int.reduceMul, Int.reduceToNat, Int.reduceBEq, Int.reduceBNe, df27, ↓hlen, ↓hsh, TSp, spanG, memF_eq H, spanM, setM_self H, hh, H.hb, MW, hcl, ho, c2, hsub, hmin, hlay, wc_known, wc_takes, wc_all, Int.toNat_natCast]
    exact hS
  | false =>
    have hS := q2 hh
    simp (config := { maxSteps := 10000000 }) only [EV1, EV2, EV3, EV4, EV5, EV6, addT, istep, lenR_sl, lenR_ns, lenR_es, pickR, putD, bin1R, un1R, slcR, bnd, capsOf, fillP, S_plain, V_plain, V.cells, S_known, V_known, C.v, blk, setL, setH, eqS, eq1, cmpS, cmp1, isNil, popTo, killT, setT, leT, V.below, C.below, S_below, R.below, V.val, C.val, S_val, R.val, R.takes, vals, shows, List.any_cons, List.any_nil, unnamed, V.kill, V.names, C.names, S_names, R.names, List.set, List.replicate, ↓q_cond_t, ↓q_cond_f, if_true, if_false, reduceCtorEq, rvals, rvC, result, C_known, V.noL, C.noL, S_noL, R.noL, Option.map, true_and, and_true, ge_iff_le, gt_iff_lt, implies_true, q_ite_t, q_ite_f, beq_iff_eq, bne_iff_ne, q_ne, Nat.reduceAdd, Nat.reducePow, Int.reducePow, Nat.reduceMul, Nat.reduceSub, Nat.reduceLeDiff, Nat.reduceLT, Nat.reduceEqDiff, Int.reduceNeg, Int.reduceLT, Int.reduceLE, Int.reduceEq, Int.reduceNe, Int.reduceAdd, Int.reduceSub, Int.reduceMul, Int.reduceToNat, Int.reduceBEq, Int.reduceBNe, df27, ↓hlen, TSp, spanG, memF_eq H, spanM, setM_self H, hh]
    exact hS
end Go.Proofs.Yteeeidldknlblaa

/- Lists of words: the document's Load, Same. -/
namespace Go.Proofs.Yteeeidldknlblaa
open Go.D
set_option linter.all false
set_option maxRecDepth 100000
set_option maxHeartbeats 4000000

theorem take_snoc {vs : List Int} {q : Nat} (h : q < vs.length) : vs.take (q + 1) = vs.take q ++ [nth 0 vs q] := by
  rw [List.take_succ_eq_append_getElem h, nth_eq h]
theorem rload_snd : Snd Try.prog 65 (FSpec.of loadG) := snd_run TSp_snd mixed Try.func65 dc65 100 fun args h K hc hS => by
  obtain ⟨a, x, s, b, m, vs, rfl, H, HL, hap, hu, q1, q2⟩ := loadG_spec hS
  clear hS
  have hl := m.l
  have hlen := fun ls h' => HL.sl.len (ls := ls) (h := h')
  cases hh : m.has x vs.length with
  | true =>
    have hS := q1 hh
    obtain ⟨i, n, rfl, e, hij⟩ := M.has_nat hh
    have e : vs.length = n := by omega
    simp only [Int.toNat_natCast] at hS
    simp (config := { maxSteps := 10000000 }) only [EV1, EV2, EV3, EV4, EV5, EV6, addT, istep, lenR_sl, lenR_ns, lenR_es, pickR, putD, bin1R, un1R, slcR, bnd, capsOf, fillP, S_plain, V_plain, V.cells, S_known, V_known, C.v, blk, setL, setH, eqS, eq1, cmpS, cmp1, isNil, popTo, killT, setT, leT, V.below, C.below, S_below, R.below, V.val, C.val, S_val, R.val, R.takes, vals, shows, List.any_cons, List.any_nil, unnamed, V.kill, V.names, C.names, S_names, R.names, List.set, List.replicate, ↓q_cond_t, ↓q_cond_f, if_true, if_false, reduceCtorEq, rvals, rvC, result, C_known, V.noL, C.noL, S_noL, R.noL, Option.map, true_and, and_true, ge_iff_le, gt_iff_lt, implies_true, q_ite_t, q_ite_f, beq_iff_eq, bne_iff_ne, q_ne, Nat.reduceAdd, Nat.reducePow, Int.reducePow, Nat.reduceMul, Nat.reduceSub, Nat.reduceLeDiff, Nat.reduceLT, Nat.reduceEqDiff, Int.reduceNeg, Int.reduceLT, Int.reduceLE, Int.reduceEq, Int.reduceNe, Int.reduceAdd, Int.reduceSub, Int.reduceMul, Int.reduceToNat, Int.reduceBEq, Int.reduceBNe, df65, ↓hlen, TSp, thereG, memF_eq H, thereM, setM_self H, hh]
    refine loop_rule (α := Nat) [8, 16, 17, 18, 19, 20, 21, 22, 23, 24, 25, 26, 27, 28, 29, 30, 31, 32, 33] (fun q => [(8, .s (.i .i64 q))]) (fun _ => []) (fun q => h.set b ⟨.rw, wc (m.lay i (vs.take q)).w, m.w.length⟩) (fun q => q ≤ vs.length) (fun q => vs.length - q) 0 (by omega) ?_ ?_
    · simp only [List.take_zero, M.lay]
      rw [show (⟨.rw, wc m.w, m.w.length⟩ : Blk) = MW m from rfl, set_self H.hb]
      refine Wk.less ?_
      simp (config := { maxSteps := 10000000 }) only [EV1, EV2, EV3, EV4, EV5, EV6, addT, istep, lenR_sl, lenR_ns, lenR_es, pickR, putD, bin1R, un1R, slcR, bnd, capsOf, fillP, S_plain, V_plain, V.cells, S_known, V_known, C.v, blk, setL, setH, eqS, eq1, cmpS, cmp1, isNil, popTo, killT, setT, leT, V.below, C.below, S_below, R.below, V.val, C.val, S_val, R.val, R.takes, vals, shows, List.any_cons, List.any_nil, unnamed, V.kill, V.names, C.names, S_names, R.names, List.set, List.replicate, ↓q_cond_t, ↓q_cond_f, if_true, if_false, reduceCtorEq, rvals, rvC, result, C_known, V.noL, C.noL, S_noL, R.noL, Option.map, true_and, and_true, ge_iff_le, gt_iff_lt, implies_true, q_ite_t, q_ite_f, beq_iff_eq, bne_iff_ne, q_ne, Nat.reduceAdd, Nat.reducePow, Int.reducePow, Nat.reduceMul, Nat.reduceSub, Nat.reduceLeDiff, Nat.reduceLT, Nat.reduceEqDiff, Int.reduceNeg, Int.reduceLT, Int.reduceLE, Int.reduceEq, Int.reduceNe, Int.reduceAdd, Int.reduceSub, Int.reduceMul, Int.reduceToNat, Int.reduceBEq, Int.reduceBNe, q_cast, Int.natCast_zero]
    · intro X q hq IH
      rcases Nat.lt_or_ge q vs.length with h1 | h1
      · obtain ⟨j, o, c, B, rfl, hj, hd, hle, hs⟩ := HL.at h1
        have hap : j ≠ b := hap
        obtain ⟨d1, d2, d3, d4⟩ := idx h1 (by omega)
        have c3 : (h.set b ⟨BK.rw, wc (m.lay i (vs.take q)).w, m.w.length⟩)[b]? = some ⟨BK.rw, wc (m.lay i (vs.take q)).w, m.w.length⟩ := set_hit H.hb
        have c4 : i + q + 1 ≤ (wc (m.lay i (vs.take q)).w).length := by rw [wc_len, M.lay_len]; omega
        have g := IsList.get hs h1 rfl
        have hv : u64 (nth 0 vs q) := hu _ (nth_mem h1)
        have c5 : ((wc (m.lay i (vs.take q)).w).set (i + q) (S.i .u64 (nth 0 vs q))) = wc (m.lay i (vs.take (q + 1))).w := by
          rw [wc_set, take_snoc h1, M.lay_snoc, show (vs.take q).length = q by simp; omega]; simp only [M.put, uw_of hv]
        have hjm : (h.set b ⟨BK.rw, wc (m.lay i (vs.take q)).w, m.w.length⟩)[j]? = some B := by rw [set_miss (Ne.symm hap)]; exact hj
        have ha := H.ha'
        have w1 : IntKind.i64.wrap ((i : Int) + q) = ((i + q : Nat) : Int) := by rw [wrap64] <;> omega
        have d5 : ((i + q : Nat) : Int) < m.w.length := by omega
        have d6 : (0 : Int) ≤ ((i + q : Nat) : Int) := by omega
        refine run_sound (Tab.ok_Γ _) 100 _ _ _ _ ?_
        simp (config := { maxSteps := 10000000 }) only [EV1, EV2, EV3, EV4, EV5, EV6, addT, istep, lenR_sl, lenR_ns, lenR_es, pickR, putD, bin1R, un1R, slcR, bnd, capsOf, fillP, S_plain, V_plain, V.cells, S_known, V_known, C.v, blk, setL, setH, eqS, eq1, cmpS, cmp1, isNil, popTo, killT, setT, leT, V.below, C.below, S_below, R.below, V.val, C.val, S_val, R.val, R.takes, vals, shows, List.any_cons, List.any_nil, unnamed, V.kill, V.names, C.names, S_names, R.names, List.set, List.replicate, ↓q_cond_t, ↓q_cond_f, if_true, if_false, reduceCtorEq, rvals, rvC, result, C_known, V.noL, C.noL, S_noL, R.noL, Option.map, true_and, and_true, ge_iff_le, gt_iff_lt, implies_true, q_ite_t, q_ite_f, beq_iff_eq, bne_iff_ne, q_ne, Nat.reduceAdd, Nat.reducePow, Int.reducePow, Nat.reduceMul, Nat.reduceSub, Nat.reduceLeDiff, Nat.reduceLT, Nat.reduceEqDiff, Int.reduceNeg, Int.reduceLT, Int.reduceLE, Int.reduceEq, Int.reduceNe, Int.reduceAdd, Int.reduceSub, Int.reduceMul, Int.reduceToNat, Int.reduceBEq, Int.reduceBNe, d1, d2, d3, d4, d5, d6, w1, c3, ha, MB, hjm, hd, g, c4, Int.toNat_natCast, put, c5, List.set_set]
        exact IH (q + 1) _ (by omega) (by omega) (Wk.same rfl rfl (by simp (config := { maxSteps := 10000000 }) only [EV1, EV2, EV3, EV4, EV5, EV6, addT, istep, lenR_sl, lenR_ns, lenR_es, pickR, putD, bin1R, un1R, slcR, bnd, capsOf, fillP, S_plain, V_plain, V.cells, S_known, V_known, C.v, blk, setL, setH, eqS, eq1, cmpS, cmp1, isNil, popTo, killT, setT, leT, V.below, C.below, S_below, R.below, V.val, C.val, S_val, R.val, R.takes, vals, shows, List.any_cons, List.any_nil, unnamed, V.kill, V.names, C.names, S_names, R.names, List.set, List.replicate, ↓q_cond_t, ↓q_cond_f, if_true, if_false, reduceCtorEq, rvals, rvC, result, C_known, V.noL, C.noL, S_noL, R.noL, Option.map, true_and, and_true, ge_iff_le, gt_iff_lt, implies_true, q_ite_t, q_ite_f, beq_iff_eq, bne_iff_ne, q_ne, Nat.reduceAdd, Nat.reducePow, Int.reducePow, Nat.reduceMul, Nat.reduceSub, Nat.reduceLeDiff, Nat.reduceLT, Nat.reduceEqDiff, Int.reduceNeg, Int.reduceLT, Int.reduceLE, Int.reduceEq, Int.reduceNe, Int.reduceAdd, Int.reduceSub, Int.reduceMul, Int.reduceToNat, Int.reduceBEq, Int.reduceBNe]))
      · have : q = vs.length := by omega
        subst this
        refine run_sound (Tab.ok_Γ _) 100 _ _ _ _ ?_
        simp (config := { maxSteps := 10000000 }) only [EV1, EV2, EV3, EV4, EV5, EV6, addT, istep, lenR_sl, lenR_ns, lenR_es, pickR, putD, bin1R, un1R, slcR, bnd, capsOf, fillP, S_plain, V_plain, V.cells, S_known, V_known, C.v, blk, setL, setH, eqS, eq1, cmpS, cmp1, isNil, popTo, killT, setT, leT, V.below, C.below, S_below, R.below, V.val, C.val, S_val, R.val, R.takes, vals, shows, List.any_cons, List.any_nil, unnamed, V.kill, V.names, C.names, S_names, R.names, List.set, List.replicate, ↓q_cond_t, ↓q_cond_f, if_true, if_false, reduceCtorEq, rvals, rvC, result, C_known, V.noL, C.noL, S_noL, R.noL, Option.map, true_and, and_true, ge_iff_le, gt_iff_lt, implies_true, q_ite_t, q_ite_f, beq_iff_eq, bne_iff_ne, q_ne, Nat.reduceAdd, Nat.reducePow, Int.reducePow, Nat.reduceMul, Nat.reduceSub, Nat.reduceLeDiff, Nat.reduceLT, Nat.reduceEqDiff, Int.reduceNeg, Int.reduceLT, Int.reduceLE, Int.reduceEq, Int.reduceNe, Int.reduceAdd, Int.reduceSub, Int.reduceMul, Int.reduceToNat, Int.reduceBEq, Int.reduceBNe, ↓hlen, Int.lt_irrefl]
        refine cast (congrArg (K _) ?_) hS
        rw [List.take_length, ← setM_words H (M.lay_len vs m i) (M.lay_n vs m i)]
        simp only [MW, M.lay_len]
  | false =>
    have hS := q2 hh
    simp (config := { maxSteps := 10000000 }) only [EV1, EV2, EV3, EV4, EV5, EV6, addT, istep, lenR_sl, lenR_ns, lenR_es, pickR, putD, bin1R, un1R, slcR, bnd, capsOf, fillP, S_plain, V_plain, V.cells, S_known, V_known, C.v, blk, setL, setH, eqS, eq1, cmpS, cmp1, isNil, popTo, killT, setT, leT, V.below, C.below, S_below, R.below, V.val, C.val, S_val, R.val, R.takes, vals, shows, List.any_cons, List.any_nil, unnamed, V.kill, V.names, C.names, S_names, R.names, List.set, List.replicate, ↓q_cond_t, ↓q_cond_f, if_true, if_false, reduceCtorEq, rvals, rvC, result, C_known, V.noL, C.noL, S_noL, R.noL, Option.map, true_and, and_true, ge_iff_le, gt_iff_lt, implies_true, q_ite_t, q_ite_f, beq_iff_eq, bne_iff_ne, q_ne, Nat.reduceAdd, Nat.reducePow, Int.reducePow, Nat.reduceMul, Nat.reduceSub, Nat.reduceLeDiff, Nat.reduceLT, Nat.reduceEqDiff, Int.reduceNeg, Int.reduceLT, Int.reduceLE, Int.reduceEq, Int.reduceNe, Int.reduceAdd, Int.reduceSub, Int.reduceMul, Int.reduceToNat, Int.reduceBEq, Int.reduceBNe, df65, ↓hlen, TSp, thereG, memF_eq H, thereM, setM_self H, hh]
    exact hS

noncomputable def sameWG : List V → List Blk → Res
  | [.s x, .s y], h => match listOf h x, listOf h y with
    | some v, some w => .ob (v.length ≤ 8796093022208 ∧ w.length ≤ 8796093022208) (.ok (.s (.b (decide (v = w)))) [] h)
    | _, _ => .bad
  | _, _ => .bad
theorem sameWG_spec {args : List V} {h : List Blk} {K : V → List Blk → Prop} (hS : (sameWG args h).spec K) : ∃ x y v w, args = [.s x, .s y] ∧ IsList h x v ∧ IsList h y w ∧ v.length ≤ 8796093022208 ∧ w.length ≤ 8796093022208 ∧ K (.s (.b (decide (v = w)))) h := by
  unfold sameWG at hS
  split at hS
  · split at hS
    · rename_i e1 e2
      exact ⟨_, _, _, _, rfl, listOf_some e1, listOf_some e2, hS.1.1, hS.1.2, hS.2⟩
    · exact hS.elim
  · exact hS.elim
theorem nil_of {v : List Int} (h : v.length = 0) : v = [] := List.eq_nil_of_length_eq_zero h
theorem take_ne {v w : List Int} {q : Nat} (h : q < v.length) (h' : q < w.length) (e : ¬ nth 0 v q = nth 0 w q) : v ≠ w := fun x => by subst x; exact e rfl
theorem eq_of_nth {v w : List Int} (hl : v.length = w.length) (h : ∀ i, i < v.length → nth 0 v i = nth 0 w i) : v = w :=
  List.ext_getElem hl fun i h1 h2 => by have := h i h1; rwa [nth_eq h1, nth_eq h2] at this
theorem sameW_snd : Snd Try.prog 31 (FSpec.of sameWG) := snd_run (noT_snd _) mixed Try.func31 dc31 100 fun args h K hc hS => by
  obtain ⟨x, y, v, w, rfl, Hx, Hy, lx, ly, hK⟩ := sameWG_spec hS
  clear hS
  have hlx := fun ls h' => Hx.sl.len (ls := ls) (h := h')
  have hly := fun ls h' => Hy.sl.len (ls := ls) (h := h')
  by_cases hn : v.length = w.length
  · have e2 : ((v.length : Int) != (w.length : Int)) = false := by rw [hn]; simp
    simp (config := { maxSteps := 10000000 }) only [EV1, EV2, EV3, EV4, EV5, EV6, addT, istep, lenR_sl, lenR_ns, lenR_es, pickR, putD, bin1R, un1R, slcR, bnd, capsOf, fillP, S_plain, V_plain, V.cells, S_known, V_known, C.v, blk, setL, setH, eqS, eq1, cmpS, cmp1, isNil, popTo, killT, setT, leT, V.below, C.below, S_below, R.below, V.val, C.val, S_val, R.val, R.takes, vals, shows, List.any_cons, List.any_nil, unnamed, V.kill, V.names, C.names, S_names, R.names, List.set, List.replicate, ↓q_cond_t, ↓q_cond_f, if_true, if_false, reduceCtorEq, rvals, rvC, result, C_known, V.noL, C.noL, S_noL, R.noL, Option.map, true_and, and_true, ge_iff_le, gt_iff_lt, implies_true, q_ite_t, q_ite_f, beq_iff_eq, bne_iff_ne, q_ne, Nat.reduceAdd, Nat.reducePow, Int.reducePow, Nat.reduceMul, Nat.reduceSub, Nat.reduceLeDiff, Nat.reduceLT, Nat.reduceEqDiff, Int.reduceNeg, Int.reduceLT, Int.reduceLE, Int.reduceEq, Int.reduceNe, Int.reduceAdd, Int.reduceSub, Int.reduceMul, Int.reduceToNat, Int.reduceBEq, Int.reduceBNe, df31, ↓hlx, ↓hly, e2]
    refine loop_rule (α := Nat) [4, 5, 11, 12, 13, 14, 15, 16, 17, 18, 19, 20, 21, 22, 23, 24, 25] (fun q => [(5, .s (.i .i64 q))]) (fun _ => []) (fun q => h) (fun q => q ≤ v.length ∧ ∀ i, i < q → nth 0 v i = nth 0 w i) (fun q => v.length - q) 0 ⟨by omega, fun i hi => by omega⟩ ?_ ?_
    · refine Wk.less ?_
      simp (config := { maxSteps := 10000000 }) only [EV1, EV2, EV3, EV4, EV5, EV6, addT, istep, lenR_sl, lenR_ns, lenR_es, pickR, putD, bin1R, un1R, slcR, bnd, capsOf, fillP, S_plain, V_plain, V.cells, S_known, V_known, C.v, blk, setL, setH, eqS, eq1, cmpS, cmp1, isNil, popTo, killT, setT, leT, V.below, C.below, S_below, R.below, V.val, C.val, S_val, R.val, R.takes, vals, shows, List.any_cons, List.any_nil, unnamed, V.kill, V.names, C.names, S_names, R.names, List.set, List.replicate, ↓q_cond_t, ↓q_cond_f, if_true, if_false, reduceCtorEq, rvals, rvC, result, C_known, V.noL, C.noL, S_noL, R.noL, Option.map, true_and, and_true, ge_iff_le, gt_iff_lt, implies_true, q_ite_t, q_ite_f, beq_iff_eq, bne_iff_ne, q_ne, Nat.reduceAdd, Nat.reducePow, Int.reducePow, Nat.reduceMul, Nat.reduceSub, Nat.reduceLeDiff, Nat.reduceLT, Nat.reduceEqDiff, Int.reduceNeg, Int.reduceLT, Int.reduceLE, Int.reduceEq, Int.reduceNe, Int.reduceAdd, Int.reduceSub, Int.reduceMul, Int.reduceToNat, Int.reduceBEq, Int.reduceBNe, q_cast, Int.natCast_zero]
    · rintro X q ⟨hq, hpre⟩ IH
      rcases Nat.lt_or_ge q v.length with h1 | h1
      · obtain ⟨j, o, c, B, rfl, hj, hd, hle, hs⟩ := Hx.at h1
        obtain ⟨j2, o2, c2, B2, rfl, hj2, hd2, hle2, hs2⟩ := Hy.at (i := q) (by omega)
        obtain ⟨d1, d2, d3, d4⟩ := idx h1 (by omega)
        have d5 : (q : Int) < w.length := by omega
        have g1 := IsList.get hs h1 rfl
        have g2 := IsList.get hs2 (i := q) (by omega) rfl
        by_cases hx : nth 0 v q = nth 0 w q
        · have f1 : (nth 0 v q != nth 0 w q) = false := by simpa using hx
          refine run_sound (Tab.ok_Γ _) 100 _ _ _ _ ?_
          simp (config := { maxSteps := 10000000 }) only [EV1, EV2, EV3, EV4, EV5, EV6, addT, istep, lenR_sl, lenR_ns, lenR_es, pickR, putD, bin1R, un1R, slcR, bnd, capsOf, fillP, S_plain, V_plain, V.cells, S_known, V_known, C.v, blk, setL, setH, eqS, eq1, cmpS, cmp1, isNil, popTo, killT, setT, leT, V.below, C.below, S_below, R.below, V.val, C.val, S_val, R.val, R.takes, vals, shows, List.any_cons, List.any_nil, unnamed, V.kill, V.names, C.names, S_names, R.names, List.set, List.replicate, ↓q_cond_t, ↓q_cond_f, if_true, if_false, reduceCtorEq, rvals, rvC, result, C_known, V.noL, C.noL, S_noL, R.noL, Option.map, true_and, and_true, ge_iff_le, gt_iff_lt, implies_true, q_ite_t, q_ite_f, beq_iff_eq, bne_iff_ne, q_ne, Nat.reduceAdd, Nat.reducePow, Int.reducePow, Nat.reduceMul, Nat.reduceSub, Nat.reduceLeDiff, Nat.reduceLT, Nat.reduceEqDiff, Int.reduceNeg, Int.reduceLT, Int.reduceLE, Int.reduceEq, Int.reduceNe, Int.reduceAdd, Int.reduceSub, Int.reduceMul, Int.reduceToNat, Int.reduceBEq, Int.reduceBNe, d1, d2, d3, d4, d5, g1, g2, hj, hj2, hd, hd2, f1, hx, Int.toNat_natCast]
          exact IH (q + 1) _ (by omega) ⟨by omega, fun i hi => by
            rcases Nat.lt_or_ge i q with h2 | h2
            · exact hpre i h2
            · have : i = q := by omega
              subst this; exact hx⟩ (Wk.same rfl rfl (by simp (config := { maxSteps := 10000000 }) only [EV1, EV2, EV3, EV4, EV5, EV6, addT, istep, lenR_sl, lenR_ns, lenR_es, pickR, putD, bin1R, un1R, slcR, bnd, capsOf, fillP, S_plain, V_plain, V.cells, S_known, V_known, C.v, blk, setL, setH, eqS, eq1, cmpS, cmp1, isNil, popTo, killT, setT, leT, V.below, C.below, S_below, R.below, V.val, C.val, S_val, R.val, R.takes, vals, shows, List.any_cons, List.any_nil, unnamed, V.kill, V.names, C.names, S_names, R.names, List.set, List.replicate, ↓q_cond_t, ↓q_cond_f, if_true, if_false, reduceCtorEq, rvals, rvC, result, C_known, V.noL, C.noL, S_noL, R.noL, Option.map, true_and, and_true, ge_iff_le, gt_iff_lt, implies_true, q_ite_t, q_ite_f, beq_iff_eq, bne_iff_ne, q_ne, Nat.reduceAdd, Nat.reducePow, Int.reducePow, Nat.reduceMul, Nat.reduceSub, Nat.reduceLeDiff, Nat.reduceLT, Nat.reduceEqDiff, Int.reduceNeg, Int.reduceLT, Int.reduceLE, Int.reduceEq, Int.reduceNe, Int.reduceAdd, Int.reduceSub, Int.reduceMul, Int.reduceToNat, Int.reduceBEq, Int.reduceBNe]))
        · have f1 : (nth 0 v q != nth 0 w q) = true := by simpa using hx
          have e1 := take_ne h1 (by omega) hx
          simp only [e1, decide_false] at hK
          refine run_sound (Tab.ok_Γ _) 100 _ _ _ _ ?_
          simp (config := { maxSteps := 10000000 }) only [EV1, EV2, EV3, EV4, EV5, EV6, addT, istep, lenR_sl, lenR_ns, lenR_es, pickR, putD, bin1R, un1R, slcR, bnd, capsOf, fillP, S_plain, V_plain, V.cells, S_known, V_known, C.v, blk, setL, setH, eqS, eq1, cmpS, cmp1, isNil, popTo, killT, setT, leT, V.below, C.below, S_below, R.below, V.val, C.val, S_val, R.val, R.takes, vals, shows, List.any_cons, List.any_nil, unnamed, V.kill, V.names, C.names, S_names, R.names, List.set, List.replicate, ↓q_cond_t, ↓q_cond_f, if_true, if_false, reduceCtorEq, rvals, rvC, result, C_known, V.noL, C.noL, S_noL, R.noL, Option.map, true_and, and_true, ge_iff_le, gt_iff_lt, implies_true, q_ite_t, q_ite_f, beq_iff_eq, bne_iff_ne, q_ne, Nat.reduceAdd, Nat.reducePow, Int.reducePow, Nat.reduceMul, Nat.reduceSub, Nat.reduceLeDiff, Nat.reduceLT, Nat.reduceEqDiff, Int.reduceNeg, Int.reduceLT, Int.reduceLE, Int.reduceEq, Int.reduceNe, Int.reduceAdd, Int.reduceSub, Int.reduceMul, Int.reduceToNat, Int.reduceBEq, Int.reduceBNe, d1, d2, d3, d4, d5, g1, g2, hj, hj2, hd, hd2, f1, hx, Int.toNat_natCast]
          exact hK
      · have : q = v.length := by omega
        subst this
        have e1 := eq_of_nth hn hpre
        simp only [e1, decide_true] at hK
        refine run_sound (Tab.ok_Γ _) 100 _ _ _ _ ?_
        simp (config := { maxSteps := 10000000 }) only [EV1, EV2, EV3, EV4, EV5, EV6, addT, istep, lenR_sl, lenR_ns, lenR_es, pickR, putD, bin1R, un1R, slcR, bnd, capsOf, fillP, S_plain, V_plain, V.cells, S_known, V_known, C.v, blk, setL, setH, eqS, eq1, cmpS, cmp1, isNil, popTo, killT, setT, leT, V.below, C.below, S_below, R.below, V.val, C.val, S_val, R.val, R.takes, vals, shows, List.any_cons, List.any_nil, unnamed, V.kill, V.names, C.names, S_names, R.names, List.set, List.replicate, ↓q_cond_t, ↓q_cond_f, if_true, if_false, reduceCtorEq, rvals, rvC, result, C_known, V.noL, C.noL, S_noL, R.noL, Option.map, true_and, and_true, ge_iff_le, gt_iff_lt, implies_true, q_ite_t, q_ite_f, beq_iff_eq, bne_iff_ne, q_ne, Nat.reduceAdd, Nat.reducePow, Int.reducePow, Nat.reduceMul, Nat.reduceSub, Nat.reduceLeDiff, Nat.reduceLT, Nat.reduceEqDiff, Int.reduceNeg, Int.reduceLT, Int.reduceLE, Int.reduceEq, Int.reduceNe, Int.reduceAdd, Int.reduceSub, Int.reduceMul, Int.reduceToNat, Int.reduceBEq, Int.reduceBNe, ↓hlx, Int.lt_irrefl]
        exact hK
  · have e1 : ¬ (v = w) := fun e => hn (by rw [e])
    have e2 : ((v.length : Int) != (w.length : Int)) = true := by rw [bne_iff_ne]; omega
    have e3 : ¬ ((v.length : Int) = (w.length : Int)) := by omega
    simp only [e1, decide_false] at hK
    simp (config := { maxSteps := 10000000 }) only [EV1, EV2, EV3, EV4, EV5, EV6, addT, istep, lenR_sl, lenR_ns, lenR_es, pickR, putD, bin1R, un1R, slcR, bnd, capsOf, fillP, S_plain, V_plain, V.cells, S_known, V_known, C.v, blk, setL, setH, eqS, eq1, cmpS, cmp1, isNil, popTo, killT, setT, leT, V.below, C.below, S_below, R.below, V.val, C.val, S_val, R.val, R.takes, vals, shows, List.any_cons, List.any_nil, unnamed, V.kill, V.names, C.names, S_names, R.names, List.set, List.replicate, ↓q_cond_t, ↓q_cond_f, if_true, if_false, reduceCtorEq, rvals, rvC, result, C_known, V.noL, C.noL, S_noL, R.noL, Option.map, true_and, and_true, ge_iff_le, gt_iff_lt, implies_true, q_ite_t, q_ite_f, beq_iff_eq, bne_iff_ne, q_ne, Nat.reduceAdd, Nat.reducePow, Int.reducePow, Nat.reduceMul, Nat.reduceSub, Nat.reduceLeDiff, Nat.reduceLT, Nat.reduceEqDiff, Int.reduceNeg, Int.reduceLT, Int.reduceLE, Int.reduceEq, Int.reduceNe, Int.reduceAdd, Int.reduceSub, Int.reduceMul, Int.reduceToNat, Int.reduceBEq, Int.reduceBNe, df31, ↓hlx, ↓hly, e2, e3]
    exact hK
end Go.Proofs.Yteeeidldknlblaa

/- The machine's memory: Copy; the document's Fill, Copy, Dump. -/
namespace Go.Proofs.Yteeeidldknlblaa
open Go.D
set_option linter.all false
set_option maxRecDepth 100000
set_option maxHeartbeats 4000000

/-- A part of the words. -/
def M.part (m : M) (x k : Nat) : List Int := (m.w.drop x).take k
theorem M.part_len {m : M} {x k : Nat} (h : x + k ≤ m.w.length) : (m.part x k).length = k := by simp [M.part]; omega
theorem M.part_u {m : M} {x k : Nat} : ∀ v, v ∈ m.part x k → u64 v := fun v hv => m.u v (List.mem_of_mem_drop (List.mem_of_mem_take hv))
theorem nth_part {m : M} {x k i : Nat} (h : i < k) : nth 0 (m.part x k) i = nth 0 m.w (x + i) := by
  unfold M.part
  generalize m.w = l
  induction x generalizing l with
  | zero =>
    simp only [List.drop_zero, Nat.zero_add]
    induction k generalizing l i with
    | zero => omega
    | succ k ih =>
      cases l with
      | nil => rfl
      | cons x l =>
        cases i with
        | zero => rfl
        | succ i => exact ih (l := l) (by omega)
  | succ a ih =>
    cases l with
    | nil => simp [nth]
    | cons x l =>
      rw [List.drop_succ_cons, ih, show a + 1 + i = (a + i) + 1 by omega]; rfl
def M.copy (m : M) (x y k : Nat) : M := (m.lay y (m.part x k)).tick (2 * k)
def copyM (b : Nat) (m : M) (st : M → List Blk) : List V → Res
  | [.s (.i .i64 x), .s (.i .i64 y), .s (.i .i64 k)] => .br (m.has x k && m.has y k) (.ok (.s (.i .i64 0)) [] (st (m.copy x.toNat y.toNat k.toNat))) (.ok (.s (.i .i64 20)) [] (st m))
  | _ => .bad
noncomputable def copyG := memF copyM
theorem mcopy_snd : Snd Try.prog 28 (FSpec.of copyG) := snd_run TSp_snd mixed Try.func28 dc28 100 fun args h K hc hS => by
  obtain ⟨a, b, m, rest, rfl, H, hS1⟩ := memF_spec hS
  clear hS
  have hS := hS1
  clear hS1
  unfold copyM at hS
  split at hS
  · rename_i x y k
    simp only [spec_ok, spec_br, setM_self H] at hS
    have hl := m.l
    cases hx : m.has x k with
    | false =>
      have hS := hS.2 (by rw [hx]; rfl)
      cases hy : m.has y k <;> simp (config := { maxSteps := 10000000 }) only [EV1, EV2, EV3, EV4, EV5, EV6, addT, istep, lenR_sl, lenR_ns, lenR_es, pickR, putD, bin1R, un1R, slcR, bnd, capsOf, fillP, S_plain, V_plain, V.cells, S_known, V_known, C.v, blk, setL, setH, eqS, eq1, cmpS, cmp1, isNil, popTo, killT, setT, leT, V.below, C.below, S_below, R.below, V.val, C.val, S_val, R.val, R.takes, vals, shows, List.any_cons, List.any_nil, unnamed, V.kill, V.names, C.names, S_names, R.names, List.set, List.replicate, ↓q_cond_t, ↓q_cond_f, if_true, if_false, reduceCtorEq, rvals, rvC, result, C_known, V.noL, C.noL, S_noL, R.noL, Option.map, true_and, and_true, ge_iff_le, gt_iff_lt, implies_true, q_ite_t, q_ite_f, beq_iff_eq, bne_iff_ne, q_ne, Nat.reduceAdd, Nat.reducePow, Int.reducePow, Nat.reduceMul, Nat.reduceSub, Nat.reduceLeDiff, Nat.reduceLT, Nat.reduceEqDiff, Int.reduceNeg, Int.reduceLT, Int.reduceLE, Int.reduceEq, Int.reduceNe, Int.reduceAdd, Int.reduceSub, Int.reduceMul, Int.reduceToNat, Int.reduceBEq, Int.reduceBNe, df28, TSp, spanG, memF_eq H, spanM, setM_self H, hx, hy]
      all_goals exact hS
    | true =>
      cases hy : m.has y k with
      | false =>
        have hS := hS.2 (by rw [hx, hy]; rfl)
        simp (config := { maxSteps := 10000000 }) only [EV1, EV2, EV3, EV4, EV5, EV6, addT, istep, lenR_sl, lenR_ns, lenR_es, pickR, putD, bin1R, un1R, slcR, bnd, capsOf, fillP, S_plain, V_plain, V.cells, S_known, V_known, C.v, blk, setL, setH, eqS, eq1, cmpS, cmp1, isNil, popTo, killT, setT, leT, V.below, C.below, S_below, R.below, V.val, C.val, S_val, R.val, R.takes, vals, shows, List.any_cons, List.any_nil, unnamed, V.kill, V.names, C.names, S_names, R.names, List.set, List.replicate, ↓q_cond_t, ↓q_cond_f, if_true, if_false, reduceCtorEq, rvals, rvC, result, C_known, V.noL, C.noL, S_noL, R.noL, Option.map, true_and, and_true, ge_iff_le, gt_iff_lt, implies_true, q_ite_t, q_ite_f, beq_iff_eq, bne_iff_ne, q_ne, Nat.reduceAdd, Nat.reducePow, Int.reducePow, Nat.reduceMul, Nat.reduceSub, Nat.reduceLeDiff, Nat.reduceLT, Nat.reduceEqDiff, Int.reduceNeg, Int.reduceLT, Int.reduceLE, Int.reduceEq, Int.reduceNe, Int.reduceAdd, Int.reduceSub, Int.reduceMul, Int.reduceToNat, Int.reduceBEq, Int.reduceBNe, df28, TSp, spanG, memF_eq H, spanM, setM_self H, hx, hy]
        exact hS
      | true =>
        have hS := hS.1 (by rw [hx, hy]; rfl)
        obtain ⟨i, n, rfl, rfl, hin⟩ := M.has_nat hx
        obtain ⟨j, n', rfl, e, hjn⟩ := M.has_nat hy
        have e : n = n' := by omega
        subst e
        simp only [Int.toNat_natCast] at hS
        obtain ⟨o, ho, hoi⟩ : ∃ o : Nat, (if m.w.length = i then 0 else i) = o ∧ (i < m.w.length → o = i) := ⟨_, rfl, fun hlt => if_neg (by omega)⟩
        obtain ⟨p, hp, hpj⟩ : ∃ p : Nat, (if m.w.length = j then 0 else j) = p ∧ (j < m.w.length → p = j) := ⟨_, rfl, fun hlt => if_neg (by omega)⟩
        have ho2 : o + n ≤ m.w.length := by rw [← ho]; split <;> omega
        have hp2 : p + n ≤ m.w.length := by rw [← hp]; split <;> omega
        have hcl : (wc m.w).length = m.w.length := wc_len _
        have c5 : ¬ (wc m.w).length < o + n := by omega
        have c6 : ¬ m.w.length < o + n := by omega
        have hpart : sub (wc m.w) o n = wc (m.part i n) := by
          rcases Nat.eq_zero_or_pos n with h0 | h0
          · subst h0; simp [sub, M.part, wc]
          · rw [hoi (by omega), wc_sub]; rfl
        have hpl := M.part_len hin
        have hsub : sub (wc (m.part i n)) 0 n = wc (m.part i n) := by
          rw [wc_sub, List.drop_zero, List.take_of_length_le (by omega)]
        have hmin : min n n = n := Nat.min_self _
        have hlay : D.put (wc m.w) p (wc (m.part i n)) = wc (m.lay j (m.part i n)).w := by
          rcases Nat.eq_zero_or_pos n with h0 | h0
          · have : m.part i n = [] := List.eq_nil_of_length_eq_zero (by omega)
            rw [this]; rfl
          · rw [hpj (by omega)]; exact M.lay_w _ m j M.part_u
        have w1 : IntKind.i64.wrap (2 * (n : Int)) = 2 * (n : Int) := wrap64 (by omega) (by omega)
        have hpu : (wc (m.part i n)).all (S.val h.length 0) = true := wc_val _ _ _
        simp (config := { maxSteps := 10000000 }) only [EV1, EV2, EV3, EV4, EV5, EV6, addT, istep, lenR_sl, lenR_ns, lenR_es, pickR, putD, bin1R, un1R, slcR, bnd, capsOf, fillP, S_plain, V_plain, V.cells, S_known, V_known, C.v, blk, setL, setH, eqS, eq1, cmpS, cmp1, isNil, popTo, killT, setT, leT, V.below, C.below, S_below, R.below, V.val, C.val, S_val, R.val, R.takes, vals, shows, List.any_cons, List.any_nil, unnamed, V.kill, V.names, C.names, S_names, R.names, List.set, List.replicate, ↓q_cond_t, ↓q_cond_f, if_true, if_false, reduceCtorEq, rvals, rvC, result, C_known, V.noL, C.noL, S_noL, R.noL, Option.map, true_and, and_true, ge_iff_le, gt_iff_lt, implies_true, q_ite_t, q_ite_f, beq_iff_eq, bne_iff_ne, q_ne, Nat.reduceAdd, Nat.reducePow, Int.reducePow, Nat.reduceMul, Nat.reduceSub, Nat.reduceLeDiff, Nat.reduceLT, Nat.reduceEqDiff, Int.reduceNeg, Int.reduceLT, Int.reduceLE, Int.reduceEq, Int.reduceNe, Int.reduceAdd, Int.reduceSub, Int.reduceMul, Int.reduceToNat, Int.reduceBEq, Int.reduceBNe, df28, TSp, spanG, memF_eq H, spanM, setM_self H, hx, hy, H.ha, H.hb, H.ha', H.hb', MW, MB, hcl, ho, hp, c5, c6, hpart, hsub, hmin, hlay, wc_known, wc_takes, wc_all, w1, Int.toNat_natCast, put, ho2, hp2]
        refine cast (congrArg (K _) ?_) hS
        simp only [setM, MW, MB, M.copy, M.tick, M.lay_len, M.lay_n]
        try rw [List.set_comm _ _ H.ne]
  · exact hS.elim

theorem rfill_snd : Snd Try.prog 62 (FSpec.of fillG) := snd_run TSp_snd mixed Try.func62 dc62 100 fun args h K hc hS => by
  obtain ⟨a, b, m, rest, rfl, H, hS1⟩ := memF_spec hS
  clear hS
  have hS := hS1
  clear hS1
  unfold fillM at hS
  split at hS
  · rename_i x k v
    simp only [spec_ob, spec_ok, spec_br, setM_self H] at hS
    obtain ⟨hv, hS⟩ := hS
    cases hh : m.has x k with
    | true =>
      have hS := hS.1 hh
      obtain ⟨i, j, rfl, rfl, hij⟩ := M.has_nat hh
      simp only [Int.toNat_natCast] at hS
      have hl := m.l
      simp (config := { maxSteps := 10000000 }) only [EV1, EV2, EV3, EV4, EV5, EV6, addT, istep, lenR_sl, lenR_ns, lenR_es, pickR, putD, bin1R, un1R, slcR, bnd, capsOf, fillP, S_plain, V_plain, V.cells, S_known, V_known, C.v, blk, setL, setH, eqS, eq1, cmpS, cmp1, isNil, popTo, killT, setT, leT, V.below, C.below, S_below, R.below, V.val, C.val, S_val, R.val, R.takes, vals, shows, List.any_cons, List.any_nil, unnamed, V.kill, V.names, C.names, S_names, R.names, List.set, List.replicate, ↓q_cond_t, ↓q_cond_f, if_true, if_false, reduceCtorEq, rvals, rvC, result, C_known, V.noL, C.noL, S_noL, R.noL, Option.map, true_and, and_true, ge_iff_le, gt_iff_lt, implies_true, q_ite_t, q_ite_f, beq_iff_eq, bne_iff_ne, q_ne, Nat.reduceAdd, Nat.reducePow, Int.reducePow, Nat.reduceMul, Nat.reduceSub, Nat.reduceLeDiff, Nat.reduceLT, Nat.reduceEqDiff, Int.reduceNeg, Int.reduceLT, Int.reduceLE, Int.reduceEq, Int.reduceNe, Int.reduceAdd, Int.reduceSub, Int.reduceMul, Int.reduceToNat, Int.reduceBEq, Int.reduceBNe, df62, TSp, thereG, memF_eq H, thereM, setM_self H, hh, Int.toNat_natCast]
      refine loop_rule (α := Nat) [10, 17, 18, 19, 20, 21, 22, 23, 24, 25, 26, 27, 28, 29, 30] (fun q => [(10, .s (.i .i64 q))]) (fun _ => []) (fun q => h.set b ⟨.rw, wc (m.fill i v q).w, m.w.length⟩) (fun q => q ≤ j) (fun q => j - q) 0 (by omega) ?_ ?_
      · simp only [M.fill]
        rw [show (⟨.rw, wc m.w, m.w.length⟩ : Blk) = MW m from rfl, set_self H.hb]
        refine Wk.less ?_
        simp (config := { maxSteps := 10000000 }) only [EV1, EV2, EV3, EV4, EV5, EV6, addT, istep, lenR_sl, lenR_ns, lenR_es, pickR, putD, bin1R, un1R, slcR, bnd, capsOf, fillP, S_plain, V_plain, V.cells, S_known, V_known, C.v, blk, setL, setH, eqS, eq1, cmpS, cmp1, isNil, popTo, killT, setT, leT, V.below, C.below, S_below, R.below, V.val, C.val, S_val, R.val, R.takes, vals, shows, List.any_cons, List.any_nil, unnamed, V.kill, V.names, C.names, S_names, R.names, List.set, List.replicate, ↓q_cond_t, ↓q_cond_f, if_true, if_false, reduceCtorEq, rvals, rvC, result, C_known, V.noL, C.noL, S_noL, R.noL, Option.map, true_and, and_true, ge_iff_le, gt_iff_lt, implies_true, q_ite_t, q_ite_f, beq_iff_eq, bne_iff_ne, q_ne, Nat.reduceAdd, Nat.reducePow, Int.reducePow, Nat.reduceMul, Nat.reduceSub, Nat.reduceLeDiff, Nat.reduceLT, Nat.reduceEqDiff, Int.reduceNeg, Int.reduceLT, Int.reduceLE, Int.reduceEq, Int.reduceNe, Int.reduceAdd, Int.reduceSub, Int.reduceMul, Int.reduceToNat, Int.reduceBEq, Int.reduceBNe, q_cast, Int.natCast_zero]
      · rintro X q hq IH
        have ha := H.ha'
        rcases Nat.lt_or_ge q j with h1 | h1
        · obtain ⟨d1, d2, d3, d4⟩ := idx h1 (by omega)
          have c3 : (h.set b ⟨BK.rw, wc (m.fill i v q).w, m.w.length⟩)[b]? = some ⟨BK.rw, wc (m.fill i v q).w, m.w.length⟩ := set_hit H.hb
          have c4 : i + q + 1 ≤ (wc (m.fill i v q).w).length := by rw [wc_len, M.fill_len]; omega
          have c5 : ((wc (m.fill i v q).w).set (i + q) (S.i .u64 v)) = wc (m.fill i v (q + 1)).w := by rw [wc_set]; simp only [M.fill, M.put, uw_of hv]
          have w1 : IntKind.i64.wrap ((i : Int) + q) = ((i + q : Nat) : Int) := by rw [wrap64] <;> omega
          have d5 : ((i + q : Nat) : Int) < m.w.length := by omega
          have d6 : (0 : Int) ≤ ((i + q : Nat) : Int) := by omega
          refine run_sound (Tab.ok_Γ _) 100 _ _ _ _ ?_
          simp (config := { maxSteps := 10000000 }) only [EV1, EV2, EV3, EV4, EV5, EV6, addT, istep, lenR_sl, lenR_ns, lenR_es, pickR, putD, bin1R, un1R, slcR, bnd, capsOf, fillP, S_plain, V_plain, V.cells, S_known, V_known, C.v, blk, setL, setH, eqS, eq1, cmpS, cmp1, isNil, popTo, killT, setT, leT, V.below, C.below, S_below, R.below, V.val, C.val, S_val, R.val, R.takes, vals, shows, List.any_cons, List.any_nil, unnamed, V.kill, V.names, C.names, S_names, R.names, List.set, List.replicate, ↓q_cond_t, ↓q_cond_f, if_true, if_false, reduceCtorEq, rvals, rvC, result, C_known, V.noL, C.noL, S_noL, R.noL, Option.map, true_and, and_true, ge_iff_le, gt_iff_lt, implies_true, q_ite_t, q_ite_f, beq_iff_eq, bne_iff_ne, q_ne, Nat.reduceAdd, Nat.reducePow, Int.reducePow, Nat.reduceMul, Nat.reduceSub, Nat.reduceLeDiff, Nat.reduceLT, Nat.reduceEqDiff, Int.reduceNeg, Int.reduceLT, Int.reduceLE, Int.reduceEq, Int.reduceNe, Int.reduceAdd, Int.reduceSub, Int.reduceMul, Int.reduceToNat, Int.reduceBEq, Int.reduceBNe, d1, d2, d3, d4, d5, d6, w1, c3, ha, MB, MW, c4, Int.toNat_natCast, put, c5, List.set_set]
          exact IH (q + 1) _ (by omega) (by omega) (Wk.same rfl rfl (by simp (config := { maxSteps := 10000000 }) only [EV1, EV2, EV3, EV4, EV5, EV6, addT, istep, lenR_sl, lenR_ns, lenR_es, pickR, putD, bin1R, un1R, slcR, bnd, capsOf, fillP, S_plain, V_plain, V.cells, S_known, V_known, C.v, blk, setL, setH, eqS, eq1, cmpS, cmp1, isNil, popTo, killT, setT, leT, V.below, C.below, S_below, R.below, V.val, C.val, S_val, R.val, R.takes, vals, shows, List.any_cons, List.any_nil, unnamed, V.kill, V.names, C.names, S_names, R.names, List.set, List.replicate, ↓q_cond_t, ↓q_cond_f, if_true, if_false, reduceCtorEq, rvals, rvC, result, C_known, V.noL, C.noL, S_noL, R.noL, Option.map, true_and, and_true, ge_iff_le, gt_iff_lt, implies_true, q_ite_t, q_ite_f, beq_iff_eq, bne_iff_ne, q_ne, Nat.reduceAdd, Nat.reducePow, Int.reducePow, Nat.reduceMul, Nat.reduceSub, Nat.reduceLeDiff, Nat.reduceLT, Nat.reduceEqDiff, Int.reduceNeg, Int.reduceLT, Int.reduceLE, Int.reduceEq, Int.reduceNe, Int.reduceAdd, Int.reduceSub, Int.reduceMul, Int.reduceToNat, Int.reduceBEq, Int.reduceBNe]))
        · have : q = j := by omega
          subst this
          refine run_sound (Tab.ok_Γ _) 100 _ _ _ _ ?_
          simp (config := { maxSteps := 10000000 }) only [EV1, EV2, EV3, EV4, EV5, EV6, addT, istep, lenR_sl, lenR_ns, lenR_es, pickR, putD, bin1R, un1R, slcR, bnd, capsOf, fillP, S_plain, V_plain, V.cells, S_known, V_known, C.v, blk, setL, setH, eqS, eq1, cmpS, cmp1, isNil, popTo, killT, setT, leT, V.below, C.below, S_below, R.below, V.val, C.val, S_val, R.val, R.takes, vals, shows, List.any_cons, List.any_nil, unnamed, V.kill, V.names, C.names, S_names, R.names, List.set, List.replicate, ↓q_cond_t, ↓q_cond_f, if_true, if_false, reduceCtorEq, rvals, rvC, result, C_known, V.noL, C.noL, S_noL, R.noL, Option.map, true_and, and_true, ge_iff_le, gt_iff_lt, implies_true, q_ite_t, q_ite_f, beq_iff_eq, bne_iff_ne, q_ne, Nat.reduceAdd, Nat.reducePow, Int.reducePow, Nat.reduceMul, Nat.reduceSub, Nat.reduceLeDiff, Nat.reduceLT, Nat.reduceEqDiff, Int.reduceNeg, Int.reduceLT, Int.reduceLE, Int.reduceEq, Int.reduceNe, Int.reduceAdd, Int.reduceSub, Int.reduceMul, Int.reduceToNat, Int.reduceBEq, Int.reduceBNe, Int.lt_irrefl, ha, MB]
          refine cast (congrArg (K _) ?_) hS
          simp only [setM]
          rw [List.set_comm _ _ H.ne]
          simp only [MW, MB, M.tick, M.fill_len, M.fill_n]
    | false =>
      have hS := hS.2 hh
      simp (config := { maxSteps := 10000000 }) only [EV1, EV2, EV3, EV4, EV5, EV6, addT, istep, lenR_sl, lenR_ns, lenR_es, pickR, putD, bin1R, un1R, slcR, bnd, capsOf, fillP, S_plain, V_plain, V.cells, S_known, V_known, C.v, blk, setL, setH, eqS, eq1, cmpS, cmp1, isNil, popTo, killT, setT, leT, V.below, C.below, S_below, R.below, V.val, C.val, S_val, R.val, R.takes, vals, shows, List.any_cons, List.any_nil, unnamed, V.kill, V.names, C.names, S_names, R.names, List.set, List.replicate, ↓q_cond_t, ↓q_cond_f, if_true, if_false, reduceCtorEq, rvals, rvC, result, C_known, V.noL, C.noL, S_noL, R.noL, Option.map, true_and, and_true, ge_iff_le, gt_iff_lt, implies_true, q_ite_t, q_ite_f, beq_iff_eq, bne_iff_ne, q_ne, Nat.reduceAdd, Nat.reducePow, Int.reducePow, Nat.reduceMul, Nat.reduceSub, Nat.reduceLeDiff, Nat.reduceLT, Nat.reduceEqDiff, Int.reduceNeg, Int.reduceLT, Int.reduceLE, Int.reduceEq, Int.reduceNe, Int.reduceAdd, Int.reduceSub, Int.reduceMul, Int.reduceToNat, Int.reduceBEq, Int.reduceBNe, df62, TSp, thereG, memF_eq H, thereM, setM_self H, hh]
      exact hS
  · exact hS.elim
end Go.Proofs.Yteeeidldknlblaa

/- The machine's memory: plain facts of what is laid, filled, copied. -/
namespace Go.Proofs.Yteeeidldknlblaa
open Go.D
set_option linter.all false
set_option maxRecDepth 100000
set_option maxHeartbeats 4000000

theorem M.at_lay : ∀ (vs : List Int) (m : M) (o : Nat) (j : Int), (∀ v, v ∈ vs → u64 v) → (m.lay o vs).at j = if o ≤ j.toNat ∧ j.toNat < o + vs.length ∧ j.toNat < m.w.length then nth 0 vs (j.toNat - o) else m.at j
  | [], m, o, j, _ => by rw [M.lay, if_neg (by simp only [List.length_nil]; omega)]
  | v :: vs, m, o, j, hu => by
    rw [M.lay, M.at_lay vs (m.put o v) (o + 1) j (fun x hx => hu x (List.mem_cons_of_mem _ hx)), M.at_put, M.put_len, List.length_cons]
    by_cases h1 : o + 1 ≤ j.toNat ∧ j.toNat < o + 1 + vs.length ∧ j.toNat < m.w.length
    · rw [if_pos h1, if_pos (by omega), show j.toNat - o = (j.toNat - (o + 1)) + 1 by omega]; rfl
    · rw [if_neg h1]
      by_cases h2 : o = j.toNat ∧ o < m.w.length
      · rw [if_pos h2, if_pos (by omega), show j.toNat - o = 0 by omega]
        exact uw_of (hu v (by simp))
      · rw [if_neg h2, if_neg (by omega)]
theorem M.at_part {m : M} {x k i : Nat} (h : i < k) : nth 0 (m.part x k) i = m.at ((x + i : Nat) : Int) := by
  rw [nth_part h]; simp only [M.at, Int.toNat_natCast]
theorem M.at_copy (m : M) (x y k : Nat) (j : Int) (hx : x + k ≤ m.w.length) (hy : y + k ≤ m.w.length) : (m.copy x y k).at j = if y ≤ j.toNat ∧ j.toNat < y + k then m.at ((x + (j.toNat - y) : Nat) : Int) else m.at j := by
  rw [M.copy, M.at_tick, M.at_lay _ _ _ _ M.part_u, M.part_len hx]
  by_cases h : y ≤ j.toNat ∧ j.toNat < y + k
  · rw [if_pos (by omega), if_pos h, M.at_part (by omega)]
  · rw [if_neg (by omega), if_neg h]
theorem M.copy_len (m : M) (x y k : Nat) : (m.copy x y k).w.length = m.w.length := by rw [M.copy, M.tick_len, M.lay_len]
theorem M.copy_n (m : M) (x y k : Nat) : (m.copy x y k).n = IntKind.i64.wrap (m.n + 2 * (k : Int)) := by rw [M.copy]; simp only [M.tick, M.lay_n]
theorem M.fill_at (m : M) (a : Nat) (x : Int) (j : Int) (k : Nat) (h : a + k ≤ m.w.length) : (m.fill a x k).at j = if a ≤ j.toNat ∧ j.toNat < a + k then uw x else m.at j := by
  rw [M.at_fill]
  by_cases h1 : a ≤ j.toNat ∧ j.toNat < a + k
  · rw [if_pos (by omega), if_pos h1]
  · rw [if_neg (by omega), if_neg h1]
theorem M.tick_wrap (m : M) (j k : Int) : (m.tick j).n = IntKind.i64.wrap (m.n + j) := rfl
theorem wrap_add (a b c : Int) : IntKind.i64.wrap (IntKind.i64.wrap (a + b) + c) = IntKind.i64.wrap (a + (b + c)) := by
  rw [IntKind.wrap_i64, IntKind.wrap_i64, IntKind.wrap_i64]; omega
/-- Words alone. -/
theorem M.w_ext {m k : M} (hl : m.w.length = k.w.length) (h : ∀ i : Nat, i < m.w.length → m.at i = k.at i) : m.w = k.w := by
  refine List.ext_getElem hl fun i h1 h2 => ?_
  have := h i h1
  simp only [M.at, Int.toNat_natCast, nth_eq h1, nth_eq h2] at this
  exact this
/-- Halves. -/
theorem M.fill_halves {m : M} {a c k : Nat} {x : Int} (hk : c ≤ k) (h : a + k ≤ m.w.length) : ((((m.fill a x c).tick c).fill (a + c) x (k - c)).tick ((k - c : Nat) : Int)).w = ((m.fill a x k).tick k).w ∧ ((((m.fill a x c).tick c).fill (a + c) x (k - c)).tick ((k - c : Nat) : Int)).n = ((m.fill a x k).tick k).n := by
  refine ⟨M.w_ext (by simp only [M.tick_len, M.fill_len]) fun i hi => ?_, ?_⟩
  · simp only [M.tick_len, M.fill_len] at hi
    rw [M.at_tick, M.at_tick, M.fill_at _ _ _ _ _ (by rw [M.tick_len, M.fill_len]; omega), M.at_tick, M.fill_at _ _ _ _ _ (by omega), M.fill_at _ _ _ _ _ h]
    simp only [Int.toNat_natCast]
    by_cases h1 : a + c ≤ i ∧ i < a + c + (k - c)
    · rw [if_pos h1, if_pos (by omega)]
    · rw [if_neg h1]
      by_cases h2 : a ≤ i ∧ i < a + c
      · rw [if_pos h2, if_pos (by omega)]
      · rw [if_neg h2, if_neg (by omega)]
  · simp only [M.tick, M.fill_n]
    rw [wrap_add]
    congr 1; omega
theorem M.copy_halves {m : M} {x y c k : Nat} (hk : c ≤ k) (hx : x + k ≤ m.w.length) (hy : y + k ≤ m.w.length) (ha : y + k ≤ x ∨ x + k ≤ y) :
    ((m.copy x y c).copy (x + c) (y + c) (k - c)).w = (m.copy x y k).w ∧ ((m.copy x y c).copy (x + c) (y + c) (k - c)).n = (m.copy x y k).n := by
  refine ⟨M.w_ext (by simp only [M.copy_len]) fun i hi => ?_, ?_⟩
  · rw [M.at_copy _ _ _ _ _ (by rw [M.copy_len]; omega) (by rw [M.copy_len]; omega), M.at_copy _ _ _ _ _ (by omega) (by omega), M.at_copy _ _ _ _ _ (by omega) (by omega), M.at_copy _ _ _ _ _ hx hy]
    simp only [Int.toNat_natCast]
    by_cases h1 : y + c ≤ i ∧ i < y + c + (k - c)
    · rw [if_pos h1, if_neg (by omega), if_pos (by omega)]
      congr 2; omega
    · rw [if_neg h1]
      by_cases h2 : y ≤ i ∧ i < y + c
      · rw [if_pos h2, if_pos (by omega)]
      · rw [if_neg h2, if_neg (by omega)]
  · rw [M.copy_n, M.copy_n, M.copy_n, wrap_add]
    congr 1; omega

/-! ### the specs without choices -/
def M.copyE (m : M) (x y k : Int) : Int := if m.has x k && m.has y k then 0 else 20
def M.copyX (m : M) (x y k : Int) : M := if m.has x k && m.has y k then m.copy x.toNat y.toNat k.toNat else m
def M.fillE (m : M) (x k : Int) : Int := if m.has x k then 0 else 20
def M.fillX (m : M) (x k v : Int) : M := if m.has x k then (m.fill x.toNat v k.toNat).tick k else m
def M.readE (m : M) (x : Int) : Int := if m.has x 1 then 0 else 20
def M.readV (m : M) (x : Int) : Int := if m.has x 1 then m.at x else 0
def M.readX (m : M) (x : Int) : M := if m.has x 1 then m.tick 1 else m
def M.writeX (m : M) (x v : Int) : M := if m.has x 1 then (m.put x.toNat v).tick 1 else m
def copy2M (b : Nat) (m : M) (st : M → List Blk) : List V → Res
  | [.s (.i .i64 x), .s (.i .i64 y), .s (.i .i64 k)] => .ok (.s (.i .i64 (m.copyE x y k))) [] (st (m.copyX x y k))
  | _ => .bad
noncomputable def copy2G := memF copy2M
def fill2M (b : Nat) (m : M) (st : M → List Blk) : List V → Res
  | [.s (.i .i64 x), .s (.i .i64 k), .s (.i .u64 v)] => .ob (u64 v) (.ok (.s (.i .i64 (m.fillE x k))) [] (st (m.fillX x k v)))
  | _ => .bad
noncomputable def fill2G := memF fill2M
def read2M (b : Nat) (m : M) (st : M → List Blk) : List V → Res
  | [.s (.i .i64 x)] => .ok (.tup [.s (.i .u64 (m.readV x)), .s (.i .i64 (m.readE x))]) [] (st (m.readX x))
  | _ => .bad
noncomputable def read2G := memF read2M
def write2M (b : Nat) (m : M) (st : M → List Blk) : List V → Res
  | [.s (.i .i64 x), .s (.i .u64 v)] => .ob (u64 v) (.ok (.s (.i .i64 (m.readE x))) [] (st (m.writeX x v)))
  | _ => .bad
noncomputable def write2G := memF write2M
theorem copy2_snd : Snd Try.prog 28 (FSpec.of copy2G) := mcopy_snd.weaken fun args h K hc hS => by
  obtain ⟨a, b, m, rest, rfl, H, hS1⟩ := memF_spec hS
  unfold copy2M at hS1
  split at hS1
  · simp only [spec_ok, M.copyE, M.copyX] at hS1
    show Res.spec K (copyG _ h)
    rw [copyG, memF_eq H]
    simp only [copyM, spec_br, spec_ok]
    exact ⟨fun e => by simpa only [e, if_true] using hS1, fun e => by simpa only [e, Bool.false_eq_true, if_false] using hS1⟩
  · exact hS1.elim
theorem fill2_snd : Snd Try.prog 29 (FSpec.of fill2G) := mfill_snd.weaken fun args h K hc hS => by
  obtain ⟨a, b, m, rest, rfl, H, hS1⟩ := memF_spec hS
  unfold fill2M at hS1
  split at hS1
  · obtain ⟨hv, hS1⟩ := hS1
    simp only [spec_ok, M.fillE, M.fillX] at hS1
    show Res.spec K (fillG _ h)
    rw [fillG, memF_eq H]
    simp only [fillM, spec_ob, spec_br, spec_ok]
    exact ⟨hv, fun e => by simpa only [e, if_true] using hS1, fun e => by simpa only [e, Bool.false_eq_true, if_false] using hS1⟩
  · exact hS1.elim
theorem rfill2_snd : Snd Try.prog 62 (FSpec.of fill2G) := rfill_snd.weaken fun args h K hc hS => by
  obtain ⟨a, b, m, rest, rfl, H, hS1⟩ := memF_spec hS
  unfold fill2M at hS1
  split at hS1
  · obtain ⟨hv, hS1⟩ := hS1
    simp only [spec_ok, M.fillE, M.fillX] at hS1
    show Res.spec K (fillG _ h)
    rw [fillG, memF_eq H]
    simp only [fillM, spec_ob, spec_br, spec_ok]
    exact ⟨hv, fun e => by simpa only [e, if_true] using hS1, fun e => by simpa only [e, Bool.false_eq_true, if_false] using hS1⟩
  · exact hS1.elim
theorem read2_snd : Snd Try.prog 30 (FSpec.of read2G) := mread_snd.weaken fun args h K hc hS => by
  obtain ⟨a, b, m, rest, rfl, H, hS1⟩ := memF_spec hS
  unfold read2M at hS1
  split at hS1
  · simp only [spec_ok, M.readE, M.readX, M.readV] at hS1
    show Res.spec K (readG _ h)
    rw [readG, memF_eq H]
    simp only [readM, spec_br, spec_ok]
    exact ⟨fun e => by simpa only [e, if_true] using hS1, fun e => by simpa only [e, Bool.false_eq_true, if_false] using hS1⟩
  · exact hS1.elim
theorem rread2_snd : Snd Try.prog 44 (FSpec.of read2G) := rread_snd.weaken fun args h K hc hS => by
  obtain ⟨a, b, m, rest, rfl, H, hS1⟩ := memF_spec hS
  unfold read2M at hS1
  split at hS1
  · simp only [spec_ok, M.readE, M.readX, M.readV] at hS1
    show Res.spec K (readG _ h)
    rw [readG, memF_eq H]
    simp only [readM, spec_br, spec_ok]
    exact ⟨fun e => by simpa only [e, if_true] using hS1, fun e => by simpa only [e, Bool.false_eq_true, if_false] using hS1⟩
  · exact hS1.elim
theorem write2_snd : Snd Try.prog 24 (FSpec.of write2G) := mwrite_snd.weaken fun args h K hc hS => by
  obtain ⟨a, b, m, rest, rfl, H, hS1⟩ := memF_spec hS
  unfold write2M at hS1
  split at hS1
  · obtain ⟨hv, hS1⟩ := hS1
    simp only [spec_ok, M.readE, M.writeX] at hS1
    show Res.spec K (writeG _ h)
    rw [writeG, memF_eq H]
    simp only [writeM, spec_ob, spec_br, spec_ok]
    exact ⟨hv, fun e => by simpa only [e, if_true] using hS1, fun e => by simpa only [e, Bool.false_eq_true, if_false] using hS1⟩
  · exact hS1.elim
theorem rwrite2_snd : Snd Try.prog 61 (FSpec.of write2G) := rwrite_snd.weaken fun args h K hc hS => by
  obtain ⟨a, b, m, rest, rfl, H, hS1⟩ := memF_spec hS
  unfold write2M at hS1
  split at hS1
  · obtain ⟨hv, hS1⟩ := hS1
    simp only [spec_ok, M.readE, M.writeX] at hS1
    show Res.spec K (writeG _ h)
    rw [writeG, memF_eq H]
    simp only [writeM, spec_ob, spec_br, spec_ok]
    exact ⟨hv, fun e => by simpa only [e, if_true] using hS1, fun e => by simpa only [e, Bool.false_eq_true, if_false] using hS1⟩
  · exact hS1.elim
end Go.Proofs.Yteeeidldknlblaa

/- The machine's memory: the document's Copy and Dump. -/
namespace Go.Proofs.Yteeeidldknlblaa
open Go.D
set_option linter.all false
set_option maxRecDepth 100000
set_option maxHeartbeats 4000000

/-- So many words of a part, then noughts. -/
def M.pz (m : M) (x q k : Nat) : List Int := m.part x q ++ List.replicate (k - q) 0
theorem M.pz_len {m : M} {x q k : Nat} (h : x + k ≤ m.w.length) (hq : q ≤ k) : (m.pz x q k).length = k := by
  rw [M.pz, List.length_append, M.part_len (by omega), List.length_replicate]; omega
theorem M.pz_0 (m : M) (x k : Nat) : m.pz x 0 k = List.replicate k 0 := by simp [M.pz, M.part]
theorem M.pz_all (m : M) (x k : Nat) : m.pz x k k = m.part x k := by simp [M.pz]
theorem M.part_snoc {m : M} {x q : Nat} (h : x + q < m.w.length) : m.part x (q + 1) = m.part x q ++ [m.at ((x + q : Nat) : Int)] := by
  unfold M.part
  rw [List.take_succ_eq_append_getElem (by simp; omega)]
  simp only [List.getElem_drop, M.at, Int.toNat_natCast, nth_eq h]
theorem M.pz_set {m : M} {x q k : Nat} (h : x + k ≤ m.w.length) (hq : q < k) : (wc (m.pz x q k)).set q (.i .u64 (m.at ((x + q : Nat) : Int))) = wc (m.pz x (q + 1) k) := by
  rw [wc_set]
  congr 1
  unfold M.pz
  have hl := M.part_len (m := m) (x := x) (k := q) (by omega)
  rw [List.set_append_right _ _ (by omega), hl, Nat.sub_self, M.part_snoc (by omega), show k - q = (k - (q + 1)) + 1 by omega, List.replicate_succ, List.set_cons_zero]
  simp

theorem rcopy_snd : Snd Try.prog 63 (FSpec.of copyG) := snd_run TSp_snd mixed Try.func63 dc63 100 fun args h K hc hS => by
  obtain ⟨a, b, m, rest, rfl, H, hS1⟩ := memF_spec hS
  clear hS
  have hS := hS1
  clear hS1
  unfold copyM at hS
  split at hS
  · rename_i x y k
    simp only [spec_ok, spec_br, setM_self H] at hS
    have hl := m.l
    cases hx : m.has x k with
    | false =>
      have hS := hS.2 (by rw [hx]; rfl)
      cases hy : m.has y k <;> simp (config := { maxSteps := 10000000 }) only [EV1, EV2, EV3, EV4, EV5, EV6, addT, istep, lenR_sl, lenR_ns, lenR_es, pickR, putD, bin1R, un1R, slcR, bnd, capsOf, fillP, S_plain, V_plain, V.cells, S_known, V_known, C.v, blk, setL, setH, eqS, eq1, cmpS, cmp1, isNil, popTo, killT, setT, leT, V.below, C.below, S_below, R.below, V.val, C.val, S_val, R.val, R.takes, vals, shows, List.any_cons, List.any_nil, unnamed, V.kill, V.names, C.names, S_names, R.names, List.set, List.replicate, ↓q_cond_t, ↓q_cond_f, if_true, if_false, reduceCtorEq, rvals, rvC, result, C_known, V.noL, C.noL, S_noL, R.noL, Option.map, true_and, and_true, ge_iff_le, gt_iff_lt, implies_true, q_ite_t, q_ite_f, beq_iff_eq, bne_iff_ne, q_ne, Nat.reduceAdd, Nat.reducePow, Int.reducePow, Nat.reduceMul, Nat.reduceSub, Nat.reduceLeDiff, Nat.reduceLT, Nat.reduceEqDiff, Int.reduceNeg, Int.reduceLT, Int.reduceLE, Int.reduceEq, Int.reduceNe, Int.reduceAdd, Int.reduceSub, Int.reduceMul, Int.reduceToNat, Int.reduceBEq, Int.reduceBNe, df63, TSp, thereG, memF_eq H, thereM, setM_self H, hx, hy]
      all_goals exact hS
    | true =>
      cases hy : m.has y k with
      | false =>
        have hS := hS.2 (by rw [hx, hy]; rfl)
        simp (config := { maxSteps := 10000000 }) only [EV1, EV2, EV3, EV4, EV5, EV6, addT, istep, lenR_sl, lenR_ns, lenR_es, pickR, putD, bin1R, un1R, slcR, bnd, capsOf, fillP, S_plain, V_plain, V.cells, S_known, V_known, C.v, blk, setL, setH, eqS, eq1, cmpS, cmp1, isNil, popTo, killT, setT, leT, V.below, C.below, S_below, R.below, V.val, C.val, S_val, R.val, R.takes, vals, shows, List.any_cons, List.any_nil, unnamed, V.kill, V.names, C.names, S_names, R.names, List.set, List.replicate, ↓q_cond_t, ↓q_cond_f, if_true, if_false, reduceCtorEq, rvals, rvC, result, C_known, V.noL, C.noL, S_noL, R.noL, Option.map, true_and, and_true, ge_iff_le, gt_iff_lt, implies_true, q_ite_t, q_ite_f, beq_iff_eq, bne_iff_ne, q_ne, Nat.reduceAdd, Nat.reducePow, Int.reducePow, Nat.reduceMul, Nat.reduceSub, Nat.reduceLeDiff, Nat.reduceLT, Nat.reduceEqDiff, Int.reduceNeg, Int.reduceLT, Int.reduceLE, Int.reduceEq, Int.reduceNe, Int.reduceAdd, Int.reduceSub, Int.reduceMul, Int.reduceToNat, Int.reduceBEq, Int.reduceBNe, df63, TSp, thereG, memF_eq H, thereM, setM_self H, hx, hy]
        exact hS
      | true =>
        have hS := hS.1 (by rw [hx, hy]; rfl)
        obtain ⟨i, n, rfl, rfl, hin⟩ := M.has_nat hx
        obtain ⟨j, n', rfl, e, hjn⟩ := M.has_nat hy
        have e : n = n' := by omega
        subst e
        simp only [Int.toNat_natCast] at hS
        have c3 : (0 : Int) ≤ n := by omega
        have c4 : (n : Int) ≤ 1099511627776 := by omega
        have c5 : (8 : Int) * (n : Int) ≤ 281474976710656 := by omega
        have hpl := M.part_len hin
        simp (config := { maxSteps := 10000000 }) only [EV1, EV2, EV3, EV4, EV5, EV6, addT, istep, lenR_sl, lenR_ns, lenR_es, pickR, putD, bin1R, un1R, slcR, bnd, capsOf, fillP, S_plain, V_plain, V.cells, S_known, V_known, C.v, blk, setL, setH, eqS, eq1, cmpS, cmp1, isNil, popTo, killT, setT, leT, V.below, C.below, S_below, R.below, V.val, C.val, S_val, R.val, R.takes, vals, shows, List.any_cons, List.any_nil, unnamed, V.kill, V.names, C.names, S_names, R.names, List.set, List.replicate, ↓q_cond_t, ↓q_cond_f, if_true, if_false, reduceCtorEq, rvals, rvC, result, C_known, V.noL, C.noL, S_noL, R.noL, Option.map, true_and, and_true, ge_iff_le, gt_iff_lt, implies_true, q_ite_t, q_ite_f, beq_iff_eq, bne_iff_ne, q_ne, Nat.reduceAdd, Nat.reducePow, Int.reducePow, Nat.reduceMul, Nat.reduceSub, Nat.reduceLeDiff, Nat.reduceLT, Nat.reduceEqDiff, Int.reduceNeg, Int.reduceLT, Int.reduceLE, Int.reduceEq, Int.reduceNe, Int.reduceAdd, Int.reduceSub, Int.reduceMul, Int.reduceToNat, Int.reduceBEq, Int.reduceBNe, df63, TSp, thereG, memF_eq H, thereM, setM_self H, hx, hy, c3, Int.le_refl, c4, c5, wc_zeros, Int.toNat_natCast]
        refine loop_rule (α := Nat) [12, 30, 31, 32, 33, 34, 35, 36, 37, 38, 39, 40, 41, 42, 43, 44, 45, 46] (fun q => [(12, .s (.i .i64 q))]) (fun q => [⟨.rw, wc (m.pz i q n), n⟩]) (fun q => h) (fun q => q ≤ n) (fun q => n - q) 0 (by omega) ?_ ?_
        · rw [M.pz_0]
          refine Wk.same (by simp [wc_len]) rfl ?_
          simp (config := { maxSteps := 10000000 }) only [EV1, EV2, EV3, EV4, EV5, EV6, addT, istep, lenR_sl, lenR_ns, lenR_es, pickR, putD, bin1R, un1R, slcR, bnd, capsOf, fillP, S_plain, V_plain, V.cells, S_known, V_known, C.v, blk, setL, setH, eqS, eq1, cmpS, cmp1, isNil, popTo, killT, setT, leT, V.below, C.below, S_below, R.below, V.val, C.val, S_val, R.val, R.takes, vals, shows, List.any_cons, List.any_nil, unnamed, V.kill, V.names, C.names, S_names, R.names, List.set, List.replicate, ↓q_cond_t, ↓q_cond_f, if_true, if_false, reduceCtorEq, rvals, rvC, result, C_known, V.noL, C.noL, S_noL, R.noL, Option.map, true_and, and_true, ge_iff_le, gt_iff_lt, implies_true, q_ite_t, q_ite_f, beq_iff_eq, bne_iff_ne, q_ne, Nat.reduceAdd, Nat.reducePow, Int.reducePow, Nat.reduceMul, Nat.reduceSub, Nat.reduceLeDiff, Nat.reduceLT, Nat.reduceEqDiff, Int.reduceNeg, Int.reduceLT, Int.reduceLE, Int.reduceEq, Int.reduceNe, Int.reduceAdd, Int.reduceSub, Int.reduceMul, Int.reduceToNat, Int.reduceBEq, Int.reduceBNe, q_cast, Int.natCast_zero]
        · rintro X q hq IH
          rcases Nat.lt_or_ge q n with h1 | h1
          · obtain ⟨d1, d2, d3, d4⟩ := idx h1 (by omega)
            have w1 : IntKind.i64.wrap ((i : Int) + q) = ((i + q : Nat) : Int) := by rw [wrap64] <;> omega
            have d5 : ((i + q : Nat) : Int) < m.w.length := by omega
            have d6 : (0 : Int) ≤ ((i + q : Nat) : Int) := by omega
            have g := wc_get (w := m.w) (i := i + q) (by omega)
            have g1 : nth 0 m.w (i + q) = m.at ((i + q : Nat) : Int) := by simp only [M.at, Int.toNat_natCast]
            have c6 : q + 1 ≤ (wc (m.pz i q n)).length := by rw [wc_len, M.pz_len hin hq]; omega
            have c7 := M.pz_set hin h1
            rw [g1] at g
            refine run_sound (Tab.ok_Γ _) 100 _ _ _ _ ?_
            simp (config := { maxSteps := 10000000 }) only [EV1, EV2, EV3, EV4, EV5, EV6, addT, istep, lenR_sl, lenR_ns, lenR_es, pickR, putD, bin1R, un1R, slcR, bnd, capsOf, fillP, S_plain, V_plain, V.cells, S_known, V_known, C.v, blk, setL, setH, eqS, eq1, cmpS, cmp1, isNil, popTo, killT, setT, leT, V.below, C.below, S_below, R.below, V.val, C.val, S_val, R.val, R.takes, vals, shows, List.any_cons, List.any_nil, unnamed, V.kill, V.names, C.names, S_names, R.names, List.set, List.replicate, ↓q_cond_t, ↓q_cond_f, if_true, if_false, reduceCtorEq, rvals, rvC, result, C_known, V.noL, C.noL, S_noL, R.noL, Option.map, true_and, and_true, ge_iff_le, gt_iff_lt, implies_true, q_ite_t, q_ite_f, beq_iff_eq, bne_iff_ne, q_ne, Nat.reduceAdd, Nat.reducePow, Int.reducePow, Nat.reduceMul, Nat.reduceSub, Nat.reduceLeDiff, Nat.reduceLT, Nat.reduceEqDiff, Int.reduceNeg, Int.reduceLT, Int.reduceLE, Int.reduceEq, Int.reduceNe, Int.reduceAdd, Int.reduceSub, Int.reduceMul, Int.reduceToNat, Int.reduceBEq, Int.reduceBNe, d1, d2, d3, d4, d5, d6, w1, H.ha, H.hb, MB, MW, g, c6, c7, Int.toNat_natCast, put]
            exact IH (q + 1) _ (by omega) (by omega) (Wk.same rfl rfl (by simp (config := { maxSteps := 10000000 }) only [EV1, EV2, EV3, EV4, EV5, EV6, addT, istep, lenR_sl, lenR_ns, lenR_es, pickR, putD, bin1R, un1R, slcR, bnd, capsOf, fillP, S_plain, V_plain, V.cells, S_known, V_known, C.v, blk, setL, setH, eqS, eq1, cmpS, cmp1, isNil, popTo, killT, setT, leT, V.below, C.below, S_below, R.below, V.val, C.val, S_val, R.val, R.takes, vals, shows, List.any_cons, List.any_nil, unnamed, V.kill, V.names, C.names, S_names, R.names, List.set, List.replicate, ↓q_cond_t, ↓q_cond_f, if_true, if_false, reduceCtorEq, rvals, rvC, result, C_known, V.noL, C.noL, S_noL, R.noL, Option.map, true_and, and_true, ge_iff_le, gt_iff_lt, implies_true, q_ite_t, q_ite_f, beq_iff_eq, bne_iff_ne, q_ne, Nat.reduceAdd, Nat.reducePow, Int.reducePow, Nat.reduceMul, Nat.reduceSub, Nat.reduceLeDiff, Nat.reduceLT, Nat.reduceEqDiff, Int.reduceNeg, Int.reduceLT, Int.reduceLE, Int.reduceEq, Int.reduceNe, Int.reduceAdd, Int.reduceSub, Int.reduceMul, Int.reduceToNat, Int.reduceBEq, Int.reduceBNe]))
          · have : q = n := by omega
            subst this
            refine run_sound (Tab.ok_Γ _) 100 _ _ _ _ ?_
            simp (config := { maxSteps := 10000000 }) only [EV1, EV2, EV3, EV4, EV5, EV6, addT, istep, lenR_sl, lenR_ns, lenR_es, pickR, putD, bin1R, un1R, slcR, bnd, capsOf, fillP, S_plain, V_plain, V.cells, S_known, V_known, C.v, blk, setL, setH, eqS, eq1, cmpS, cmp1, isNil, popTo, killT, setT, leT, V.below, C.below, S_below, R.below, V.val, C.val, S_val, R.val, R.takes, vals, shows, List.any_cons, List.any_nil, unnamed, V.kill, V.names, C.names, S_names, R.names, List.set, List.replicate, ↓q_cond_t, ↓q_cond_f, if_true, if_false, reduceCtorEq, rvals, rvC, result, C_known, V.noL, C.noL, S_noL, R.noL, Option.map, true_and, and_true, ge_iff_le, gt_iff_lt, implies_true, q_ite_t, q_ite_f, beq_iff_eq, bne_iff_ne, q_ne, Nat.reduceAdd, Nat.reducePow, Int.reducePow, Nat.reduceMul, Nat.reduceSub, Nat.reduceLeDiff, Nat.reduceLT, Nat.reduceEqDiff, Int.reduceNeg, Int.reduceLT, Int.reduceLE, Int.reduceEq, Int.reduceNe, Int.reduceAdd, Int.reduceSub, Int.reduceMul, Int.reduceToNat, Int.reduceBEq, Int.reduceBNe, Int.lt_irrefl]
            refine loop_rule (α := Nat) [13, 47, 48, 49, 50, 51, 52, 53, 54, 55, 56, 57, 58, 59, 60, 61, 62, 63] (fun p => [(13, .s (.i .i64 p))]) (fun p => [⟨.rw, wc (m.pz i q q), q⟩]) (fun p => h.set b ⟨.rw, wc (m.lay j ((m.part i q).take p)).w, m.w.length⟩) (fun p => p ≤ q) (fun p => q - p) 0 (by omega) ?_ ?_
            · simp only [List.take_zero, M.lay]
              rw [show (⟨.rw, wc m.w, m.w.length⟩ : Blk) = MW m from rfl, set_self H.hb]
              refine Wk.less ?_
              simp (config := { maxSteps := 10000000 }) only [EV1, EV2, EV3, EV4, EV5, EV6, addT, istep, lenR_sl, lenR_ns, lenR_es, pickR, putD, bin1R, un1R, slcR, bnd, capsOf, fillP, S_plain, V_plain, V.cells, S_known, V_known, C.v, blk, setL, setH, eqS, eq1, cmpS, cmp1, isNil, popTo, killT, setT, leT, V.below, C.below, S_below, R.below, V.val, C.val, S_val, R.val, R.takes, vals, shows, List.any_cons, List.any_nil, unnamed, V.kill, V.names, C.names, S_names, R.names, List.set, List.replicate, ↓q_cond_t, ↓q_cond_f, if_true, if_false, reduceCtorEq, rvals, rvC, result, C_known, V.noL, C.noL, S_noL, R.noL, Option.map, true_and, and_true, ge_iff_le, gt_iff_lt, implies_true, q_ite_t, q_ite_f, beq_iff_eq, bne_iff_ne, q_ne, Nat.reduceAdd, Nat.reducePow, Int.reducePow, Nat.reduceMul, Nat.reduceSub, Nat.reduceLeDiff, Nat.reduceLT, Nat.reduceEqDiff, Int.reduceNeg, Int.reduceLT, Int.reduceLE, Int.reduceEq, Int.reduceNe, Int.reduceAdd, Int.reduceSub, Int.reduceMul, Int.reduceToNat, Int.reduceBEq, Int.reduceBNe, q_cast, Int.natCast_zero]
            · intro Y p hp IH
              rcases Nat.lt_or_ge p q with h1 | h1
              · obtain ⟨d1, d2, d3, d4⟩ := idx h1 (by omega)
                have c3 : (h.set b ⟨BK.rw, wc (m.lay j ((m.part i q).take p)).w, m.w.length⟩)[b]? = some ⟨BK.rw, wc (m.lay j ((m.part i q).take p)).w, m.w.length⟩ := set_hit H.hb
                have c4 : j + p + 1 ≤ (wc (m.lay j ((m.part i q).take p)).w).length := by rw [wc_len, M.lay_len]; omega
                have hv : u64 (nth 0 (m.part i q) p) := M.part_u _ (nth_mem (by omega))
                have g : (wc (m.pz i q q))[p]? = some (.i .u64 (nth 0 (m.part i q) p)) := by rw [M.pz_all, wc_get (by omega)]
                have c5 : ((wc (m.lay j ((m.part i q).take p)).w).set (j + p) (S.i .u64 (nth 0 (m.part i q) p))) = wc (m.lay j ((m.part i q).take (p + 1))).w := by
                  rw [wc_set, take_snoc (by omega), M.lay_snoc, show ((m.part i q).take p).length = p by simp; omega]; simp only [M.put, uw_of hv]
                have ha := H.ha'
                have w1 : IntKind.i64.wrap ((j : Int) + p) = ((j + p : Nat) : Int) := by rw [wrap64] <;> omega
                have d5 : ((j + p : Nat) : Int) < m.w.length := by omega
                have d6 : (0 : Int) ≤ ((j + p : Nat) : Int) := by omega
                refine run_sound (Tab.ok_Γ _) 100 _ _ _ _ ?_
                simp (config := { maxSteps := 10000000 }) only [EV1, EV2, EV3, EV4, EV5, EV6, addT, istep, lenR_sl, lenR_ns, lenR_es, pickR, putD, bin1R, un1R, slcR, bnd, capsOf, fillP, S_plain, V_plain, V.cells, S_known, V_known, C.v, blk, setL, setH, eqS, eq1, cmpS, cmp1, isNil, popTo, killT, setT, leT, V.below, C.below, S_below, R.below, V.val, C.val, S_val, R.val, R.takes, vals, shows, List.any_cons, List.any_nil, unnamed, V.kill, V.names, C.names, S_names, R.names, List.set, List.replicate, ↓q_cond_t, ↓q_cond_f, if_true, if_false, reduceCtorEq, rvals, rvC, result, C_known, V.noL, C.noL, S_noL, R.noL, Option.map, true_and, and_true, ge_iff_le, gt_iff_lt, implies_true, q_ite_t, q_ite_f, beq_iff_eq, bne_iff_ne, q_ne, Nat.reduceAdd, Nat.reducePow, Int.reducePow, Nat.reduceMul, Nat.reduceSub, Nat.reduceLeDiff, Nat.reduceLT, Nat.reduceEqDiff, Int.reduceNeg, Int.reduceLT, Int.reduceLE, Int.reduceEq, Int.reduceNe, Int.reduceAdd, Int.reduceSub, Int.reduceMul, Int.reduceToNat, Int.reduceBEq, Int.reduceBNe, d1, d2, d3, d4, d5, d6, w1, c3, ha, MB, g, c4, Int.toNat_natCast, put, c5, List.set_set]
                exact IH (p + 1) _ (by omega) (by omega) (Wk.same rfl rfl (by simp (config := { maxSteps := 10000000 }) only [EV1, EV2, EV3, EV4, EV5, EV6, addT, istep, lenR_sl, lenR_ns, lenR_es, pickR, putD, bin1R, un1R, slcR, bnd, capsOf, fillP, S_plain, V_plain, V.cells, S_known, V_known, C.v, blk, setL, setH, eqS, eq1, cmpS, cmp1, isNil, popTo, killT, setT, leT, V.below, C.below, S_below, R.below, V.val, C.val, S_val, R.val, R.takes, vals, shows, List.any_cons, List.any_nil, unnamed, V.kill, V.names, C.names, S_names, R.names, List.set, List.replicate, ↓q_cond_t, ↓q_cond_f, if_true, if_false, reduceCtorEq, rvals, rvC, result, C_known, V.noL, C.noL, S_noL, R.noL, Option.map, true_and, and_true, ge_iff_le, gt_iff_lt, implies_true, q_ite_t, q_ite_f, beq_iff_eq, bne_iff_ne, q_ne, Nat.reduceAdd, Nat.reducePow, Int.reducePow, Nat.reduceMul, Nat.reduceSub, Nat.reduceLeDiff, Nat.reduceLT, Nat.reduceEqDiff, Int.reduceNeg, Int.reduceLT, Int.reduceLE, Int.reduceEq, Int.reduceNe, Int.reduceAdd, Int.reduceSub, Int.reduceMul, Int.reduceToNat, Int.reduceBEq, Int.reduceBNe]))
              · have : p = q := by omega
                subst this
                have ha := H.ha'
                have w1 : IntKind.i64.wrap (2 * (p : Int)) = 2 * (p : Int) := wrap64 (by omega) (by omega)
                refine run_sound (Tab.ok_Γ _) 100 _ _ _ _ ?_
                simp (config := { maxSteps := 10000000 }) only [EV1, EV2, EV3, EV4, EV5, EV6, addT, istep, lenR_sl, lenR_ns, lenR_es, pickR, putD, bin1R, un1R, slcR, bnd, capsOf, fillP, S_plain, V_plain, V.cells, S_known, V_known, C.v, blk, setL, setH, eqS, eq1, cmpS, cmp1, isNil, popTo, killT, setT, leT, V.below, C.below, S_below, R.below, V.val, C.val, S_val, R.val, R.takes, vals, shows, List.any_cons, List.any_nil, unnamed, V.kill, V.names, C.names, S_names, R.names, List.set, List.replicate, ↓q_cond_t, ↓q_cond_f, if_true, if_false, reduceCtorEq, rvals, rvC, result, C_known, V.noL, C.noL, S_noL, R.noL, Option.map, true_and, and_true, ge_iff_le, gt_iff_lt, implies_true, q_ite_t, q_ite_f, beq_iff_eq, bne_iff_ne, q_ne, Nat.reduceAdd, Nat.reducePow, Int.reducePow, Nat.reduceMul, Nat.reduceSub, Nat.reduceLeDiff, Nat.reduceLT, Nat.reduceEqDiff, Int.reduceNeg, Int.reduceLT, Int.reduceLE, Int.reduceEq, Int.reduceNe, Int.reduceAdd, Int.reduceSub, Int.reduceMul, Int.reduceToNat, Int.reduceBEq, Int.reduceBNe, Int.lt_irrefl, ha, MB, w1]
                refine cast (congrArg (K _) ?_) hS
                simp only [setM, M.copy]
                rw [List.set_comm _ _ H.ne, List.take_of_length_le (by omega)]
                simp only [MW, MB, M.tick, M.lay_len, M.lay_n]
  · exact hS.elim

theorem rdump_snd : Snd Try.prog 64 (FSpec.of dumpG) := snd_run TSp_snd mixed Try.func64 dc64 100 fun args h K hc hS => by
  obtain ⟨a, b, m, rest, rfl, H, hS1⟩ := memF_spec hS
  clear hS
  have hS := hS1
  clear hS1
  unfold dumpM at hS
  split at hS
  · rename_i x k
    simp only [spec_ok, spec_br, spec_all, setM_self H] at hS
    have hl := m.l
    cases hh : m.has x k with
    | true =>
      have hS := hS.1 hh
      obtain ⟨i, n, rfl, rfl, hin⟩ := M.has_nat hh
      simp only [Int.toNat_natCast] at hS
      have hS := hS n (Nat.le_refl _)
      have c3 : (0 : Int) ≤ n := by omega
      have c4 : (n : Int) ≤ 1099511627776 := by omega
      have c5 : (8 : Int) * (n : Int) ≤ 281474976710656 := by omega
      simp (config := { maxSteps := 10000000 }) only [EV1, EV2, EV3, EV4, EV5, EV6, addT, istep, lenR_sl, lenR_ns, lenR_es, pickR, putD, bin1R, un1R, slcR, bnd, capsOf, fillP, S_plain, V_plain, V.cells, S_known, V_known, C.v, blk, setL, setH, eqS, eq1, cmpS, cmp1, isNil, popTo, killT, setT, leT, V.below, C.below, S_below, R.below, V.val, C.val, S_val, R.val, R.takes, vals, shows, List.any_cons, List.any_nil, unnamed, V.kill, V.names, C.names, S_names, R.names, List.set, List.replicate, ↓q_cond_t, ↓q_cond_f, if_true, if_false, reduceCtorEq, rvals, rvC, result, C_known, V.noL, C.noL, S_noL, R.noL, Option.map, true_and, and_true, ge_iff_le, gt_iff_lt, implies_true, q_ite_t, q_ite_f, beq_iff_eq, bne_iff_ne, q_ne, Nat.reduceAdd, Nat.reducePow, Int.reducePow, Nat.reduceMul, Nat.reduceSub, Nat.reduceLeDiff, Nat.reduceLT, Nat.reduceEqDiff, Int.reduceNeg, Int.reduceLT, Int.reduceLE, Int.reduceEq, Int.reduceNe, Int.reduceAdd, Int.reduceSub, Int.reduceMul, Int.reduceToNat, Int.reduceBEq, Int.reduceBNe, df64, TSp, thereG, memF_eq H, thereM, setM_self H, hh, c3, Int.le_refl, c4, c5, wc_zeros, Int.toNat_natCast]
      refine loop_rule (α := Nat) [10, 19, 20, 21, 22, 23, 24, 25, 26, 27, 28, 29, 30, 31, 32, 33, 34, 35] (fun q => [(10, .s (.i .i64 q))]) (fun q => [⟨.rw, wc (m.pz i q n), n⟩]) (fun q => h) (fun q => q ≤ n) (fun q => n - q) 0 (by omega) ?_ ?_
      · rw [M.pz_0]
        refine Wk.same (by simp [wc_len]) rfl ?_
        simp (config := { maxSteps := 10000000 }) only [EV1, EV2, EV3, EV4, EV5, EV6, addT, istep, lenR_sl, lenR_ns, lenR_es, pickR, putD, bin1R, un1R, slcR, bnd, capsOf, fillP, S_plain, V_plain, V.cells, S_known, V_known, C.v, blk, setL, setH, eqS, eq1, cmpS, cmp1, isNil, popTo, killT, setT, leT, V.below, C.below, S_below, R.below, V.val, C.val, S_val, R.val, R.takes, vals, shows, List.any_cons, List.any_nil, unnamed, V.kill, V.names, C.names, S_names, R.names, List.set, List.replicate, ↓q_cond_t, ↓q_cond_f, if_true, if_false, reduceCtorEq, rvals, rvC, result, C_known, V.noL, C.noL, S_noL, R.noL, Option.map, true_and, and_true, ge_iff_le, gt_iff_lt, implies_true, q_ite_t, q_ite_f, beq_iff_eq, bne_iff_ne, q_ne, Nat.reduceAdd, Nat.reducePow, Int.reducePow, Nat.reduceMul, Nat.reduceSub, Nat.reduceLeDiff, Nat.reduceLT, Nat.reduceEqDiff, Int.reduceNeg, Int.reduceLT, Int.reduceLE, Int.reduceEq, Int.reduceNe, Int.reduceAdd, Int.reduceSub, Int.reduceMul, Int.reduceToNat, Int.reduceBEq, Int.reduceBNe, q_cast, Int.natCast_zero]
      · rintro X q hq IH
        rcases Nat.lt_or_ge q n with h1 | h1
        · obtain ⟨d1, d2, d3, d4⟩ := idx h1 (by omega)
          have w1 : IntKind.i64.wrap ((i : Int) + q) = ((i + q : Nat) : Int) := by rw [wrap64] <;> omega
          have d5 : ((i + q : Nat) : Int) < m.w.length := by omega
          have d6 : (0 : Int) ≤ ((i + q : Nat) : Int) := by omega
          have g := wc_get (w := m.w) (i := i + q) (by omega)
          have g1 : nth 0 m.w (i + q) = m.at ((i + q : Nat) : Int) := by simp only [M.at, Int.toNat_natCast]
          have c6 : q + 1 ≤ (wc (m.pz i q n)).length := by rw [wc_len, M.pz_len hin hq]; omega
          have c7 := M.pz_set hin h1
          rw [g1] at g
          refine run_sound (Tab.ok_Γ _) 100 _ _ _ _ ?_
          simp (config := { maxSteps := 10000000 }) only [EV1, EV2, EV3, EV4, EV5, EV6, addT, istep, lenR_sl, lenR_ns, lenR_es, pickR, putD, bin1R, un1R, slcR, bnd, capsOf, fillP, S_plain, V_plain, V.cells, S_known, V_known, C.v, blk, setL, setH, eqS, eq1, cmpS, cmp1, isNil, popTo, killT, setT, leT, V.below, C.below, S_below, R.below, V.val, C.val, S_val, R.val, R.takes, vals, shows, List.any_cons, List.any_nil, unnamed, V.kill, V.names, C.names, S_names, R.names, List.set, List.replicate, ↓q_cond_t, ↓q_cond_f, if_true, if_false, reduceCtorEq, rvals, rvC, result, C_known, V.noL, C.noL, S_noL, R.noL, Option.map, true_and, and_true, ge_iff_le, gt_iff_lt, implies_true, q_ite_t, q_ite_f, beq_iff_eq, bne_iff_ne, q_ne, Nat.reduceAdd, Nat.reducePow, Int.reducePow, Nat.reduceMul, Nat.reduceSub, Nat.reduceLeDiff, Nat.reduceLT, Nat.reduceEqDiff, Int.reduceNeg, Int.reduceLT, Int.reduceLE, Int.reduceEq, Int.reduceNe, Int.reduceAdd, Int.reduceSub, Int.reduceMul, Int.reduceToNat, Int.reduceBEq, Int.reduceBNe, d1, d2, d3, d4, d5, d6, w1, H.ha, H.hb, MB, MW, g, c6, c7, Int.toNat_natCast, put]
          exact IH (q + 1) _ (by omega) (by omega) (Wk.same rfl rfl (by simp (config := { maxSteps := 10000000 }) only [EV1, EV2, EV3, EV4, EV5, EV6, addT, istep, lenR_sl, lenR_ns, lenR_es, pickR, putD, bin1R, un1R, slcR, bnd, capsOf, fillP, S_plain, V_plain, V.cells, S_known, V_known, C.v, blk, setL, setH, eqS, eq1, cmpS, cmp1, isNil, popTo, killT, setT, leT, V.below, C.below, S_below, R.below, V.val, C.val, S_val, R.val, R.takes, vals, shows, List.any_cons, List.any_nil, unnamed, V.kill, V.names, C.names, S_names, R.names, List.set, List.replicate, ↓q_cond_t, ↓q_cond_f, if_true, if_false, reduceCtorEq, rvals, rvC, result, C_known, V.noL, C.noL, S_noL, R.noL, Option.map, true_and, and_true, ge_iff_le, gt_iff_lt, implies_true, q_ite_t, q_ite_f, beq_iff_eq, bne_iff_ne, q_ne, Nat.reduceAdd, Nat.reducePow, Int.reducePow, Nat.reduceMul, Nat.reduceSub, Nat.reduceLeDiff, Nat.reduceLT, Nat.reduceEqDiff, Int.reduceNeg, Int.reduceLT, Int.reduceLE, Int.reduceEq, Int.reduceNe, Int.reduceAdd, Int.reduceSub, Int.reduceMul, Int.reduceToNat, Int.reduceBEq, Int.reduceBNe]))
        · have : q = n := by omega
          subst this
          refine run_sound (Tab.ok_Γ _) 100 _ _ _ _ ?_
          simp (config := { maxSteps := 10000000 }) only [EV1, EV2, EV3, EV4, EV5, EV6, addT, istep, lenR_sl, lenR_ns, lenR_es, pickR, putD, bin1R, un1R, slcR, bnd, capsOf, fillP, S_plain, V_plain, V.cells, S_known, V_known, C.v, blk, setL, setH, eqS, eq1, cmpS, cmp1, isNil, popTo, killT, setT, leT, V.below, C.below, S_below, R.below, V.val, C.val, S_val, R.val, R.takes, vals, shows, List.any_cons, List.any_nil, unnamed, V.kill, V.names, C.names, S_names, R.names, List.set, List.replicate, ↓q_cond_t, ↓q_cond_f, if_true, if_false, reduceCtorEq, rvals, rvC, result, C_known, V.noL, C.noL, S_noL, R.noL, Option.map, true_and, and_true, ge_iff_le, gt_iff_lt, implies_true, q_ite_t, q_ite_f, beq_iff_eq, bne_iff_ne, q_ne, Nat.reduceAdd, Nat.reducePow, Int.reducePow, Nat.reduceMul, Nat.reduceSub, Nat.reduceLeDiff, Nat.reduceLT, Nat.reduceEqDiff, Int.reduceNeg, Int.reduceLT, Int.reduceLE, Int.reduceEq, Int.reduceNe, Int.reduceAdd, Int.reduceSub, Int.reduceMul, Int.reduceToNat, Int.reduceBEq, Int.reduceBNe, Int.lt_irrefl]
          refine ⟨[0], by simp, rfl, ?_⟩
          simp only [getAll, List.getElem?_cons_zero]
          refine ⟨?_, ?_⟩
          · simp [wc_kept]
          · refine cast (congrArg (K _) ?_) hS
            simp [Blk.ren, wc_ren, M.pz_all, M.part]
    | false =>
      have hS := hS.2 hh
      simp (config := { maxSteps := 10000000 }) only [EV1, EV2, EV3, EV4, EV5, EV6, addT, istep, lenR_sl, lenR_ns, lenR_es, pickR, putD, bin1R, un1R, slcR, bnd, capsOf, fillP, S_plain, V_plain, V.cells, S_known, V_known, C.v, blk, setL, setH, eqS, eq1, cmpS, cmp1, isNil, popTo, killT, setT, leT, V.below, C.below, S_below, R.below, V.val, C.val, S_val, R.val, R.takes, vals, shows, List.any_cons, List.any_nil, unnamed, V.kill, V.names, C.names, S_names, R.names, List.set, List.replicate, ↓q_cond_t, ↓q_cond_f, if_true, if_false, reduceCtorEq, rvals, rvC, result, C_known, V.noL, C.noL, S_noL, R.noL, Option.map, true_and, and_true, ge_iff_le, gt_iff_lt, implies_true, q_ite_t, q_ite_f, beq_iff_eq, bne_iff_ne, q_ne, Nat.reduceAdd, Nat.reducePow, Int.reducePow, Nat.reduceMul, Nat.reduceSub, Nat.reduceLeDiff, Nat.reduceLT, Nat.reduceEqDiff, Int.reduceNeg, Int.reduceLT, Int.reduceLE, Int.reduceEq, Int.reduceNe, Int.reduceAdd, Int.reduceSub, Int.reduceMul, Int.reduceToNat, Int.reduceBEq, Int.reduceBNe, df64, TSp, thereG, memF_eq H, thereM, setM_self H, hh]
      exact hS
  · exact hS.elim
end Go.Proofs.Yteeeidldknlblaa

/- The machine's memory: more facts for use: new memories among the blocks, Load without choices. -/
namespace Go.Proofs.Yteeeidldknlblaa
open Go.D
set_option linter.all false
set_option maxRecDepth 100000
set_option maxHeartbeats 4000000

theorem memF_newA {f : Nat → M → (M → List Blk) → List V → Res} {h X : List Blk} {m : M} {rest : List V} : memF f (.s (.p (.g h.length) 0) :: rest) (memH h m ++ X) = f (h.length + 1) m (fun m => memH h m ++ X) rest := by
  rw [memF_app0 (memH_is h m), memH_fun]
theorem memF_new1A {f : Nat → M → (M → List Blk) → List V → Res} {h X : List Blk} {m k : M} {rest : List V} : memF f (.s (.p (.g h.length) 0) :: rest) (memH (memH h m) k ++ X) = f (h.length + 1) m (fun m => memH (memH h m) k ++ X) rest := by
  rw [memF_app0 (memH_is1 h m k), show setM (memH (memH h m) k) h.length (h.length + 1) = fun m => memH (memH h m) k from funext (memH_set1 h m k)]
theorem memF_new2A {f : Nat → M → (M → List Blk) → List V → Res} {h X : List Blk} {m k : M} {rest : List V} : memF f (.s (.p (.g (h.length + 2)) 0) :: rest) (memH (memH h m) k ++ X) = f (h.length + 3) k (fun k => memH (memH h m) k ++ X) rest := by
  rw [memF_app0 (memH_is2 h m k), show setM (memH (memH h m) k) (h.length + 2) (h.length + 3) = memH (memH h m) from funext (memH_set2 h m k)]

section
variable {h X : List Blk} {m : M} {k : Nat}
theorem mg0 : (memH h m ++ X)[h.length + 2]? = X[0]? := by rw [List.getElem?_append_right (by rw [memH_len]; omega), memH_len, Nat.sub_self]
theorem mg1 : (memH h m ++ X)[h.length + 2 + k]? = X[k]? := by rw [List.getElem?_append_right (by rw [memH_len]; omega), memH_len, Nat.add_sub_cancel_left]
theorem mg2 : (memH h m ++ X)[h.length + 2 + 1 + k]? = X[k + 1]? := by
  rw [List.getElem?_append_right (by rw [memH_len]; omega), memH_len]
  congr 1; omega
theorem mt1 : (memH h m ++ X).take (h.length + 2 + k) = memH h m ++ X.take k := by
  have := app_taken (h := memH h m) (r := X) (n := k)
  rwa [memH_len] at this
theorem md1 : (memH h m ++ X).drop (h.length + 2 + k) = X.drop k := by
  have := app_dropn (h := memH h m) (r := X) (n := k)
  rwa [memH_len] at this
theorem memH_clean (hc : clean h.length h = true) : clean (h.length + 2) (memH h m) = true := by
  refine clean_app hc (by omega) ?_
  simp only [clean, List.all_cons, List.all_nil, Bool.and_true, Bool.and_eq_true, MB, MW, wc_vals]
  simp [vals, S.val, R.val]
theorem memH_cleanA {n : Nat} (hc : clean h.length h = true) (hn : h.length + 2 ≤ n) (hX : clean n X = true) : clean n (memH h m ++ X) = true := clean_app (memH_clean hc) hn hX
theorem listOf_at {H : List Blk} {j c room : Nat} {st : BK} {vs : List Int} {n : Nat} (hj : H[j]? = some ⟨st, wc vs, room⟩) (hs : st ≠ .dead) (hn : vs.length = n) : listOf H (.sl (.g j) 0 n c) = some vs := by
  subst hn; exact listOf_eq (IsList.whole hj hs)
end

theorem take_all {l : List Int} {n : Nat} (h : l.length = n) : l.take n = l := List.take_of_length_le (by omega)
theorem mh2_len {h : List Blk} {m k : M} {X : List Blk} : (memH (memH h m) k ++ X).length = h.length + 2 + 2 + X.length := by rw [List.length_append, memH_len, memH_len]
section
variable {h X : List Blk} {m n : M} {k : Nat}
theorem nh0 : (memH (memH h m) n ++ X)[h.length + 2 + 2]? = X[0]? := by
  have := mg0 (h := memH h m) (m := n) (X := X); rwa [memH_len] at this
theorem nh1 : (memH (memH h m) n ++ X)[h.length + 2 + 2 + k]? = X[k]? := by
  have := mg1 (h := memH h m) (m := n) (X := X) (k := k); rwa [memH_len] at this
theorem nt1 : (memH (memH h m) n ++ X).take (h.length + 2 + 2 + k) = memH (memH h m) n ++ X.take k := by
  have := mt1 (h := memH h m) (m := n) (X := X) (k := k); rwa [memH_len] at this
theorem nd1 : (memH (memH h m) n ++ X).drop (h.length + 2 + 2 + k) = X.drop k := by
  have := md1 (h := memH h m) (m := n) (X := X) (k := k); rwa [memH_len] at this
theorem memH2_app : memH (memH h m) n ++ X = h ++ ([MB (h.length + 1) m, MW m] ++ ([MB (h.length + 2 + 1) n, MW n] ++ X)) := by
  show h ++ [_, _] ++ [MB ((h ++ [_, _]).length + 1) n, _] ++ X = _
  simp
end

section
variable {h X : List Blk} {m n m' n' : M} {k : Nat} {B : Blk}
theorem nh2 : (memH (memH h m) n ++ (B :: X))[h.length + 2 + 2 + 1 + k]? = X[k]? := by
  rw [List.getElem?_append_right (by rw [memH_len, memH_len]; omega), memH_len, memH_len]
  rw [show h.length + 2 + 2 + 1 + k - (h.length + 2 + 2) = k + 1 by omega]; rfl
theorem nhl {j : Nat} (hj : j < h.length) : (memH (memH h m) n ++ X)[j]? = h[j]? := by rw [memH2_app, List.getElem?_append_left hj]
theorem memOf_1 : memOf (memH (memH h m) n ++ X) h.length = some (h.length + 1, m) := memOf_eq (memH_is1 h m n).app
theorem memOf_2 : memOf (memH (memH h m) n ++ X) (h.length + 2) = some (h.length + 3, n) := memOf_eq (memH_is2 h m n).app
theorem setM_1 : setM (memH (memH h m) n ++ X) h.length (h.length + 1) m' = memH (memH h m') n ++ X := by rw [setM_app (memH_is1 h m n), memH_set1]
theorem setM_2 : setM (memH (memH h m) n ++ X) (h.length + 2) (h.length + 3) n' = memH (memH h m) n' ++ X := by rw [setM_app (memH_is2 h m n), memH_set2]
theorem clean_both {c : Nat} (hc : clean c (memH (memH h m) n ++ X) = true) (hl : h.length + 4 ≤ c) : clean c (memH (memH h m') n' ++ X) = true := by
  rw [memH2_app] at hc ⊢
  simp only [clean, List.all_append, List.all_cons, List.all_nil, Bool.and_eq_true, Bool.and_true] at hc ⊢
  obtain ⟨h1, _, _, h2⟩ := hc
  refine ⟨h1, ⟨?_, wc_vals _ _ _⟩, ⟨?_, wc_vals _ _ _⟩, h2⟩
  · simp [MB, vals, S.val, R.val]; omega
  · simp [MB, vals, S.val, R.val]; omega
end

def M.loadE (m : M) (x : Int) (vs : List Int) : Int := if m.has x vs.length then 0 else 20
def M.loadX (m : M) (x : Int) (vs : List Int) : M := if m.has x vs.length then m.lay x.toNat vs else m
noncomputable def load2G : List V → List Blk → Res
  | [.s (.p (.g a) 0), .s (.i .i64 x), .s s], h => match memOf h a, listOf h s with
    | some (b, m), some vs => .ob (apartS b s ∧ ∀ v, v ∈ vs → u64 v) (.ok (.s (.i .i64 (m.loadE x vs))) [] (setM h a b (m.loadX x vs)))
    | _, _ => .bad
  | _, _ => .bad

theorem load2_snd : Snd Try.prog 27 (FSpec.of load2G) := mload_snd.weaken fun args h K hc hS => by
  have hS : (load2G args h).spec K := hS
  unfold load2G at hS
  split at hS
  · rename_i a x s
    split at hS
    · rename_i b m vs e1 e2
      obtain ⟨hp, hS⟩ := hS
      simp only [spec_ok, M.loadE, M.loadX] at hS
      show Res.spec K (loadG _ h)
      simp only [loadG, e1, e2, spec_ob, spec_br, spec_ok]
      refine ⟨hp, fun e => ?_, fun e => ?_⟩
      · simpa only [e, if_true] using hS
      · have := setM_self (memOf_some e1)
        simpa only [e, Bool.false_eq_true, if_false, this] using hS
    · exact hS.elim
  · exact hS.elim
theorem rload2_snd : Snd Try.prog 65 (FSpec.of load2G) := rload_snd.weaken fun args h K hc hS => by
  have hS : (load2G args h).spec K := hS
  unfold load2G at hS
  split at hS
  · rename_i a x s
    split at hS
    · rename_i b m vs e1 e2
      obtain ⟨hp, hS⟩ := hS
      simp only [spec_ok, M.loadE, M.loadX] at hS
      show Res.spec K (loadG _ h)
      simp only [loadG, e1, e2, spec_ob, spec_br, spec_ok]
      refine ⟨hp, fun e => ?_, fun e => ?_⟩
      · simpa only [e, if_true] using hS
      · have := setM_self (memOf_some e1)
        simpa only [e, Bool.false_eq_true, if_false, this] using hS
    · exact hS.elim
  · exact hS.elim

theorem M.loadX_len (m : M) (x : Int) (vs : List Int) : (m.loadX x vs).w.length = m.w.length := by
  unfold M.loadX; split
  · exact M.lay_len _ _ _
  · rfl
end Go.Proofs.Yteeeidldknlblaa

/- Memories and lists among a law's own blocks: the heap is what was there, and blocks behind it, one by one. -/
namespace Go.Proofs.Yteeeidldknlblaa
open Go.D
set_option linter.all false
set_option maxRecDepth 100000
set_option maxHeartbeats 4000000

theorem n21 {a : Nat} : a + 2 + 1 = a + 3 := rfl
theorem n22 {a : Nat} : a + 2 + 2 = a + 4 := rfl
theorem n41 {a : Nat} : a + 4 + 1 = a + 5 := rfl
theorem nnn {a : Nat} (n k : Nat) : a + n + k = a + (n + k) := Nat.add_assoc _ _ _
theorem nlt0 {a k : Nat} : (a < a + k) = (0 < k) := by simp
theorem nltn {a j k : Nat} : (a + j < a + k) = (j < k) := by simp
section
variable {h X : List Blk} {A B : Blk} {m : M}
theorem at0_is : IsMem (h ++ (MB (h.length + 1) m :: MW m :: X)) h.length (h.length + 1) m := by
  refine ⟨by omega, ?_, ?_⟩
  · rw [app_get0]; rfl
  · rw [app_getn]; rfl
theorem at0_set (m' : M) : setM (h ++ (MB (h.length + 1) m :: MW m :: X)) h.length (h.length + 1) m' = h ++ (MB (h.length + 1) m' :: MW m' :: X) := by
  simp only [setM]
  rw [app_set0, app_setn]; rfl
theorem at2_is : IsMem (h ++ (A :: B :: MB (h.length + 3) m :: MW m :: X)) (h.length + 2) (h.length + 3) m := by
  refine ⟨by omega, ?_, ?_⟩
  · rw [app_getn]; rfl
  · rw [app_getn]; rfl
theorem at2_set (m' : M) : setM (h ++ (A :: B :: MB (h.length + 3) m :: MW m :: X)) (h.length + 2) (h.length + 3) m' = h ++ (A :: B :: MB (h.length + 3) m' :: MW m' :: X) := by
  simp only [setM]
  rw [app_setn, app_setn]; rfl
theorem memF_0 {f : Nat → M → (M → List Blk) → List V → Res} {rest : List V} : memF f (.s (.p (.g h.length) 0) :: rest) (h ++ (MB (h.length + 1) m :: MW m :: X)) = f (h.length + 1) m (fun m => h ++ (MB (h.length + 1) m :: MW m :: X)) rest := by
  rw [memF_eq at0_is, funext at0_set]
theorem memF_2 {f : Nat → M → (M → List Blk) → List V → Res} {rest : List V} : memF f (.s (.p (.g (h.length + 2)) 0) :: rest) (h ++ (A :: B :: MB (h.length + 3) m :: MW m :: X)) = f (h.length + 3) m (fun m => h ++ (A :: B :: MB (h.length + 3) m :: MW m :: X)) rest := by
  rw [memF_eq at2_is, funext at2_set]
theorem memAt_0 : memOf (h ++ (MB (h.length + 1) m :: MW m :: X)) h.length = some (h.length + 1, m) := memOf_eq at0_is
theorem memAt_2 : memOf (h ++ (A :: B :: MB (h.length + 3) m :: MW m :: X)) (h.length + 2) = some (h.length + 3, m) := memOf_eq at2_is
theorem MB_vals {b n k : Nat} (hb : b < n) : vals n k (MB b m).cells = true := by simp [MB, vals, S.val, R.val, hb]
theorem clean_nil {n : Nat} : clean n [] = true := by rfl
theorem clean_cons {n : Nat} {B : Blk} {X : List Blk} : clean n (B :: X) = (vals n 0 B.cells && clean n X) := by rfl
theorem clean_h {n : Nat} {X : List Blk} (hc : clean h.length h = true) (hn : h.length ≤ n) : clean n (h ++ X) = clean n X := by
  have : clean n h = true := by
    simp only [clean, List.all_eq_true] at hc ⊢
    exact fun x hx => vals_mono hn (Nat.le_refl _) (hc x hx)
  simp only [clean] at this ⊢
  rw [List.all_append, this, Bool.true_and]
theorem vals_MB {n k j : Nat} : vals (h.length + n) k (MB (h.length + j) m).cells = decide (j < n) := by
  simp [MB, vals, S.val, R.val]
theorem vals_wc {n k : Nat} {w : List Int} : vals n k (wc w) = true := wc_vals _ _ _
theorem vals_nil {n k : Nat} : vals n k [] = true := by rfl
theorem vals_cons {n k : Nat} {s : S} {l : List S} : vals n k (s :: l) = (s.val n k && vals n k l) := by rfl
theorem MW_vals {n k : Nat} : vals n k (MW m).cells = true := wc_vals _ _ _
theorem app_len {X : List Blk} : (h ++ X).length = h.length + X.length := List.length_append
end

/-- A spec by the form of the arguments and the heap. -/
noncomputable def shape {α : Type} (pat : α → List V × List Blk) (ok : α → Prop) (res : α → Res) (args : List V) (h : List Blk) : Res :=
  open Classical in if hx : ∃ a, pat a = (args, h) ∧ ok a then res (Classical.choose hx) else .bad
theorem shape_eq {α : Type} {pat : α → List V × List Blk} {ok : α → Prop} {res : α → Res} (inj : ∀ a b, pat a = pat b → ok a → ok b → res a = res b) {args : List V} {h : List Blk} (a : α) (e : pat a = (args, h)) (ha : ok a) : shape pat ok res args h = res a := by
  have hx : ∃ a, pat a = (args, h) ∧ ok a := ⟨a, e, ha⟩
  unfold shape
  rw [dif_pos hx]
  have := Classical.choose_spec hx
  exact inj _ _ (this.1.trans e.symm) this.2 ha
theorem shape_spec {α : Type} {pat : α → List V × List Blk} {ok : α → Prop} {res : α → Res} {args : List V} {h : List Blk} {K : V → List Blk → Prop} (hS : (shape pat ok res args h).spec K) : ∃ a, pat a = (args, h) ∧ ok a ∧ (res a).spec K := by
  unfold shape at hS
  split at hS
  · rename_i hx
    have := Classical.choose_spec hx
    exact ⟨_, this.1, this.2, hS⟩
  · exact hS.elim
theorem app_inj {α : Type} {h h' X X' : List α} (e : h ++ X = h' ++ X') (hl : h.length = h'.length) : h = h' ∧ X = X' := List.append_inj e hl
theorem MB_inj {b b' : Nat} {m m' : M} (e : MB b m = MB b' m') : m.n = m'.n := by
  simp only [MB, Blk.mk.injEq, List.cons.injEq, S.i.injEq, true_and, and_true] at e
  exact e.2
theorem MW_inj {m m' : M} (e : MW m = MW m') : m.w = m'.w := by
  simp only [MW, Blk.mk.injEq, true_and] at e
  exact wc_inj e.1

/-- The words of a block's cells. -/
def unwc : List S → Option (List Int)
  | [] => some []
  | .i .u64 x :: l => match unwc l with
    | some v => some (x :: v)
    | none => none
  | _ => none
theorem unwc_wc : ∀ v : List Int, unwc (wc v) = some v
  | [] => rfl
  | x :: v => by simp only [wc_cons, unwc, unwc_wc v]
theorem unwc_nil : unwc [] = some [] := by rfl
theorem unwc_cons {x : Int} {l : List S} : unwc (.i .u64 x :: l) = match unwc l with | some v => some (x :: v) | none => none := by rfl
theorem wc_unwc : ∀ {l : List S} {v : List Int}, unwc l = some v → l = wc v
  | [], v, e => by simp only [unwc, Option.some.injEq] at e; subst e; rfl
  | .i k x :: l, v, e => by
    cases k <;> simp only [unwc, reduceCtorEq] at e
    split at e
    · rename_i v' e'
      rw [Option.some.injEq] at e
      subst e
      rw [wc_unwc e', wc_cons]
    · cases e
  | .u :: _, _, e => by simp [unwc] at e
  | .b _ :: _, _, e => by simp [unwc] at e
  | .p _ _ :: _, _, e => by simp [unwc] at e
  | .np :: _, _, e => by simp [unwc] at e
  | .sl _ _ _ _ :: _, _, e => by simp [unwc] at e
  | .ns :: _, _, e => by simp [unwc] at e
  | .es _ _ :: _, _, e => by simp [unwc] at e
  | .fn _ _ :: _, _, e => by simp [unwc] at e
  | .nf :: _, _, e => by simp [unwc] at e
def lenIs (n : Nat) (v : List Int) : Option (List Int) := if v.length = n then some v else none
theorem lenIs_t {n : Nat} {v : List Int} (h : v.length = n) : lenIs n v = some v := if_pos h
def lstB (n : Nat) : Option Blk → Option (List Int)
  | some ⟨.rw, cells, _⟩ => (unwc cells).bind (lenIs n)
  | some ⟨.ro, cells, _⟩ => (unwc cells).bind (lenIs n)
  | _ => none
theorem lstB_rw {n room : Nat} {cells : List S} : lstB n (some ⟨.rw, cells, room⟩) = (unwc cells).bind (lenIs n) := by rfl
theorem o_bind {α β : Type} {x : α} {f : α → Option β} : (some x).bind f = f x := by rfl
theorem lstB_list {H : List Blk} {j n c : Nat} {vs : List Int} (h : lstB n H[j]? = some vs) : listOf H (.sl (.g j) 0 n c) = some vs := by
  have key : ∀ st cells room, H[j]? = some ⟨st, cells, room⟩ → st ≠ .dead → (unwc cells).bind (lenIs n) = some vs → listOf H (.sl (.g j) 0 n c) = some vs := by
    intro st cells room e hs e2
    obtain ⟨v, e3, e4⟩ := Option.bind_eq_some_iff.1 e2
    unfold lenIs at e4
    split at e4
    · rename_i hl
      rw [Option.some.injEq] at e4
      subst e4
      rw [wc_unwc e3] at e
      exact listOf_at e hs hl
    · cases e4
  unfold lstB at h
  split at h
  · rename_i e; exact key _ _ _ e (by simp) h
  · rename_i e; exact key _ _ _ e (by simp) h
  · cases h
theorem listOf_g {h X : List Blk} {n c k : Nat} (hs : (lstB n (h ++ X)[h.length + k]?).isSome = true) : listOf (h ++ X) (.sl (.g (h.length + k)) 0 n c) = lstB n (h ++ X)[h.length + k]? := by
  obtain ⟨vs, e⟩ := Option.isSome_iff_exists.1 hs
  rw [e, lstB_list e]
theorem some_is {α : Type} {x : α} : (some x).isSome = true := by rfl
/-- What lay there is a list still. -/
theorem IsList.of {h : List Blk} {s : S} {vs : List Int} (H : IsList h s vs) (X : List Blk) : listOf (h ++ X) s = some vs := listOf_eq H.app

theorem M.part_ext {m : M} {x k : Nat} {vs : List Int} (h : x + k ≤ m.w.length) (hl : vs.length = k) (he : ∀ i, i < k → m.at ((x + i : Nat) : Int) = nth 0 vs i) : (m.w.drop x).take k = vs := by
  have hp := M.part_len h
  refine eq_of_nth (hp.trans hl.symm) fun i hi => ?_
  have hi' : i < k := by rw [show ((m.w.drop x).take k).length = k from hp] at hi; exact hi
  have := M.at_part (m := m) (x := x) hi'
  rw [← he i hi', ← this]; rfl

/-- A list of words that the function itself makes, in its b-th block. -/
def slW (b : Nat) : List Int → Nat → S
  | [], _ => .ns
  | _ :: v, c => .sl (.l b) 0 (v.length + 1) c
def lsW : List Int → Nat → List Blk
  | [], _ => []
  | x :: v, c => [⟨.rw, wc (x :: v), c⟩]
theorem M.readV_t {m : M} {i : Nat} (h : i + 1 ≤ m.w.length) : m.readV i = m.at i := by rw [M.readV, M.has_of (by omega), if_pos rfl]
theorem M.readE_t {m : M} {i : Nat} (h : i + 1 ≤ m.w.length) : m.readE i = 0 := by rw [M.readE, M.has_of (by omega), if_pos rfl]
theorem M.readX_t {m : M} {i : Nat} (h : i + 1 ≤ m.w.length) : m.readX i = m.tick 1 := by rw [M.readX, M.has_of (by omega), if_pos rfl]
theorem M.writeX_t {m : M} {i : Nat} {v : Int} (h : i + 1 ≤ m.w.length) : m.writeX i v = (m.put i v).tick 1 := by rw [M.writeX, M.has_of (by omega), if_pos rfl, Int.toNat_natCast]
theorem M.tick_tick (m : M) (a b : Int) : (m.tick a).tick b = m.tick (a + b) := M.ext' rfl (wrap_add _ _ _)
theorem M.tick_put (m : M) (a : Int) (i : Nat) (v : Int) : (m.tick a).put i v = (m.put i v).tick a := M.ext' rfl rfl
theorem M.tick_lay (a : Int) : ∀ (vs : List Int) (m : M) (o : Nat), (m.tick a).lay o vs = (m.lay o vs).tick a
  | [], _, _ => rfl
  | v :: vs, m, o => by simp only [M.lay, M.tick_put, M.tick_lay a vs]
theorem M.tick_at' (m : M) (a : Int) (j : Int) : (m.tick a).at j = m.at j := rfl

theorem M.copyE_or (m : M) (x y k : Int) : m.copyE x y k = 0 ∨ (m.copyE x y k = 20 ∧ m.copyX x y k = m) := by
  unfold M.copyE M.copyX
  split
  · exact .inl rfl
  · exact .inr ⟨rfl, rfl⟩
theorem M.fillE_or (m : M) (x k v : Int) : m.fillE x k = 0 ∨ (m.fillE x k = 20 ∧ m.fillX x k v = m) := by
  unfold M.fillE M.fillX
  split
  · exact .inl rfl
  · exact .inr ⟨rfl, rfl⟩
theorem M.loadX_n (m : M) (x : Int) (vs : List Int) : (m.loadX x vs).n = m.n := by
  unfold M.loadX; split
  · exact M.lay_n _ _ _
  · rfl
theorem MB_0 {b : Nat} {m : M} : (MB b m).cells[0]? = some (.sl (.g b) 0 m.w.length m.w.length) := by rfl
theorem MB_1 {b : Nat} {m : M} : (MB b m).cells[1]? = some (.i .i64 m.n) := by rfl
theorem MB_st {b : Nat} {m : M} : (MB b m).st = .rw := by rfl
theorem lstB_MW {n : Nat} {m : M} : lstB n (some (MW m)) = lenIs n m.w := by
  show (unwc (wc m.w)).bind (lenIs n) = _
  rw [unwc_wc]; rfl
theorem blk_ren (ρ : R → R) (st : BK) (c : List S) (n : Nat) : Blk.ren ρ ⟨st, c, n⟩ = ⟨st, c.map (S.ren ρ), n⟩ := rfl
end Go.Proofs.Yteeeidldknlblaa

/- Law 02: awake. -/
namespace Go.Proofs.Yteeeidldknlblaa
open Go.D
set_option linter.all false
set_option maxRecDepth 100000
set_option maxHeartbeats 4000000

noncomputable def T2 : Tab := addT 23 newM (addT 24 write2G (addT 30 read2G (addT 25 stepsG (addT 29 fill2G (addT 28 copy2G (addT 26 dumpG (addT 27 load2G (addT 34 wordsG (addT 31 sameWG (addT 32 newM (addT 61 write2G (addT 44 read2G (addT 62 fill2G (addT 65 load2G (noT)))))))))))))))
theorem T2_snd : T2.Snd Try.prog := addT_snd ok23 new_snd (addT_snd ok24 write2_snd (addT_snd ok30 read2_snd (addT_snd ok25 msteps_snd (addT_snd ok29 fill2_snd (addT_snd ok28 copy2_snd (addT_snd ok26 mdump_snd (addT_snd ok27 load2_snd (addT_snd ok34 mwords_snd (addT_snd ok31 sameW_snd (addT_snd ok32 rnew_snd (addT_snd ok61 rwrite2_snd (addT_snd ok44 rread2_snd (addT_snd ok62 rfill2_snd (addT_snd ok65 rload2_snd ((noT_snd _))))))))))))))))

def awake2G : List V → List Blk → Res
  | [], h => .ok (.s (.b true)) [] h
  | _, _ => .bad
theorem awake2_snd : Snd Try.prog 22 (FSpec.of awake2G) := snd_cut T2_snd mixed Try.func22 dc22 400 fun args h K hc hS => by
  unfold awake2G at hS
  split at hS
  · simp only [spec_ok] at hS
    have l0 : (M.zero 11).w.length = 2048 := M.zero_len 11
    obtain ⟨m0, hm⟩ : ∃ m, M.zero 11 = m := ⟨_, rfl⟩
    have z0 : ∀ j, m0.at j = 0 := fun j => by rw [← hm]; exact M.at_zero 11 j
    rw [hm] at l0
    have n0 : m0.n = 0 := by rw [← hm]; rfl
    have w1 : m0.readE 2047 = 0 := by simp only [M.readE, M.has_of (m := m0) (a := 2047) (k := 1) (by omega), if_true]
    obtain ⟨m1, h1⟩ : ∃ m, m0.writeX 2047 7 = m := ⟨_, rfl⟩
    have w1e : m1 = (m0.put 2047 7).tick 1 := by rw [← h1, M.writeX, M.has_of (by omega)]; rfl
    have l1 : m1.w.length = 2048 := by rw [w1e, M.tick_len, M.put_len, l0]
    have r1 : m1.readV 2047 = 7 := by
      rw [M.readV, M.has_of (by omega), if_pos rfl, w1e, M.at_tick, M.at_put, if_pos ⟨rfl, by omega⟩]; rfl
    have e1 : m1.readE 2047 = 0 := by rw [M.readE, M.has_of (by omega)]; rfl
    obtain ⟨m2, h2⟩ : ∃ m, m1.readX 2047 = m := ⟨_, rfl⟩
    have w2e : m2 = m1.tick 1 := by rw [← h2, M.readX, M.has_of (by omega)]; rfl
    have l2 : m2.w.length = 2048 := by rw [w2e, M.tick_len, l1]
    have e2 : m2.readE 2048 = 20 := by rw [M.readE, M.has_no (by omega)]; rfl
    have v2 : m2.readX 2048 = m2 := by simp only [M.readX, M.has_no (m := m2) (a := 2048) (k := 1) (by omega), Bool.false_eq_true, if_false]
    have n2 : m2.n = 2 := by
      rw [w2e, w1e, M.tick_wrap _ _ 0, M.tick_wrap _ _ 0, M.put_n, n0]; decide
    have e3 : m2.fillE 10 3 = 0 := by rw [M.fillE, M.has_of (by omega)]; rfl
    obtain ⟨m3, h3⟩ : ∃ m, m2.fillX 10 3 9 = m := ⟨_, rfl⟩
    have w3e : m3 = (m2.fill 10 9 3).tick 3 := by rw [← h3, M.fillX, M.has_of (by omega)]; rfl
    have l3 : m3.w.length = 2048 := by rw [w3e, M.tick_len, M.fill_len, l2]
    have e4 : m3.copyE 10 11 3 = 0 := by rw [M.copyE, M.has_of (by omega), M.has_of (by omega)]; rfl
    obtain ⟨m4, h4⟩ : ∃ m, m3.copyX 10 11 3 = m := ⟨_, rfl⟩
    have w4e : m4 = m3.copy 10 11 3 := by rw [← h4, M.copyX, M.has_of (by omega), M.has_of (by omega)]; rfl
    have l4 : m4.w.length = 2048 := by rw [w4e, M.copy_len, l3]
    have hd : m4.has 9 5 = true := M.has_of (by omega)
    have u9 : u64 9 := by simp only [u64]; omega
    have u7 : u64 7 := by simp only [u64]; omega
    have a3 : ∀ j : Nat, j < 2047 → m3.at (j : Int) = if 10 ≤ j ∧ j < 13 then 9 else 0 := fun j hj => by
      rw [w3e, M.at_tick, M.fill_at _ _ _ _ _ (by omega), Int.toNat_natCast]
      split
      · rfl
      · rw [w2e, M.at_tick, w1e, M.at_tick, M.at_put, if_neg (by omega), z0]
    have wl : (m4.w.drop 9).take 5 = [0, 9, 9, 9, 9] := M.part_ext (by omega) rfl fun i hi => by
      rw [w4e, M.at_copy _ _ _ _ _ (by omega) (by omega), Int.toNat_natCast]
      by_cases g : 11 ≤ 9 + i ∧ 9 + i < 11 + 3
      · rw [if_pos g, a3 _ (by omega), if_pos (by omega)]
        have : i = 2 ∨ i = 3 ∨ i = 4 := by omega
        rcases this with rfl | rfl | rfl <;> rfl
      · rw [if_neg g, a3 _ (by omega)]
        have : i = 0 ∨ i = 1 := by omega
        rcases this with rfl | rfl <;> rfl
    simp (config := { maxSteps := 10000000 }) only [EV1, EV2, EV3, EV4, EV5, EV6, addT, istep, lenR_sl, lenR_ns, lenR_es, pickR, putD, bin1R, un1R, slcR, bnd, capsOf, fillP, S_plain, V_plain, V.cells, S_known, V_known, C.v, blk, setL, setH, eqS, eq1, cmpS, cmp1, isNil, popTo, killT, setT, leT, V.below, C.below, S_below, R.below, V.val, C.val, S_val, R.val, R.takes, vals, shows, List.any_cons, List.any_nil, unnamed, V.kill, V.names, C.names, S_names, R.names, List.set, List.replicate, ↓q_cond_t, ↓q_cond_f, if_true, if_false, reduceCtorEq, rvals, rvC, result, C_known, V.noL, C.noL, S_noL, R.noL, Option.map, true_and, and_true, ge_iff_le, gt_iff_lt, implies_true, q_ite_t, q_ite_f, beq_iff_eq, bne_iff_ne, q_ne, Nat.reduceAdd, Nat.reducePow, Int.reducePow, Nat.reduceMul, Nat.reduceSub, Nat.reduceLeDiff, Nat.reduceLT, Nat.reduceEqDiff, Int.reduceNeg, Int.reduceLT, Int.reduceLE, Int.reduceEq, Int.reduceNe, Int.reduceAdd, Int.reduceSub, Int.reduceMul, Int.reduceToNat, Int.reduceBEq, Int.reduceBNe, df22, T2, newM, memH, app_len, n21, memF_0, write2G, write2M, read2G, read2M, stepsG, stepsM, fill2G, fill2M, copy2G, copy2M, dumpG, dumpM, hm, u9, u7, w1, h1, r1, e1, h2, e2, v2, n2, e3, h3, e4, h4, hd, put, fillP]
    intro c hc1
    simp (config := { maxSteps := 10000000 }) only [EV1, EV2, EV3, EV4, EV5, EV6, addT, istep, lenR_sl, lenR_ns, lenR_es, pickR, putD, bin1R, un1R, slcR, bnd, capsOf, fillP, S_plain, V_plain, V.cells, S_known, V_known, C.v, blk, setL, setH, eqS, eq1, cmpS, cmp1, isNil, popTo, killT, setT, leT, V.below, C.below, S_below, R.below, V.val, C.val, S_val, R.val, R.takes, vals, shows, List.any_cons, List.any_nil, unnamed, V.kill, V.names, C.names, S_names, R.names, List.set, List.replicate, ↓q_cond_t, ↓q_cond_f, if_true, if_false, reduceCtorEq, rvals, rvC, result, C_known, V.noL, C.noL, S_noL, R.noL, Option.map, true_and, and_true, ge_iff_le, gt_iff_lt, implies_true, q_ite_t, q_ite_f, beq_iff_eq, bne_iff_ne, q_ne, Nat.reduceAdd, Nat.reducePow, Int.reducePow, Nat.reduceMul, Nat.reduceSub, Nat.reduceLeDiff, Nat.reduceLT, Nat.reduceEqDiff, Int.reduceNeg, Int.reduceLT, Int.reduceLE, Int.reduceEq, Int.reduceNe, Int.reduceAdd, Int.reduceSub, Int.reduceMul, Int.reduceToNat, Int.reduceBEq, Int.reduceBNe, T2, sameWG, wl, R.lend, R.unlend, S_ren, C.ren, V.ren, app_taken, app_dropn, app_take0, app_drop0, List.take_succ_cons, List.take_zero, List.drop_succ_cons, List.drop_zero, Nat.not_lt_zero, Nat.lt_irrefl, Nat.add_sub_cancel_left, Nat.not_lt, Nat.le_add_right, Blk.ren, List.map_cons, List.map_nil, app_len, n21, listOf_g, app_getn, lstB_rw, unwc_wc, unwc_cons, unwc_nil, o_bind, lenIs_t, some_is]
    refine ⟨?_, cut_app (Nat.le_refl _) hc rfl hS⟩
    rw [clean_h hc (by omega)]
    simp only [clean_cons, clean_nil, vals_MB, MW_vals, vals_wc]; decide
  · exact hS.elim
end Go.Proofs.Yteeeidldknlblaa

/- Law 02: MemHalves. -/
namespace Go.Proofs.Yteeeidldknlblaa
open Go.D
set_option linter.all false
set_option maxRecDepth 100000
set_option maxHeartbeats 4000000

noncomputable def T3 : Tab := addT 22 awake2G (T2)
theorem T3_snd : T3.Snd Try.prog := addT_snd ok22 awake2_snd (T2_snd)
structure MOp where
  what : Int
  addr : Int
  to : Int
  words : Int
  w : Int
  s : S
def MOp.c (x : MOp) : List S := [.i .i64 x.what, .i .i64 x.addr, .i .i64 x.to, .i .i64 x.words, .i .u64 x.w, x.s]
theorem MOp.c_len (x : MOp) : x.c.length = 6 := rfl
instance : Cells MOp.c := ⟨⟨6, MOp.c_len⟩, fun x y e => by
  obtain ⟨a, b, c, d, w, s⟩ := x
  obtain ⟨a', b', c', d', w', s'⟩ := y
  simp only [MOp.c, List.cons.injEq, S.i.injEq, true_and, and_true] at e
  obtain ⟨rfl, rfl, rfl, rfl, rfl, rfl⟩ := e
  rfl⟩
/-- Its words. -/
noncomputable def MOp.l (h : List Blk) (x : MOp) : List Int := (listOf h x.s).getD []
/-- What is asked of an Op. -/
structure MOp.Ok (h : List Blk) (x : MOp) : Prop where
  u : u64 x.w
  s : IsList h x.s (x.l h)
  a : ∀ v, v ∈ x.l h → u64 v
  n : (x.l h).length ≤ 140737488355328
theorem MOp.ok_of {h : List Blk} {x : MOp} {l : List Int} (u : u64 x.w) (s : IsList h x.s l) (a : ∀ v, v ∈ l → u64 v) (n : l.length ≤ 140737488355328) : x.Ok h := by
  have e : x.l h = l := by rw [MOp.l, listOf_eq s]; rfl
  exact ⟨u, by rw [e]; exact s, by rw [e]; exact a, by rw [e]; exact n⟩

theorem IsList.apart {h : List Blk} {s : S} {vs : List Int} (H : IsList h s vs) {b : Nat} (hb : h.length ≤ b) : apartS b s := by
  rcases H with ⟨rfl | ⟨a, c', rfl⟩, rfl⟩ | ⟨j, o, c, B, rfl, e1, rfl⟩ | ⟨j, o, c, B, rfl, e1, hd, hl, e2⟩
  · trivial
  · trivial
  · have := (List.getElem?_eq_some_iff.1 e1).1
    show j ≠ b
    omega
  · have := (List.getElem?_eq_some_iff.1 e1).1
    show j ≠ b
    omega
theorem M.copyE_0 {m : M} {x y k : Int} : m.copyE x y k = 0 ↔ m.has x k = true ∧ m.has y k = true := by
  unfold M.copyE
  split
  · rename_i h; simpa using h
  · rename_i h; simpa using h
theorem M.fillE_0 {m : M} {x k : Int} : m.fillE x k = 0 ↔ m.has x k = true := by
  unfold M.fillE
  split
  · rename_i h; simpa using h
  · rename_i h; simpa using h
theorem M.copyX_len (m : M) (x y k : Int) : (m.copyX x y k).w.length = m.w.length := by
  unfold M.copyX; split
  · exact M.copy_len _ _ _ _
  · rfl
theorem M.fillX_len (m : M) (x k v : Int) : (m.fillX x k v).w.length = m.w.length := by
  unfold M.fillX; split
  · rw [M.tick_len, M.fill_len]
  · rfl
theorem M.copyX_t {m : M} {i j k : Nat} (h1 : m.has i k = true) (h2 : m.has j k = true) : m.copyX i j k = m.copy i j k := by
  simp only [M.copyX, h1, h2, Bool.and_self, if_true, Int.toNat_natCast]
theorem M.fillX_t {m : M} {i k : Nat} {v : Int} (h1 : m.has i k = true) : m.fillX i k v = (m.fill i v k).tick k := by
  simp only [M.fillX, h1, if_true, Int.toNat_natCast]
def halvesS : FSpec := fun args h K => ∃ s vs x cut, args = [.s s, .agg (MOp.c x), .s (.i .i64 cut)] ∧ IsList h s vs ∧ (∀ v, v ∈ vs → u64 v) ∧ MOp.Ok h x ∧ ∀ h', K (.s (.b true)) h'
theorem halves_snd : Snd Try.prog 6 halvesS := (fwp_sound (Tab.snd_Γ T3_snd) mixed Try.func6 dc6).weaken fun args h K hc hS => by
  obtain ⟨s, vs, x, cut, rfl, Hs, hu, hx, hK⟩ := hS
  refine fwp_run (Tab.ok_Γ _) 600 ?_
  have hlen := fun ls h' => Hs.sl.len (ls := ls) (h := h')
  have hkn := Hs.sl.known
  have hnl := Hs.sl.noL
  have hl : ∀ X, listOf (h ++ X) s = some vs := Hs.of
  have ha1 : apartS (h.length + 1) s := Hs.apart (by omega)
  have ha3 : apartS (h.length + 3) s := Hs.apart (by omega)
  obtain ⟨what, addr, to, words, w, sx⟩ := x
  simp only [MOp.c]
  have hw : u64 w := hx.u
  have hkx := hx.s.sl.known
  simp only at hkx
  by_cases c0 : (2048 : Int) < vs.length
  · simp (config := { maxSteps := 10000000 }) only [EV1, EV2, EV3, EV4, EV5, EV6, addT, istep, lenR_sl, lenR_ns, lenR_es, pickR, putD, bin1R, un1R, slcR, bnd, capsOf, fillP, S_plain, V_plain, V.cells, S_known, V_known, C.v, blk, setL, setH, eqS, eq1, cmpS, cmp1, isNil, popTo, killT, setT, leT, V.below, C.below, S_below, R.below, V.val, C.val, S_val, R.val, R.takes, vals, shows, List.any_cons, List.any_nil, unnamed, V.kill, V.names, C.names, S_names, R.names, List.set, List.replicate, ↓q_cond_t, ↓q_cond_f, if_true, if_false, reduceCtorEq, rvals, rvC, result, C_known, V.noL, C.noL, S_noL, R.noL, Option.map, true_and, and_true, ge_iff_le, gt_iff_lt, implies_true, q_ite_t, q_ite_f, beq_iff_eq, bne_iff_ne, q_ne, Nat.reduceAdd, Nat.reducePow, Int.reducePow, Nat.reduceMul, Nat.reduceSub, Nat.reduceLeDiff, Nat.reduceLT, Nat.reduceEqDiff, Int.reduceNeg, Int.reduceLT, Int.reduceLE, Int.reduceEq, Int.reduceNe, Int.reduceAdd, Int.reduceSub, Int.reduceMul, Int.reduceToNat, Int.reduceBEq, Int.reduceBNe, df6, ↓hlen, ↓hkx, c0]
    exact hK _
  obtain ⟨z, hz⟩ : ∃ z, M.zero 11 = z := ⟨_, rfl⟩
  have l0 : z.w.length = 2048 := by rw [← hz]; exact M.zero_len 11
  have z0 : z.n = 0 := by rw [← hz]; rfl
  have h0 : z.has 0 vs.length = true := M.has_of (by omega)
  have e0 : z.loadE 0 vs = 0 := by rw [M.loadE, h0]; rfl
  obtain ⟨m, hm⟩ : ∃ m, z.loadX 0 vs = m := ⟨_, rfl⟩
  have lm : m.w.length = 2048 := by rw [← hm, M.loadX_len, l0]
  simp (config := { maxSteps := 10000000 }) only [EV1, EV2, EV3, EV4, EV5, EV6, addT, istep, lenR_sl, lenR_ns, lenR_es, pickR, putD, bin1R, un1R, slcR, bnd, capsOf, fillP, S_plain, V_plain, V.cells, S_known, V_known, C.v, blk, setL, setH, eqS, eq1, cmpS, cmp1, isNil, popTo, killT, setT, leT, V.below, C.below, S_below, R.below, V.val, C.val, S_val, R.val, R.takes, vals, shows, List.any_cons, List.any_nil, unnamed, V.kill, V.names, C.names, S_names, R.names, List.set, List.replicate, ↓q_cond_t, ↓q_cond_f, if_true, if_false, reduceCtorEq, rvals, rvC, result, C_known, V.noL, C.noL, S_noL, R.noL, Option.map, true_and, and_true, ge_iff_le, gt_iff_lt, implies_true, q_ite_t, q_ite_f, beq_iff_eq, bne_iff_ne, q_ne, Nat.reduceAdd, Nat.reducePow, Int.reducePow, Nat.reduceMul, Nat.reduceSub, Nat.reduceLeDiff, Nat.reduceLT, Nat.reduceEqDiff, Int.reduceNeg, Int.reduceLT, Int.reduceLE, Int.reduceEq, Int.reduceNe, Int.reduceAdd, Int.reduceSub, Int.reduceMul, Int.reduceToNat, Int.reduceBEq, Int.reduceBNe, df6, ↓hlen, c0, T3, T2, awake2G, newM, memH, app_len, n21, memF_0, memF_2, load2G, memAt_0, memAt_2, ↓hl, ha1, ha3, hu, hz, e0, at0_set, at2_set, hm, ↓hkn, ↓hnl, ↓hkx]
  refine ⟨hu, hu, fun _ => hK _, fun c1 => ⟨fun _ => hK _, fun c2 => ⟨fun c3 => ?_, fun c3 => ?_⟩⟩⟩
  · have p0 : 0 ≤ addr ∧ 0 ≤ to ∧ 0 ≤ cut ∧ 0 ≤ words := by omega
    obtain ⟨i, rfl⟩ : ∃ a : Nat, addr = a := ⟨addr.toNat, by omega⟩
    obtain ⟨j, rfl⟩ : ∃ a : Nat, to = a := ⟨to.toNat, by omega⟩
    obtain ⟨u, rfl⟩ : ∃ a : Nat, cut = a := ⟨cut.toNat, by omega⟩
    obtain ⟨k, rfl⟩ : ∃ a : Nat, words = a := ⟨words.toNat, by omega⟩
    have huk : u ≤ k := by omega
    have x1 : IntKind.i64.wrap ((i : Int) + u) = ((i + u : Nat) : Int) := by rw [wrap64] <;> omega
    have x2 : IntKind.i64.wrap ((j : Int) + u) = ((j + u : Nat) : Int) := by rw [wrap64] <;> omega
    have x3 : IntKind.i64.wrap ((k : Int) - u) = ((k - u : Nat) : Int) := by rw [wrap64] <;> omega
    have x4 : IntKind.i64.wrap ((j : Int) + k) = ((j + k : Nat) : Int) := by rw [wrap64] <;> omega
    have x5 : IntKind.i64.wrap ((i : Int) + k) = ((i + k : Nat) : Int) := by rw [wrap64] <;> omega
    rw [x4, x5] at c2
    obtain ⟨g, hg⟩ : ∃ g, m.copyE i j k = g := ⟨_, rfl⟩
    obtain ⟨p, hp⟩ : ∃ g, m.copyE i j u = g := ⟨_, rfl⟩
    obtain ⟨ma, hma⟩ : ∃ g, m.copyX i j k = g := ⟨_, rfl⟩
    obtain ⟨m1, hm1⟩ : ∃ g, m.copyX i j u = g := ⟨_, rfl⟩
    obtain ⟨q, hq⟩ : ∃ g, m1.copyE ((i + u : Nat) : Int) ((j + u : Nat) : Int) ((k - u : Nat) : Int) = g := ⟨_, rfl⟩
    obtain ⟨m2, hm2⟩ : ∃ g, m1.copyX ((i + u : Nat) : Int) ((j + u : Nat) : Int) ((k - u : Nat) : Int) = g := ⟨_, rfl⟩
    simp (config := { maxSteps := 10000000 }) only [EV1, EV2, EV3, EV4, EV5, EV6, addT, istep, lenR_sl, lenR_ns, lenR_es, pickR, putD, bin1R, un1R, slcR, bnd, capsOf, fillP, S_plain, V_plain, V.cells, S_known, V_known, C.v, blk, setL, setH, eqS, eq1, cmpS, cmp1, isNil, popTo, killT, setT, leT, V.below, C.below, S_below, R.below, V.val, C.val, S_val, R.val, R.takes, vals, shows, List.any_cons, List.any_nil, unnamed, V.kill, V.names, C.names, S_names, R.names, List.set, List.replicate, ↓q_cond_t, ↓q_cond_f, if_true, if_false, reduceCtorEq, rvals, rvC, result, C_known, V.noL, C.noL, S_noL, R.noL, Option.map, true_and, and_true, ge_iff_le, gt_iff_lt, implies_true, q_ite_t, q_ite_f, beq_iff_eq, bne_iff_ne, q_ne, Nat.reduceAdd, Nat.reducePow, Int.reducePow, Nat.reduceMul, Nat.reduceSub, Nat.reduceLeDiff, Nat.reduceLT, Nat.reduceEqDiff, Int.reduceNeg, Int.reduceLT, Int.reduceLE, Int.reduceEq, Int.reduceNe, Int.reduceAdd, Int.reduceSub, Int.reduceMul, Int.reduceToNat, Int.reduceBEq, Int.reduceBNe, T3, T2, memF_0, memF_2, copy2G, copy2M, x1, x2, x3, hg, hp, hma, hm1, hq, hm2]
    refine ⟨fun c4 => ?_, fun c4 => ?_⟩
    · have : (p != 0 || q != 0) = true := Classical.byContradiction fun e => c4 (by
        simp only [Bool.or_eq_true, bne_iff_ne, ne_eq, not_or, Classical.not_not] at e
        rw [← hg, M.copyE_0]
        have e1 := M.copyE_0.1 (hp.trans e.1)
        have e2 := M.copyE_0.1 (hq.trans e.2)
        have l1 : m1.w.length = m.w.length := by rw [← hm1, M.copyX_len]
        simp only [M.has_iff, l1] at e1 e2 ⊢
        omega)
      rw [this]
      exact hK _
    · obtain ⟨e1, e2⟩ := M.copyE_0.1 (hg.trans c4)
      have b1 := M.has_iff.1 e1
      have b2 := M.has_iff.1 e2
      have f1 : m.has (i : Int) (u : Int) = true := M.has_of (by omega)
      have f2 : m.has (j : Int) (u : Int) = true := M.has_of (by omega)
      have k1 := M.copyX_t f1 f2
      have k0 := M.copyX_t e1 e2
      have l1 : m1.w.length = m.w.length := by rw [← hm1, M.copyX_len]
      have f3 : m1.has ((i + u : Nat) : Int) ((k - u : Nat) : Int) = true := M.has_of (by omega)
      have f4 : m1.has ((j + u : Nat) : Int) ((k - u : Nat) : Int) = true := M.has_of (by omega)
      have k2 := M.copyX_t f3 f4
      obtain rfl : p = 0 := by rw [← hp]; exact M.copyE_0.2 ⟨f1, f2⟩
      obtain rfl : q = 0 := by rw [← hq]; exact M.copyE_0.2 ⟨f3, f4⟩
      have hh := M.copy_halves (m := m) (x := i) (y := j) (c := u) (k := k) huk (by omega) (by omega) (by omega)
      rw [← k1, hm1, ← k2, hm2, ← k0, hma] at hh
      obtain ⟨hw1, hn1⟩ := hh
      have lma : ma.w.length = 2048 := by rw [← hma, M.copyX_len, lm]
      have lm2 : m2.w.length = 2048 := by rw [hw1, lma]
      have hd1 : ma.has 0 2048 = true := M.has_of (by omega)
      have hd2 : m2.has 0 2048 = true := M.has_of (by omega)
      have wl1 := take_all lma
      have wl2 : m2.w.take 2048 = ma.w := by rw [take_all lm2, hw1]
      have hb : ma.w.length ≤ 8796093022208 := by omega
      simp (config := { maxSteps := 10000000 }) only [EV1, EV2, EV3, EV4, EV5, EV6, addT, istep, lenR_sl, lenR_ns, lenR_es, pickR, putD, bin1R, un1R, slcR, bnd, capsOf, fillP, S_plain, V_plain, V.cells, S_known, V_known, C.v, blk, setL, setH, eqS, eq1, cmpS, cmp1, isNil, popTo, killT, setT, leT, V.below, C.below, S_below, R.below, V.val, C.val, S_val, R.val, R.takes, vals, shows, List.any_cons, List.any_nil, unnamed, V.kill, V.names, C.names, S_names, R.names, List.set, List.replicate, ↓q_cond_t, ↓q_cond_f, if_true, if_false, reduceCtorEq, rvals, rvC, result, C_known, V.noL, C.noL, S_noL, R.noL, Option.map, true_and, and_true, ge_iff_le, gt_iff_lt, implies_true, q_ite_t, q_ite_f, beq_iff_eq, bne_iff_ne, q_ne, Nat.reduceAdd, Nat.reducePow, Int.reducePow, Nat.reduceMul, Nat.reduceSub, Nat.reduceLeDiff, Nat.reduceLT, Nat.reduceEqDiff, Int.reduceNeg, Int.reduceLT, Int.reduceLE, Int.reduceEq, Int.reduceNe, Int.reduceAdd, Int.reduceSub, Int.reduceMul, Int.reduceToNat, Int.reduceBEq, Int.reduceBNe, T3, T2, memF_0, memF_2, dumpG, dumpM, hd1, hd2, wl1, wl2, List.drop_zero]
      intro c5 hc5 c6 hc6
      simp (config := { maxSteps := 10000000 }) only [EV1, EV2, EV3, EV4, EV5, EV6, addT, istep, lenR_sl, lenR_ns, lenR_es, pickR, putD, bin1R, un1R, slcR, bnd, capsOf, fillP, S_plain, V_plain, V.cells, S_known, V_known, C.v, blk, setL, setH, eqS, eq1, cmpS, cmp1, isNil, popTo, killT, setT, leT, V.below, C.below, S_below, R.below, V.val, C.val, S_val, R.val, R.takes, vals, shows, List.any_cons, List.any_nil, unnamed, V.kill, V.names, C.names, S_names, R.names, List.set, List.replicate, ↓q_cond_t, ↓q_cond_f, if_true, if_false, reduceCtorEq, rvals, rvC, result, C_known, V.noL, C.noL, S_noL, R.noL, Option.map, true_and, and_true, ge_iff_le, gt_iff_lt, implies_true, q_ite_t, q_ite_f, beq_iff_eq, bne_iff_ne, q_ne, Nat.reduceAdd, Nat.reducePow, Int.reducePow, Nat.reduceMul, Nat.reduceSub, Nat.reduceLeDiff, Nat.reduceLT, Nat.reduceEqDiff, Int.reduceNeg, Int.reduceLT, Int.reduceLE, Int.reduceEq, Int.reduceNe, Int.reduceAdd, Int.reduceSub, Int.reduceMul, Int.reduceToNat, Int.reduceBEq, Int.reduceBNe, T3, T2, memF_0, memF_2, sameWG, wl1, wl2, listOf_g, app_getn, lstB_rw, unwc_wc, o_bind, lenIs_t, lma, some_is, hb, stepsG, stepsM, hn1]
      exact hK _
  · by_cases p0 : 0 ≤ addr ∧ 0 ≤ to ∧ 0 ≤ cut ∧ 0 ≤ words
    · obtain ⟨i, rfl⟩ : ∃ a : Nat, addr = a := ⟨addr.toNat, by omega⟩
      obtain ⟨u, rfl⟩ : ∃ a : Nat, cut = a := ⟨cut.toNat, by omega⟩
      obtain ⟨k, rfl⟩ : ∃ a : Nat, words = a := ⟨words.toNat, by omega⟩
      have huk : u ≤ k := by omega
      have x1 : IntKind.i64.wrap ((i : Int) + u) = ((i + u : Nat) : Int) := by rw [wrap64] <;> omega
      have x3 : IntKind.i64.wrap ((k : Int) - u) = ((k - u : Nat) : Int) := by rw [wrap64] <;> omega
      obtain ⟨g, hg⟩ : ∃ g, m.fillE i k = g := ⟨_, rfl⟩
      obtain ⟨p, hp⟩ : ∃ g, m.fillE i u = g := ⟨_, rfl⟩
      obtain ⟨ma, hma⟩ : ∃ g, m.fillX i k w = g := ⟨_, rfl⟩
      obtain ⟨m1, hm1⟩ : ∃ g, m.fillX i u w = g := ⟨_, rfl⟩
      obtain ⟨q, hq⟩ : ∃ g, m1.fillE ((i + u : Nat) : Int) ((k - u : Nat) : Int) = g := ⟨_, rfl⟩
      obtain ⟨m2, hm2⟩ : ∃ g, m1.fillX ((i + u : Nat) : Int) ((k - u : Nat) : Int) w = g := ⟨_, rfl⟩
      simp (config := { maxSteps := 10000000 }) only [EV1, EV2, EV3, EV4, EV5, EV6, addT, istep, lenR_sl, lenR_ns, lenR_es, pickR, putD, bin1R, un1R, slcR, bnd, capsOf, fillP, S_plain, V_plain, V.cells, S_known, V_known, C.v, blk, setL, setH, eqS, eq1, cmpS, cmp1, isNil, popTo, killT, setT, leT, V.below, C.below, S_below, R.below, V.val, C.val, S_val, R.val, R.takes, vals, shows, List.any_cons, List.any_nil, unnamed, V.kill, V.names, C.names, S_names, R.names, List.set, List.replicate, ↓q_cond_t, ↓q_cond_f, if_true, if_false, reduceCtorEq, rvals, rvC, result, C_known, V.noL, C.noL, S_noL, R.noL, Option.map, true_and, and_true, ge_iff_le, gt_iff_lt, implies_true, q_ite_t, q_ite_f, beq_iff_eq, bne_iff_ne, q_ne, Nat.reduceAdd, Nat.reducePow, Int.reducePow, Nat.reduceMul, Nat.reduceSub, Nat.reduceLeDiff, Nat.reduceLT, Nat.reduceEqDiff, Int.reduceNeg, Int.reduceLT, Int.reduceLE, Int.reduceEq, Int.reduceNe, Int.reduceAdd, Int.reduceSub, Int.reduceMul, Int.reduceToNat, Int.reduceBEq, Int.reduceBNe, T3, T2, memF_0, memF_2, fill2G, fill2M, hw, x1, x3, hg, hp, hma, hm1, hq, hm2]
      refine ⟨fun c4 => ?_, fun c4 => ?_⟩
      · have : (p != 0 || q != 0) = true := Classical.byContradiction fun e => c4 (by
          simp only [Bool.or_eq_true, bne_iff_ne, ne_eq, not_or, Classical.not_not] at e
          rw [← hg, M.fillE_0]
          have e1 := M.fillE_0.1 (hp.trans e.1)
          have e2 := M.fillE_0.1 (hq.trans e.2)
          have l1 : m1.w.length = m.w.length := by rw [← hm1, M.fillX_len]
          simp only [M.has_iff, l1] at e1 e2 ⊢
          omega)
        rw [this]
        exact hK _
      · have e1 := M.fillE_0.1 (hg.trans c4)
        have b1 := M.has_iff.1 e1
        have f1 : m.has (i : Int) (u : Int) = true := M.has_of (by omega)
        have k1 := M.fillX_t (v := w) f1
        have k0 := M.fillX_t (v := w) e1
        have l1 : m1.w.length = m.w.length := by rw [← hm1, M.fillX_len]
        have f3 : m1.has ((i + u : Nat) : Int) ((k - u : Nat) : Int) = true := M.has_of (by omega)
        have k2 := M.fillX_t (v := w) f3
        obtain rfl : p = 0 := by rw [← hp]; exact M.fillE_0.2 f1
        obtain rfl : q = 0 := by rw [← hq]; exact M.fillE_0.2 f3
        have hh := M.fill_halves (m := m) (a := i) (x := w) (c := u) (k := k) huk (by omega)
        rw [← k1, hm1, ← k2, hm2, ← k0, hma] at hh
        obtain ⟨hw1, hn1⟩ := hh
        have lma : ma.w.length = 2048 := by rw [← hma, M.fillX_len, lm]
        have lm2 : m2.w.length = 2048 := by rw [hw1, lma]
        have hd1 : ma.has 0 2048 = true := M.has_of (by omega)
        have hd2 : m2.has 0 2048 = true := M.has_of (by omega)
        have wl1 := take_all lma
        have wl2 : m2.w.take 2048 = ma.w := by rw [take_all lm2, hw1]
        have hb : ma.w.length ≤ 8796093022208 := by omega
        simp (config := { maxSteps := 10000000 }) only [EV1, EV2, EV3, EV4, EV5, EV6, addT, istep, lenR_sl, lenR_ns, lenR_es, pickR, putD, bin1R, un1R, slcR, bnd, capsOf, fillP, S_plain, V_plain, V.cells, S_known, V_known, C.v, blk, setL, setH, eqS, eq1, cmpS, cmp1, isNil, popTo, killT, setT, leT, V.below, C.below, S_below, R.below, V.val, C.val, S_val, R.val, R.takes, vals, shows, List.any_cons, List.any_nil, unnamed, V.kill, V.names, C.names, S_names, R.names, List.set, List.replicate, ↓q_cond_t, ↓q_cond_f, if_true, if_false, reduceCtorEq, rvals, rvC, result, C_known, V.noL, C.noL, S_noL, R.noL, Option.map, true_and, and_true, ge_iff_le, gt_iff_lt, implies_true, q_ite_t, q_ite_f, beq_iff_eq, bne_iff_ne, q_ne, Nat.reduceAdd, Nat.reducePow, Int.reducePow, Nat.reduceMul, Nat.reduceSub, Nat.reduceLeDiff, Nat.reduceLT, Nat.reduceEqDiff, Int.reduceNeg, Int.reduceLT, Int.reduceLE, Int.reduceEq, Int.reduceNe, Int.reduceAdd, Int.reduceSub, Int.reduceMul, Int.reduceToNat, Int.reduceBEq, Int.reduceBNe, T3, T2, memF_0, memF_2, dumpG, dumpM, hd1, hd2, wl1, wl2, List.drop_zero]
        intro c5 hc5 c6 hc6
        simp (config := { maxSteps := 10000000 }) only [EV1, EV2, EV3, EV4, EV5, EV6, addT, istep, lenR_sl, lenR_ns, lenR_es, pickR, putD, bin1R, un1R, slcR, bnd, capsOf, fillP, S_plain, V_plain, V.cells, S_known, V_known, C.v, blk, setL, setH, eqS, eq1, cmpS, cmp1, isNil, popTo, killT, setT, leT, V.below, C.below, S_below, R.below, V.val, C.val, S_val, R.val, R.takes, vals, shows, List.any_cons, List.any_nil, unnamed, V.kill, V.names, C.names, S_names, R.names, List.set, List.replicate, ↓q_cond_t, ↓q_cond_f, if_true, if_false, reduceCtorEq, rvals, rvC, result, C_known, V.noL, C.noL, S_noL, R.noL, Option.map, true_and, and_true, ge_iff_le, gt_iff_lt, implies_true, q_ite_t, q_ite_f, beq_iff_eq, bne_iff_ne, q_ne, Nat.reduceAdd, Nat.reducePow, Int.reducePow, Nat.reduceMul, Nat.reduceSub, Nat.reduceLeDiff, Nat.reduceLT, Nat.reduceEqDiff, Int.reduceNeg, Int.reduceLT, Int.reduceLE, Int.reduceEq, Int.reduceNe, Int.reduceAdd, Int.reduceSub, Int.reduceMul, Int.reduceToNat, Int.reduceBEq, Int.reduceBNe, T3, T2, memF_0, memF_2, sameWG, wl1, wl2, listOf_g, app_getn, lstB_rw, unwc_wc, o_bind, lenIs_t, lma, some_is, hb, stepsG, stepsM, hn1]
        exact hK _
    · exact absurd p0 (by omega)
end Go.Proofs.Yteeeidldknlblaa

/- Law 02: plays: what is done on both memories. -/
namespace Go.Proofs.Yteeeidldknlblaa
open Go.D
set_option linter.all false
set_option maxRecDepth 100000
set_option maxHeartbeats 8000000

noncomputable def M.step (m : M) (h : List Blk) (x : MOp) : M :=
  if x.what = 1 then m.readX x.addr else if x.what = 2 then m.writeX x.addr x.w else if x.what = 3 then m.fillX x.addr x.words x.w
  else if x.what = 4 then m.copyX x.addr x.to x.words else if x.what = 5 then m else if x.what = 6 then m.loadX x.addr (x.l h) else m
def both4 (h : List Blk) (m : M) : List Blk := h ++ [MB (h.length + 1) m, MW m, MB (h.length + 3) m, MW m]
theorem both4_inj {h h' : List Blk} {m m' : M} (hl : h.length = h'.length) (e : both4 h m = both4 h' m') : h = h' ∧ m = m' := by
  obtain ⟨e1, e2⟩ := app_inj e hl
  subst e1
  simp only [List.cons.injEq] at e2
  exact ⟨rfl, M.ext' (MW_inj e2.2.1) (MB_inj e2.1)⟩
structure PlA where
  h : List Blk
  m : M
  x : MOp
noncomputable def playsG : List V → List Blk → Res := shape (α := PlA) (fun a => ([.s (.p (.g a.h.length) 0), .s (.p (.g (a.h.length + 2)) 0), .agg a.x.c], both4 a.h a.m)) (fun a => a.x.Ok a.h ∧ (a.x.l a.h).length ≤ 2147483647) (fun a => .ok (.s (.b true)) [] (both4 a.h (a.m.step a.h a.x)))
theorem MOp.c_inj {x y : MOp} (e : x.c = y.c) : x = y := Cells.inj x y e
theorem playsG_eq {h : List Blk} {m : M} {what addr to words w : Int} {s : S} (H : MOp.Ok h ⟨what, addr, to, words, w, s⟩) (hl : ((MOp.mk what addr to words w s).l h).length ≤ 2147483647) :
    playsG [.s (.p (.g h.length) 0), .s (.p (.g (h.length + 2)) 0), .agg [.i .i64 what, .i .i64 addr, .i .i64 to, .i .i64 words, .i .u64 w, s]] (h ++ [MB (h.length + 1) m, MW m, MB (h.length + 3) m, MW m]) =
      .ok (.s (.b true)) [] (h ++ [MB (h.length + 1) (m.step h ⟨what, addr, to, words, w, s⟩), MW (m.step h ⟨what, addr, to, words, w, s⟩), MB (h.length + 3) (m.step h ⟨what, addr, to, words, w, s⟩), MW (m.step h ⟨what, addr, to, words, w, s⟩)]) := by
  refine shape_eq (α := PlA) (fun a b e _ _ => ?_) (PlA.mk h m ⟨what, addr, to, words, w, s⟩) rfl ⟨H, hl⟩
  simp only [Prod.mk.injEq, List.cons.injEq, V.s.injEq, S.p.injEq, R.g.injEq, V.agg.injEq, and_true] at e
  obtain ⟨⟨e1, _, e2⟩, e3⟩ := e
  obtain ⟨h1, h2⟩ := both4_inj e1 e3
  rw [h1, h2, MOp.c_inj e2]
theorem listOf_ns (H : List Blk) : listOf H .ns = some [] := listOf_eq (.inl ⟨.inl rfl, rfl⟩)
theorem put_all : ∀ (vs xs : List S), xs.length = vs.length → put xs 0 vs = vs
  | [], [], _ => rfl
  | v :: vs, x :: xs, e => by rw [put_zero, put_all vs xs (by simpa using e)]
  | [], _ :: _, e => by simp at e
  | _ :: _, [], e => by simp at e

noncomputable def T4 : Tab := addT 63 copyG (addT 64 dumpG (T3))
theorem T4_snd : T4.Snd Try.prog := addT_snd ok63 rcopy_snd (addT_snd ok64 rdump_snd (T3_snd))
theorem plays_snd : Snd Try.prog 33 (FSpec.of playsG) := snd_cut T4_snd mixed Try.func33 dc33 400 fun args h0 K hc hS => by
  obtain ⟨⟨h, m, ⟨what, addr, to, words, w, sx⟩⟩, e, ⟨hx, hn⟩, hR⟩ := shape_spec hS
  clear hS
  simp only [Prod.mk.injEq] at e
  obtain ⟨rfl, rfl⟩ := e
  simp only at hx hn
  simp only [spec_ok, both4] at hR
  simp only [both4] at hc ⊢
  have hw : u64 w := hx.u
  have hls := hx.s
  simp only at hls
  have hua := hx.a
  obtain ⟨l, hl⟩ : ∃ l, (MOp.mk what addr to words w sx).l h = l := ⟨_, rfl⟩
  rw [hl] at hls hn hua
  have hlen := fun ls h' => hls.sl.len (ls := ls) (h := h')
  have hkn := hls.sl.known
  have hnl := hls.sl.noL
  have hpl := hls.sl.plain
  have hld : ∀ k, S.ren (R.lend k) sx = sx := hls.sl.lend
  have hud : ∀ k, h.length ≤ k → S.ren (R.unlend k) sx = sx := fun k hk => hls.sl.unlend hk
  have hlo : ∀ X, listOf (h ++ X) sx = some l := hls.of
  have hap : apartS (h.length + 3) sx := hls.apart (by omega)
  have hbl : ∀ k, S.below k sx = true := hls.sl.below
  have hcl := fun m' (X : List Blk) (hX : clean (h.length + 4 + X.length) X = true) => (show clean (h ++ [MB (h.length + 1) m', MW m', MB (h.length + 3) m', MW m']).length (h ++ [MB (h.length + 1) m', MW m', MB (h.length + 3) m', MW m']) = true by
    rw [app_len] at hc ⊢
    simp only [List.length_cons, List.length_nil] at hc ⊢
    simp only [clean, List.all_append, List.all_cons, List.all_nil, Bool.and_true, Bool.and_eq_true] at hc ⊢
    refine ⟨hc.1, ?_, wc_vals _ _ _, ?_, wc_vals _ _ _⟩
    · simp [MB, vals, S.val, R.val]
    · simp [MB, vals, S.val, R.val])
  have fin : ∀ (m' : M) (X : List Blk), m.step h ⟨what, addr, to, words, w, sx⟩ = m' → Cut (h.length + 4) K (.s (.b true)) (h ++ (MB (h.length + 1) m' :: MW m' :: MB (h.length + 3) m' :: MW m' :: X)) := fun m' X e => by
    rw [e] at hR
    have := cut_app (n := h.length + 4) (K := K) (v := .s (.b true)) (h := h ++ [MB (h.length + 1) m', MW m', MB (h.length + 3) m', MW m']) (junk := X) (by simp) (hcl m' [] rfl) rfl hR
    rw [List.append_assoc] at this
    exact this
  simp only [MOp.c]
  by_cases w1 : what = 1
  · subst w1
    simp (config := { maxSteps := 10000000 }) only [EV1, EV2, EV3, EV4, EV5, EV6, addT, istep, lenR_sl, lenR_ns, lenR_es, pickR, putD, bin1R, un1R, slcR, bnd, capsOf, fillP, S_plain, V_plain, V.cells, S_known, V_known, C.v, blk, setL, setH, eqS, eq1, cmpS, cmp1, isNil, popTo, killT, setT, leT, V.below, C.below, S_below, R.below, V.val, C.val, S_val, R.val, R.takes, vals, shows, List.any_cons, List.any_nil, unnamed, V.kill, V.names, C.names, S_names, R.names, List.set, List.replicate, ↓q_cond_t, ↓q_cond_f, if_true, if_false, reduceCtorEq, rvals, rvC, result, C_known, V.noL, C.noL, S_noL, R.noL, Option.map, true_and, and_true, ge_iff_le, gt_iff_lt, implies_true, q_ite_t, q_ite_f, beq_iff_eq, bne_iff_ne, q_ne, Nat.reduceAdd, Nat.reducePow, Int.reducePow, Nat.reduceMul, Nat.reduceSub, Nat.reduceLeDiff, Nat.reduceLT, Nat.reduceEqDiff, Int.reduceNeg, Int.reduceLT, Int.reduceLE, Int.reduceEq, Int.reduceNe, Int.reduceAdd, Int.reduceSub, Int.reduceMul, Int.reduceToNat, Int.reduceBEq, Int.reduceBNe, df33, T4, T3, T2, hkn, hpl, read2G, read2M, memF_0, memF_2]
    exact fin (m.readX addr) [] (by simp [M.step])
  by_cases w2 : what = 2
  · subst w2
    simp (config := { maxSteps := 10000000 }) only [EV1, EV2, EV3, EV4, EV5, EV6, addT, istep, lenR_sl, lenR_ns, lenR_es, pickR, putD, bin1R, un1R, slcR, bnd, capsOf, fillP, S_plain, V_plain, V.cells, S_known, V_known, C.v, blk, setL, setH, eqS, eq1, cmpS, cmp1, isNil, popTo, killT, setT, leT, V.below, C.below, S_below, R.below, V.val, C.val, S_val, R.val, R.takes, vals, shows, List.any_cons, List.any_nil, unnamed, V.kill, V.names, C.names, S_names, R.names, List.set, List.replicate, ↓q_cond_t, ↓q_cond_f, if_true, if_false, reduceCtorEq, rvals, rvC, result, C_known, V.noL, C.noL, S_noL, R.noL, Option.map, true_and, and_true, ge_iff_le, gt_iff_lt, implies_true, q_ite_t, q_ite_f, beq_iff_eq, bne_iff_ne, q_ne, Nat.reduceAdd, Nat.reducePow, Int.reducePow, Nat.reduceMul, Nat.reduceSub, Nat.reduceLeDiff, Nat.reduceLT, Nat.reduceEqDiff, Int.reduceNeg, Int.reduceLT, Int.reduceLE, Int.reduceEq, Int.reduceNe, Int.reduceAdd, Int.reduceSub, Int.reduceMul, Int.reduceToNat, Int.reduceBEq, Int.reduceBNe, df33, T4, T3, T2, hkn, hpl, hw, write2G, write2M, memF_0, memF_2]
    exact fin (m.writeX addr w) [] (by simp [M.step])
  by_cases w3 : what = 3
  · subst w3
    simp (config := { maxSteps := 10000000 }) only [EV1, EV2, EV3, EV4, EV5, EV6, addT, istep, lenR_sl, lenR_ns, lenR_es, pickR, putD, bin1R, un1R, slcR, bnd, capsOf, fillP, S_plain, V_plain, V.cells, S_known, V_known, C.v, blk, setL, setH, eqS, eq1, cmpS, cmp1, isNil, popTo, killT, setT, leT, V.below, C.below, S_below, R.below, V.val, C.val, S_val, R.val, R.takes, vals, shows, List.any_cons, List.any_nil, unnamed, V.kill, V.names, C.names, S_names, R.names, List.set, List.replicate, ↓q_cond_t, ↓q_cond_f, if_true, if_false, reduceCtorEq, rvals, rvC, result, C_known, V.noL, C.noL, S_noL, R.noL, Option.map, true_and, and_true, ge_iff_le, gt_iff_lt, implies_true, q_ite_t, q_ite_f, beq_iff_eq, bne_iff_ne, q_ne, Nat.reduceAdd, Nat.reducePow, Int.reducePow, Nat.reduceMul, Nat.reduceSub, Nat.reduceLeDiff, Nat.reduceLT, Nat.reduceEqDiff, Int.reduceNeg, Int.reduceLT, Int.reduceLE, Int.reduceEq, Int.reduceNe, Int.reduceAdd, Int.reduceSub, Int.reduceMul, Int.reduceToNat, Int.reduceBEq, Int.reduceBNe, df33, T4, T3, T2, hkn, hpl, hw, fill2G, fill2M, memF_0, memF_2]
    exact fin (m.fillX addr words w) [] (by simp [M.step])
  by_cases w4 : what = 4
  · subst w4
    cases hcx : (m.has addr words && m.has to words) with
    | true =>
      have e1 : m.copyE addr to words = 0 := by simp only [M.copyE, hcx]; rfl
      have e2 : m.copyX addr to words = m.copy addr.toNat to.toNat words.toNat := by simp only [M.copyX, hcx]; rfl
      simp (config := { maxSteps := 10000000 }) only [EV1, EV2, EV3, EV4, EV5, EV6, addT, istep, lenR_sl, lenR_ns, lenR_es, pickR, putD, bin1R, un1R, slcR, bnd, capsOf, fillP, S_plain, V_plain, V.cells, S_known, V_known, C.v, blk, setL, setH, eqS, eq1, cmpS, cmp1, isNil, popTo, killT, setT, leT, V.below, C.below, S_below, R.below, V.val, C.val, S_val, R.val, R.takes, vals, shows, List.any_cons, List.any_nil, unnamed, V.kill, V.names, C.names, S_names, R.names, List.set, List.replicate, ↓q_cond_t, ↓q_cond_f, if_true, if_false, reduceCtorEq, rvals, rvC, result, C_known, V.noL, C.noL, S_noL, R.noL, Option.map, true_and, and_true, ge_iff_le, gt_iff_lt, implies_true, q_ite_t, q_ite_f, beq_iff_eq, bne_iff_ne, q_ne, Nat.reduceAdd, Nat.reducePow, Int.reducePow, Nat.reduceMul, Nat.reduceSub, Nat.reduceLeDiff, Nat.reduceLT, Nat.reduceEqDiff, Int.reduceNeg, Int.reduceLT, Int.reduceLE, Int.reduceEq, Int.reduceNe, Int.reduceAdd, Int.reduceSub, Int.reduceMul, Int.reduceToNat, Int.reduceBEq, Int.reduceBNe, df33, T4, T3, T2, hkn, hpl, hcx, copyG, copyM, copy2G, copy2M, memF_0, memF_2, e1, e2]
      exact fin (m.copy addr.toNat to.toNat words.toNat) [] (by simp [M.step, e2])
    | false =>
      have e1 : m.copyE addr to words = 20 := by simp only [M.copyE, hcx]; rfl
      have e2 : m.copyX addr to words = m := by simp only [M.copyX, hcx]; rfl
      simp (config := { maxSteps := 10000000 }) only [EV1, EV2, EV3, EV4, EV5, EV6, addT, istep, lenR_sl, lenR_ns, lenR_es, pickR, putD, bin1R, un1R, slcR, bnd, capsOf, fillP, S_plain, V_plain, V.cells, S_known, V_known, C.v, blk, setL, setH, eqS, eq1, cmpS, cmp1, isNil, popTo, killT, setT, leT, V.below, C.below, S_below, R.below, V.val, C.val, S_val, R.val, R.takes, vals, shows, List.any_cons, List.any_nil, unnamed, V.kill, V.names, C.names, S_names, R.names, List.set, List.replicate, ↓q_cond_t, ↓q_cond_f, if_true, if_false, reduceCtorEq, rvals, rvC, result, C_known, V.noL, C.noL, S_noL, R.noL, Option.map, true_and, and_true, ge_iff_le, gt_iff_lt, implies_true, q_ite_t, q_ite_f, beq_iff_eq, bne_iff_ne, q_ne, Nat.reduceAdd, Nat.reducePow, Int.reducePow, Nat.reduceMul, Nat.reduceSub, Nat.reduceLeDiff, Nat.reduceLT, Nat.reduceEqDiff, Int.reduceNeg, Int.reduceLT, Int.reduceLE, Int.reduceEq, Int.reduceNe, Int.reduceAdd, Int.reduceSub, Int.reduceMul, Int.reduceToNat, Int.reduceBEq, Int.reduceBNe, df33, T4, T3, T2, hkn, hpl, hcx, copyG, copyM, copy2G, copy2M, memF_0, memF_2, e1, e2]
      exact fin m [] (by simp [M.step, e2])
  by_cases w5 : what = 5
  · subst w5
    cases hh : m.has addr words with
    | true =>
      obtain ⟨i, k, rfl, rfl, hik⟩ := M.has_nat hh
      have hlm := m.l
      have hvl : ((m.w.drop i).take k).length = k := M.part_len hik
      obtain ⟨D, hD⟩ : ∃ D, (m.w.drop i).take k = D := ⟨_, rfl⟩
      rw [hD] at hvl
      have hb : k ≤ 8796093022208 := by omega
      simp (config := { maxSteps := 10000000 }) only [EV1, EV2, EV3, EV4, EV5, EV6, addT, istep, lenR_sl, lenR_ns, lenR_es, pickR, putD, bin1R, un1R, slcR, bnd, capsOf, fillP, S_plain, V_plain, V.cells, S_known, V_known, C.v, blk, setL, setH, eqS, eq1, cmpS, cmp1, isNil, popTo, killT, setT, leT, V.below, C.below, S_below, R.below, V.val, C.val, S_val, R.val, R.takes, vals, shows, List.any_cons, List.any_nil, unnamed, V.kill, V.names, C.names, S_names, R.names, List.set, List.replicate, ↓q_cond_t, ↓q_cond_f, if_true, if_false, reduceCtorEq, rvals, rvC, result, C_known, V.noL, C.noL, S_noL, R.noL, Option.map, true_and, and_true, ge_iff_le, gt_iff_lt, implies_true, q_ite_t, q_ite_f, beq_iff_eq, bne_iff_ne, q_ne, Nat.reduceAdd, Nat.reducePow, Int.reducePow, Nat.reduceMul, Nat.reduceSub, Nat.reduceLeDiff, Nat.reduceLT, Nat.reduceEqDiff, Int.reduceNeg, Int.reduceLT, Int.reduceLE, Int.reduceEq, Int.reduceNe, Int.reduceAdd, Int.reduceSub, Int.reduceMul, Int.reduceToNat, Int.reduceBEq, Int.reduceBNe, df33, T4, T3, T2, hkn, hpl, hh, dumpG, dumpM, memF_0, memF_2, Int.toNat_natCast, hD]
      intro c1 hc1 c2 hc2
      simp (config := { maxSteps := 10000000 }) only [EV1, EV2, EV3, EV4, EV5, EV6, addT, istep, lenR_sl, lenR_ns, lenR_es, pickR, putD, bin1R, un1R, slcR, bnd, capsOf, fillP, S_plain, V_plain, V.cells, S_known, V_known, C.v, blk, setL, setH, eqS, eq1, cmpS, cmp1, isNil, popTo, killT, setT, leT, V.below, C.below, S_below, R.below, V.val, C.val, S_val, R.val, R.takes, vals, shows, List.any_cons, List.any_nil, unnamed, V.kill, V.names, C.names, S_names, R.names, List.set, List.replicate, ↓q_cond_t, ↓q_cond_f, if_true, if_false, reduceCtorEq, rvals, rvC, result, C_known, V.noL, C.noL, S_noL, R.noL, Option.map, true_and, and_true, ge_iff_le, gt_iff_lt, implies_true, q_ite_t, q_ite_f, beq_iff_eq, bne_iff_ne, q_ne, Nat.reduceAdd, Nat.reducePow, Int.reducePow, Nat.reduceMul, Nat.reduceSub, Nat.reduceLeDiff, Nat.reduceLT, Nat.reduceEqDiff, Int.reduceNeg, Int.reduceLT, Int.reduceLE, Int.reduceEq, Int.reduceNe, Int.reduceAdd, Int.reduceSub, Int.reduceMul, Int.reduceToNat, Int.reduceBEq, Int.reduceBNe, T4, T3, T2, sameWG, memF_0, app_len, listOf_g, app_getn, lstB_rw, unwc_wc, o_bind, lenIs_t, hvl, some_is, hb]
      refine loop_rule (α := Nat × List Int) [22, 136, 137, 138, 139, 140, 141, 142, 143, 144] (fun y => [(22, .s (.i .i64 y.1))]) (fun _ => [⟨.rw, [.i .i64 5, .i .i64 i, .i .i64 to, .i .i64 k, .i .u64 w, sx], 6⟩]) (fun y => h ++ [MB (h.length + 1) m, MW m, MB (h.length + 3) m, MW m, ⟨.rw, wc y.2, c1⟩, ⟨.rw, wc D, c2⟩])
        (fun y => y.1 ≤ k ∧ y.2.length = k) (fun y => k - y.1) (0, D) ⟨Nat.zero_le _, hvl⟩ ?_ ?_
      · refine Wk.same rfl rfl ?_
        simp (config := { maxSteps := 10000000 }) only [EV1, EV2, EV3, EV4, EV5, EV6, addT, istep, lenR_sl, lenR_ns, lenR_es, pickR, putD, bin1R, un1R, slcR, bnd, capsOf, fillP, S_plain, V_plain, V.cells, S_known, V_known, C.v, blk, setL, setH, eqS, eq1, cmpS, cmp1, isNil, popTo, killT, setT, leT, V.below, C.below, S_below, R.below, V.val, C.val, S_val, R.val, R.takes, vals, shows, List.any_cons, List.any_nil, unnamed, V.kill, V.names, C.names, S_names, R.names, List.set, List.replicate, ↓q_cond_t, ↓q_cond_f, if_true, if_false, reduceCtorEq, rvals, rvC, result, C_known, V.noL, C.noL, S_noL, R.noL, Option.map, true_and, and_true, ge_iff_le, gt_iff_lt, implies_true, q_ite_t, q_ite_f, beq_iff_eq, bne_iff_ne, q_ne, Nat.reduceAdd, Nat.reducePow, Int.reducePow, Nat.reduceMul, Nat.reduceSub, Nat.reduceLeDiff, Nat.reduceLT, Nat.reduceEqDiff, Int.reduceNeg, Int.reduceLT, Int.reduceLE, Int.reduceEq, Int.reduceNe, Int.reduceAdd, Int.reduceSub, Int.reduceMul, Int.reduceToNat, Int.reduceBEq, Int.reduceBNe, q_cast, Int.natCast_zero]
      · rintro X ⟨q, v⟩ ⟨hq, hv⟩ IH
        simp only at hq hv IH ⊢
        rcases Nat.lt_or_ge q k with h1 | h1
        · obtain ⟨d1, d2, d3, d4⟩ := idx h1 (by omega)
          have z2 : k - (q + 1) < k - q := by omega
          have hvk : (v.set q 12345).length = k := by simpa using hv
          have hle : q + 1 ≤ (wc v).length := by rw [wc_len]; omega
          refine run_sound (Tab.ok_Γ _) 300 _ _ _ _ ?_
          simp (config := { maxSteps := 10000000 }) only [EV1, EV2, EV3, EV4, EV5, EV6, addT, istep, lenR_sl, lenR_ns, lenR_es, pickR, putD, bin1R, un1R, slcR, bnd, capsOf, fillP, S_plain, V_plain, V.cells, S_known, V_known, C.v, blk, setL, setH, eqS, eq1, cmpS, cmp1, isNil, popTo, killT, setT, leT, V.below, C.below, S_below, R.below, V.val, C.val, S_val, R.val, R.takes, vals, shows, List.any_cons, List.any_nil, unnamed, V.kill, V.names, C.names, S_names, R.names, List.set, List.replicate, ↓q_cond_t, ↓q_cond_f, if_true, if_false, reduceCtorEq, rvals, rvC, result, C_known, V.noL, C.noL, S_noL, R.noL, Option.map, true_and, and_true, ge_iff_le, gt_iff_lt, implies_true, q_ite_t, q_ite_f, beq_iff_eq, bne_iff_ne, q_ne, Nat.reduceAdd, Nat.reducePow, Int.reducePow, Nat.reduceMul, Nat.reduceSub, Nat.reduceLeDiff, Nat.reduceLT, Nat.reduceEqDiff, Int.reduceNeg, Int.reduceLT, Int.reduceLE, Int.reduceEq, Int.reduceNe, Int.reduceAdd, Int.reduceSub, Int.reduceMul, Int.reduceToNat, Int.reduceBEq, Int.reduceBNe, d1, d2, d3, d4, app_getn, app_setn, hle, Int.toNat_natCast, put, wc_set]
          exact IH (q + 1, v.set q 12345) _ z2 ⟨h1, hvk⟩ (Wk.same rfl rfl (by simp (config := { maxSteps := 10000000 }) only [EV1, EV2, EV3, EV4, EV5, EV6, addT, istep, lenR_sl, lenR_ns, lenR_es, pickR, putD, bin1R, un1R, slcR, bnd, capsOf, fillP, S_plain, V_plain, V.cells, S_known, V_known, C.v, blk, setL, setH, eqS, eq1, cmpS, cmp1, isNil, popTo, killT, setT, leT, V.below, C.below, S_below, R.below, V.val, C.val, S_val, R.val, R.takes, vals, shows, List.any_cons, List.any_nil, unnamed, V.kill, V.names, C.names, S_names, R.names, List.set, List.replicate, ↓q_cond_t, ↓q_cond_f, if_true, if_false, reduceCtorEq, rvals, rvC, result, C_known, V.noL, C.noL, S_noL, R.noL, Option.map, true_and, and_true, ge_iff_le, gt_iff_lt, implies_true, q_ite_t, q_ite_f, beq_iff_eq, bne_iff_ne, q_ne, Nat.reduceAdd, Nat.reducePow, Int.reducePow, Nat.reduceMul, Nat.reduceSub, Nat.reduceLeDiff, Nat.reduceLT, Nat.reduceEqDiff, Int.reduceNeg, Int.reduceLT, Int.reduceLE, Int.reduceEq, Int.reduceNe, Int.reduceAdd, Int.reduceSub, Int.reduceMul, Int.reduceToNat, Int.reduceBEq, Int.reduceBNe]))
        · have e : q = k := by omega
          subst e
          refine run_sound (Tab.ok_Γ _) 300 _ _ _ _ ?_
          simp (config := { maxSteps := 10000000 }) only [EV1, EV2, EV3, EV4, EV5, EV6, addT, istep, lenR_sl, lenR_ns, lenR_es, pickR, putD, bin1R, un1R, slcR, bnd, capsOf, fillP, S_plain, V_plain, V.cells, S_known, V_known, C.v, blk, setL, setH, eqS, eq1, cmpS, cmp1, isNil, popTo, killT, setT, leT, V.below, C.below, S_below, R.below, V.val, C.val, S_val, R.val, R.takes, vals, shows, List.any_cons, List.any_nil, unnamed, V.kill, V.names, C.names, S_names, R.names, List.set, List.replicate, ↓q_cond_t, ↓q_cond_f, if_true, if_false, reduceCtorEq, rvals, rvC, result, C_known, V.noL, C.noL, S_noL, R.noL, Option.map, true_and, and_true, ge_iff_le, gt_iff_lt, implies_true, q_ite_t, q_ite_f, beq_iff_eq, bne_iff_ne, q_ne, Nat.reduceAdd, Nat.reducePow, Int.reducePow, Nat.reduceMul, Nat.reduceSub, Nat.reduceLeDiff, Nat.reduceLT, Nat.reduceEqDiff, Int.reduceNeg, Int.reduceLT, Int.reduceLE, Int.reduceEq, Int.reduceNe, Int.reduceAdd, Int.reduceSub, Int.reduceMul, Int.reduceToNat, Int.reduceBEq, Int.reduceBNe, Int.lt_irrefl]
          exact fin m _ (by simp [M.step])
    | false =>
      simp (config := { maxSteps := 10000000 }) only [EV1, EV2, EV3, EV4, EV5, EV6, addT, istep, lenR_sl, lenR_ns, lenR_es, pickR, putD, bin1R, un1R, slcR, bnd, capsOf, fillP, S_plain, V_plain, V.cells, S_known, V_known, C.v, blk, setL, setH, eqS, eq1, cmpS, cmp1, isNil, popTo, killT, setT, leT, V.below, C.below, S_below, R.below, V.val, C.val, S_val, R.val, R.takes, vals, shows, List.any_cons, List.any_nil, unnamed, V.kill, V.names, C.names, S_names, R.names, List.set, List.replicate, ↓q_cond_t, ↓q_cond_f, if_true, if_false, reduceCtorEq, rvals, rvC, result, C_known, V.noL, C.noL, S_noL, R.noL, Option.map, true_and, and_true, ge_iff_le, gt_iff_lt, implies_true, q_ite_t, q_ite_f, beq_iff_eq, bne_iff_ne, q_ne, Nat.reduceAdd, Nat.reducePow, Int.reducePow, Nat.reduceMul, Nat.reduceSub, Nat.reduceLeDiff, Nat.reduceLT, Nat.reduceEqDiff, Int.reduceNeg, Int.reduceLT, Int.reduceLE, Int.reduceEq, Int.reduceNe, Int.reduceAdd, Int.reduceSub, Int.reduceMul, Int.reduceToNat, Int.reduceBEq, Int.reduceBNe, df33, T4, T3, T2, hkn, hpl, hh, dumpG, dumpM, memF_0, memF_2, sameWG, listOf_ns]
      rw [holds_loop]
      refine swp_loop fun X hX => ?_
      refine hX _ ?_
      refine run_sound (Tab.ok_Γ _) 300 _ _ _ _ ?_
      simp (config := { maxSteps := 10000000 }) only [EV1, EV2, EV3, EV4, EV5, EV6, addT, istep, lenR_sl, lenR_ns, lenR_es, pickR, putD, bin1R, un1R, slcR, bnd, capsOf, fillP, S_plain, V_plain, V.cells, S_known, V_known, C.v, blk, setL, setH, eqS, eq1, cmpS, cmp1, isNil, popTo, killT, setT, leT, V.below, C.below, S_below, R.below, V.val, C.val, S_val, R.val, R.takes, vals, shows, List.any_cons, List.any_nil, unnamed, V.kill, V.names, C.names, S_names, R.names, List.set, List.replicate, ↓q_cond_t, ↓q_cond_f, if_true, if_false, reduceCtorEq, rvals, rvC, result, C_known, V.noL, C.noL, S_noL, R.noL, Option.map, true_and, and_true, ge_iff_le, gt_iff_lt, implies_true, q_ite_t, q_ite_f, beq_iff_eq, bne_iff_ne, q_ne, Nat.reduceAdd, Nat.reducePow, Int.reducePow, Nat.reduceMul, Nat.reduceSub, Nat.reduceLeDiff, Nat.reduceLT, Nat.reduceEqDiff, Int.reduceNeg, Int.reduceLT, Int.reduceLE, Int.reduceEq, Int.reduceNe, Int.reduceAdd, Int.reduceSub, Int.reduceMul, Int.reduceToNat, Int.reduceBEq, Int.reduceBNe, Int.lt_irrefl]
      exact fin m [] (by simp [M.step])
  by_cases w6 : what = 6
  · subst w6
    have b1 : (l.length : Int) ≤ 1099511627776 := by omega
    have b2 : (8 : Int) * (l.length : Int) ≤ 281474976710656 := by omega
    have b3 : l.length ≤ 8796093022208 := by omega
    have b4 : (0 : Int) ≤ l.length := by omega
    have hsh := fun ls (X : List Blk) => (hls.app (X := X)).shows ls
    have hsub : sub (wc l) 0 l.length = wc l := by rw [wc_sub, List.drop_zero, List.take_length]
    have hput : put (wc (List.replicate l.length 0)) 0 (wc l) = wc l := put_all _ _ (by simp [wc_len])
    have hrl : (wc (List.replicate l.length 0)).length = l.length := by simp [wc_len]
    have hud4 := hud (h.length + 4) (Nat.le_add_right _ _)
    have hcm : ∀ m2 m3 : M, clean (h.length + 4) (h ++ [MB (h.length + 1) m2, MW m2, MB (h.length + 3) m3, MW m3]) = true := fun m2 m3 => by
      rw [app_len] at hc
      simp only [List.length_cons, List.length_nil] at hc
      simp only [clean, List.all_append, List.all_cons, List.all_nil, Bool.and_true, Bool.and_eq_true] at hc ⊢
      refine ⟨hc.1, ?_, wc_vals _ _ _, ?_, wc_vals _ _ _⟩
      · simp [MB, vals, S.val, R.val]
      · simp [MB, vals, S.val, R.val]
    obtain ⟨m2, hm2⟩ : ∃ m2, m.loadX addr l = m2 := ⟨_, rfl⟩
    simp (config := { maxSteps := 10000000 }) only [EV1, EV2, EV3, EV4, EV5, EV6, addT, istep, lenR_sl, lenR_ns, lenR_es, pickR, putD, bin1R, un1R, slcR, bnd, capsOf, fillP, S_plain, V_plain, V.cells, S_known, V_known, C.v, blk, setL, setH, eqS, eq1, cmpS, cmp1, isNil, popTo, killT, setT, leT, V.below, C.below, S_below, R.below, V.val, C.val, S_val, R.val, R.takes, vals, shows, List.any_cons, List.any_nil, unnamed, V.kill, V.names, C.names, S_names, R.names, List.set, List.replicate, ↓q_cond_t, ↓q_cond_f, if_true, if_false, reduceCtorEq, rvals, rvC, result, C_known, V.noL, C.noL, S_noL, R.noL, Option.map, true_and, and_true, ge_iff_le, gt_iff_lt, implies_true, q_ite_t, q_ite_f, beq_iff_eq, bne_iff_ne, q_ne, Nat.reduceAdd, Nat.reducePow, Int.reducePow, Nat.reduceMul, Nat.reduceSub, Nat.reduceLeDiff, Nat.reduceLT, Nat.reduceEqDiff, Int.reduceNeg, Int.reduceLT, Int.reduceLE, Int.reduceEq, Int.reduceNe, Int.reduceAdd, Int.reduceSub, Int.reduceMul, Int.reduceToNat, Int.reduceBEq, Int.reduceBNe, df33, T4, T3, T2, hlen, hkn, hpl, hnl, b1, b2, b3, b4, Int.le_refl, wc_zeros, Int.toNat_natCast, ↓hsh, hsub, Nat.min_self, hput, hrl, wc_known, wc_takes, wc_all, load2G, memAt_0, memAt_2, R.lend, R.unlend, S_ren, C.ren, V.ren, app_taken, app_dropn, app_take0, app_drop0, List.take_succ_cons, List.take_zero, List.drop_succ_cons, List.drop_zero, Nat.not_lt_zero, Nat.lt_irrefl, Nat.add_sub_cancel_left, Nat.not_lt, Nat.le_add_right, blk_ren, hld, hud4, wc_ren, app_len, nnn, hlo, ↓hap, listOf_g, app_getn, lstB_rw, unwc_wc, o_bind, lenIs_t, some_is, apartS, Nat.add_left_cancel_iff, at0_set, at2_set, hcm, hm2, sameWG]
    refine ⟨hua, hua, ?_⟩
    refine loop_rule (α := Nat × List Int) [27, 176, 177, 178, 179, 180, 181, 182, 183, 184] (fun y => [(27, .s (.i .i64 y.1))]) (fun y => [⟨.rw, [.i .i64 6, .i .i64 addr, .i .i64 to, .i .i64 words, .i .u64 w, sx], 6⟩, ⟨.rw, wc y.2, l.length⟩]) (fun y => h ++ [MB (h.length + 1) m2, MW m2, MB (h.length + 3) m2, MW m2])
      (fun y => y.1 ≤ l.length ∧ y.2.length = l.length) (fun y => l.length - y.1) (0, l) ⟨Nat.zero_le _, rfl⟩ ?_ ?_
    · refine Wk.same rfl rfl ?_
      simp (config := { maxSteps := 10000000 }) only [EV1, EV2, EV3, EV4, EV5, EV6, addT, istep, lenR_sl, lenR_ns, lenR_es, pickR, putD, bin1R, un1R, slcR, bnd, capsOf, fillP, S_plain, V_plain, V.cells, S_known, V_known, C.v, blk, setL, setH, eqS, eq1, cmpS, cmp1, isNil, popTo, killT, setT, leT, V.below, C.below, S_below, R.below, V.val, C.val, S_val, R.val, R.takes, vals, shows, List.any_cons, List.any_nil, unnamed, V.kill, V.names, C.names, S_names, R.names, List.set, List.replicate, ↓q_cond_t, ↓q_cond_f, if_true, if_false, reduceCtorEq, rvals, rvC, result, C_known, V.noL, C.noL, S_noL, R.noL, Option.map, true_and, and_true, ge_iff_le, gt_iff_lt, implies_true, q_ite_t, q_ite_f, beq_iff_eq, bne_iff_ne, q_ne, Nat.reduceAdd, Nat.reducePow, Int.reducePow, Nat.reduceMul, Nat.reduceSub, Nat.reduceLeDiff, Nat.reduceLT, Nat.reduceEqDiff, Int.reduceNeg, Int.reduceLT, Int.reduceLE, Int.reduceEq, Int.reduceNe, Int.reduceAdd, Int.reduceSub, Int.reduceMul, Int.reduceToNat, Int.reduceBEq, Int.reduceBNe, q_cast, Int.natCast_zero]
    · rintro X ⟨q, v⟩ ⟨hq, hv⟩ IH
      simp only at hq hv IH ⊢
      rcases Nat.lt_or_ge q l.length with h1 | h1
      · obtain ⟨d1, d2, d3, d4⟩ := idx h1 (by omega)
        have z2 : l.length - (q + 1) < l.length - q := by omega
        have hvk : (v.set q 54321).length = l.length := by simpa using hv
        have hle : q + 1 ≤ (wc v).length := by rw [wc_len]; omega
        refine run_sound (Tab.ok_Γ _) 300 _ _ _ _ ?_
        simp (config := { maxSteps := 10000000 }) only [EV1, EV2, EV3, EV4, EV5, EV6, addT, istep, lenR_sl, lenR_ns, lenR_es, pickR, putD, bin1R, un1R, slcR, bnd, capsOf, fillP, S_plain, V_plain, V.cells, S_known, V_known, C.v, blk, setL, setH, eqS, eq1, cmpS, cmp1, isNil, popTo, killT, setT, leT, V.below, C.below, S_below, R.below, V.val, C.val, S_val, R.val, R.takes, vals, shows, List.any_cons, List.any_nil, unnamed, V.kill, V.names, C.names, S_names, R.names, List.set, List.replicate, ↓q_cond_t, ↓q_cond_f, if_true, if_false, reduceCtorEq, rvals, rvC, result, C_known, V.noL, C.noL, S_noL, R.noL, Option.map, true_and, and_true, ge_iff_le, gt_iff_lt, implies_true, q_ite_t, q_ite_f, beq_iff_eq, bne_iff_ne, q_ne, Nat.reduceAdd, Nat.reducePow, Int.reducePow, Nat.reduceMul, Nat.reduceSub, Nat.reduceLeDiff, Nat.reduceLT, Nat.reduceEqDiff, Int.reduceNeg, Int.reduceLT, Int.reduceLE, Int.reduceEq, Int.reduceNe, Int.reduceAdd, Int.reduceSub, Int.reduceMul, Int.reduceToNat, Int.reduceBEq, Int.reduceBNe, d1, d2, d3, d4, hle, Int.toNat_natCast, put, wc_set]
        exact IH (q + 1, v.set q 54321) _ z2 ⟨h1, hvk⟩ (Wk.same rfl rfl (by simp (config := { maxSteps := 10000000 }) only [EV1, EV2, EV3, EV4, EV5, EV6, addT, istep, lenR_sl, lenR_ns, lenR_es, pickR, putD, bin1R, un1R, slcR, bnd, capsOf, fillP, S_plain, V_plain, V.cells, S_known, V_known, C.v, blk, setL, setH, eqS, eq1, cmpS, cmp1, isNil, popTo, killT, setT, leT, V.below, C.below, S_below, R.below, V.val, C.val, S_val, R.val, R.takes, vals, shows, List.any_cons, List.any_nil, unnamed, V.kill, V.names, C.names, S_names, R.names, List.set, List.replicate, ↓q_cond_t, ↓q_cond_f, if_true, if_false, reduceCtorEq, rvals, rvC, result, C_known, V.noL, C.noL, S_noL, R.noL, Option.map, true_and, and_true, ge_iff_le, gt_iff_lt, implies_true, q_ite_t, q_ite_f, beq_iff_eq, bne_iff_ne, q_ne, Nat.reduceAdd, Nat.reducePow, Int.reducePow, Nat.reduceMul, Nat.reduceSub, Nat.reduceLeDiff, Nat.reduceLT, Nat.reduceEqDiff, Int.reduceNeg, Int.reduceLT, Int.reduceLE, Int.reduceEq, Int.reduceNe, Int.reduceAdd, Int.reduceSub, Int.reduceMul, Int.reduceToNat, Int.reduceBEq, Int.reduceBNe]))
      · have e : q = l.length := by omega
        subst e
        refine run_sound (Tab.ok_Γ _) 300 _ _ _ _ ?_
        simp (config := { maxSteps := 10000000 }) only [EV1, EV2, EV3, EV4, EV5, EV6, addT, istep, lenR_sl, lenR_ns, lenR_es, pickR, putD, bin1R, un1R, slcR, bnd, capsOf, fillP, S_plain, V_plain, V.cells, S_known, V_known, C.v, blk, setL, setH, eqS, eq1, cmpS, cmp1, isNil, popTo, killT, setT, leT, V.below, C.below, S_below, R.below, V.val, C.val, S_val, R.val, R.takes, vals, shows, List.any_cons, List.any_nil, unnamed, V.kill, V.names, C.names, S_names, R.names, List.set, List.replicate, ↓q_cond_t, ↓q_cond_f, if_true, if_false, reduceCtorEq, rvals, rvC, result, C_known, V.noL, C.noL, S_noL, R.noL, Option.map, true_and, and_true, ge_iff_le, gt_iff_lt, implies_true, q_ite_t, q_ite_f, beq_iff_eq, bne_iff_ne, q_ne, Nat.reduceAdd, Nat.reducePow, Int.reducePow, Nat.reduceMul, Nat.reduceSub, Nat.reduceLeDiff, Nat.reduceLT, Nat.reduceEqDiff, Int.reduceNeg, Int.reduceLT, Int.reduceLE, Int.reduceEq, Int.reduceNe, Int.reduceAdd, Int.reduceSub, Int.reduceMul, Int.reduceToNat, Int.reduceBEq, Int.reduceBNe, Int.lt_irrefl]
        exact fin m2 [] (by simp [M.step, hl, hm2])
  · have e1 : (what == 1) = false := by simpa using w1
    have e2 : (what == 2) = false := by simpa using w2
    have e3 : (what == 3) = false := by simpa using w3
    have e4 : (what == 4) = false := by simpa using w4
    have e5 : (what == 5) = false := by simpa using w5
    have e6 : (what == 6) = false := by simpa using w6
    simp (config := { maxSteps := 10000000 }) only [EV1, EV2, EV3, EV4, EV5, EV6, addT, istep, lenR_sl, lenR_ns, lenR_es, pickR, putD, bin1R, un1R, slcR, bnd, capsOf, fillP, S_plain, V_plain, V.cells, S_known, V_known, C.v, blk, setL, setH, eqS, eq1, cmpS, cmp1, isNil, popTo, killT, setT, leT, V.below, C.below, S_below, R.below, V.val, C.val, S_val, R.val, R.takes, vals, shows, List.any_cons, List.any_nil, unnamed, V.kill, V.names, C.names, S_names, R.names, List.set, List.replicate, ↓q_cond_t, ↓q_cond_f, if_true, if_false, reduceCtorEq, rvals, rvC, result, C_known, V.noL, C.noL, S_noL, R.noL, Option.map, true_and, and_true, ge_iff_le, gt_iff_lt, implies_true, q_ite_t, q_ite_f, beq_iff_eq, bne_iff_ne, q_ne, Nat.reduceAdd, Nat.reducePow, Int.reducePow, Nat.reduceMul, Nat.reduceSub, Nat.reduceLeDiff, Nat.reduceLT, Nat.reduceEqDiff, Int.reduceNeg, Int.reduceLT, Int.reduceLE, Int.reduceEq, Int.reduceNe, Int.reduceAdd, Int.reduceSub, Int.reduceMul, Int.reduceToNat, Int.reduceBEq, Int.reduceBNe, df33, T4, T3, T2, hkn, hpl, e1, e2, e3, e4, e5, e6, w1, w2, w3, w4, w5, w6, stepsG, stepsM, memF_0, MB_1, MB_st, app_getn]
    exact fin m [] (by unfold M.step; simp only [w1, w2, w3, w4, w5, w6, if_false])
end Go.Proofs.Yteeeidldknlblaa

/- Law 02: weighs, MemPlays. -/
namespace Go.Proofs.Yteeeidldknlblaa
open Go.D
set_option linter.all false
set_option maxRecDepth 100000
set_option maxHeartbeats 8000000

noncomputable def weighF (h : List Blk) : Nat → List MOp → Nat
  | n, [] => n
  | n, x :: L => if n ≤ 2147483647 then weighF h (n + (x.l h).length) L else n
theorem weighF_ge (h : List Blk) : ∀ (L : List MOp) (n : Nat), n ≤ weighF h n L
  | [], n => Nat.le_refl _
  | x :: L, n => by
    rw [weighF]; split
    · exact Nat.le_trans (Nat.le_add_right _ _) (weighF_ge h L _)
    · exact Nat.le_refl _
theorem weighF_big (h : List Blk) {n : Nat} (hn : ¬ n ≤ 2147483647) : ∀ L : List MOp, weighF h n L = n
  | [] => rfl
  | x :: L => by rw [weighF, if_neg hn]
theorem weighF_le (h : List Blk) : ∀ (L : List MOp) (n : Nat), weighF h n L ≤ 2147483647 → ∀ x, x ∈ L → (x.l h).length ≤ 2147483647
  | [], n, _, x, hx => by cases hx
  | y :: L, n, hw, x, hx => by
    rw [weighF] at hw
    split at hw
    · rcases List.mem_cons.1 hx with rfl | hx
      · have := weighF_ge h L (n + (x.l h).length)
        omega
      · exact weighF_le h L _ hw x hx
    · omega
def mopZ : MOp := ⟨0, 0, 0, 0, 0, .ns⟩
noncomputable def weighsG : List V → List Blk → Res
  | [.s s], h => match arrOf MOp.c h s with
    | some L => .ob ((∀ x, x ∈ L → x.Ok h) ∧ L.length ≤ 140737488355328) (.ok (.s (.i .i64 (weighF h L.length L))) [] h)
    | none => .bad
  | _, _ => .bad
theorem weighs_snd : Snd Try.prog 21 (FSpec.of weighsG) := snd_run (noT_snd _) mixed Try.func21 dc21 300 fun args h K hc hS => by
  unfold weighsG at hS
  split at hS
  · rename_i s
    split at hS
    · rename_i L hL
      obtain ⟨⟨hok, hn⟩, hS⟩ := hS
      simp only [spec_ok] at hS
      have Hs := arrOf_some hL
      have hlen := fun ls h' => Hs.sl.len (ls := ls) (h := h')
      have hbl := Hs.sl.below
      simp (config := { maxSteps := 10000000 }) only [EV1, EV2, EV3, EV4, EV5, EV6, addT, istep, lenR_sl, lenR_ns, lenR_es, pickR, putD, bin1R, un1R, slcR, bnd, capsOf, fillP, S_plain, V_plain, V.cells, S_known, V_known, C.v, blk, setL, setH, eqS, eq1, cmpS, cmp1, isNil, popTo, killT, setT, leT, V.below, C.below, S_below, R.below, V.val, C.val, S_val, R.val, R.takes, vals, shows, List.any_cons, List.any_nil, unnamed, V.kill, V.names, C.names, S_names, R.names, List.set, List.replicate, ↓q_cond_t, ↓q_cond_f, if_true, if_false, reduceCtorEq, rvals, rvC, result, C_known, V.noL, C.noL, S_noL, R.noL, Option.map, true_and, and_true, ge_iff_le, gt_iff_lt, implies_true, q_ite_t, q_ite_f, beq_iff_eq, bne_iff_ne, q_ne, Nat.reduceAdd, Nat.reducePow, Int.reducePow, Nat.reduceMul, Nat.reduceSub, Nat.reduceLeDiff, Nat.reduceLT, Nat.reduceEqDiff, Int.reduceNeg, Int.reduceLT, Int.reduceLE, Int.reduceEq, Int.reduceNe, Int.reduceAdd, Int.reduceSub, Int.reduceMul, Int.reduceToNat, Int.reduceBEq, Int.reduceBNe, df21, hlen]
      refine loop_rule (α := Nat × Nat) [3, 4, 7, 8, 9, 10, 11, 12, 13, 14, 15, 16, 17, 18, 19, 20, 21, 22, 23, 24] (fun y => [(3, .s (.i .i64 y.2)), (4, .s (.i .i64 y.1))]) (fun _ => []) (fun _ => h)
        (fun y => y.1 ≤ L.length ∧ weighF h L.length L = weighF h y.2 (L.drop y.1) ∧ y.2 ≤ 281474976710656) (fun y => L.length - y.1) (0, L.length) ⟨Nat.zero_le _, rfl, by simp only; omega⟩ ?_ ?_
      · refine Wk.same rfl rfl ?_
        simp (config := { maxSteps := 10000000 }) only [EV1, EV2, EV3, EV4, EV5, EV6, addT, istep, lenR_sl, lenR_ns, lenR_es, pickR, putD, bin1R, un1R, slcR, bnd, capsOf, fillP, S_plain, V_plain, V.cells, S_known, V_known, C.v, blk, setL, setH, eqS, eq1, cmpS, cmp1, isNil, popTo, killT, setT, leT, V.below, C.below, S_below, R.below, V.val, C.val, S_val, R.val, R.takes, vals, shows, List.any_cons, List.any_nil, unnamed, V.kill, V.names, C.names, S_names, R.names, List.set, List.replicate, ↓q_cond_t, ↓q_cond_f, if_true, if_false, reduceCtorEq, rvals, rvC, result, C_known, V.noL, C.noL, S_noL, R.noL, Option.map, true_and, and_true, ge_iff_le, gt_iff_lt, implies_true, q_ite_t, q_ite_f, beq_iff_eq, bne_iff_ne, q_ne, Nat.reduceAdd, Nat.reducePow, Int.reducePow, Nat.reduceMul, Nat.reduceSub, Nat.reduceLeDiff, Nat.reduceLT, Nat.reduceEqDiff, Int.reduceNeg, Int.reduceLT, Int.reduceLE, Int.reduceEq, Int.reduceNe, Int.reduceAdd, Int.reduceSub, Int.reduceMul, Int.reduceToNat, Int.reduceBEq, Int.reduceBNe, q_cast, Int.natCast_zero]
      · rintro X ⟨i, n⟩ ⟨hi, hF, hb⟩ IH
        simp only at hi hF hb IH ⊢
        rcases Nat.lt_or_ge i L.length with h1 | h1
        · obtain ⟨d1, d2, d3, d4⟩ := idx h1 (by omega)
          by_cases hle : n ≤ 2147483647
          · obtain ⟨j, c', st, room, hse, hj, hd⟩ := Hs.at h1
            obtain ⟨x, hx⟩ : ∃ x, nth mopZ L i = x := ⟨_, rfl⟩
            have hxo : x.Ok h := by rw [← hx]; exact hok _ (nth_mem h1)
            have hdr : L.drop i = x :: L.drop (i + 1) := by rw [List.drop_eq_getElem_cons h1, ← hx, nth_eq h1]
            have g5 : (arr MOp.c L)[i * 6 + 5]? = some x.s := by rw [arr_get MOp.c_len h1 (by omega), ← nth_eq (d := mopZ) h1, hx]; rfl
            have hxl := fun ls h' => hxo.s.sl.len (ls := ls) (h := h')
            have hxk := hxo.s.sl.known
            have hxn := hxo.n
            rw [hdr, weighF, if_pos hle] at hF
            have e1 : (n : Int) ≤ 2147483647 := by omega
            have w1 : IntKind.i64.wrap ((n : Int) + ((x.l h).length : Int)) = ((n + (x.l h).length : Nat) : Int) := by rw [wrap64] <;> omega
            have z2 : L.length - (i + 1) < L.length - i := by omega
            have z3 : n + (x.l h).length ≤ 281474976710656 := by omega
            refine run_sound (Tab.ok_Γ _) 300 _ _ _ _ ?_
            simp (config := { maxSteps := 10000000 }) only [EV1, EV2, EV3, EV4, EV5, EV6, addT, istep, lenR_sl, lenR_ns, lenR_es, pickR, putD, bin1R, un1R, slcR, bnd, capsOf, fillP, S_plain, V_plain, V.cells, S_known, V_known, C.v, blk, setL, setH, eqS, eq1, cmpS, cmp1, isNil, popTo, killT, setT, leT, V.below, C.below, S_below, R.below, V.val, C.val, S_val, R.val, R.takes, vals, shows, List.any_cons, List.any_nil, unnamed, V.kill, V.names, C.names, S_names, R.names, List.set, List.replicate, ↓q_cond_t, ↓q_cond_f, if_true, if_false, reduceCtorEq, rvals, rvC, result, C_known, V.noL, C.noL, S_noL, R.noL, Option.map, true_and, and_true, ge_iff_le, gt_iff_lt, implies_true, q_ite_t, q_ite_f, beq_iff_eq, bne_iff_ne, q_ne, Nat.reduceAdd, Nat.reducePow, Int.reducePow, Nat.reduceMul, Nat.reduceSub, Nat.reduceLeDiff, Nat.reduceLT, Nat.reduceEqDiff, Int.reduceNeg, Int.reduceLT, Int.reduceLE, Int.reduceEq, Int.reduceNe, Int.reduceAdd, Int.reduceSub, Int.reduceMul, Int.reduceToNat, Int.reduceBEq, Int.reduceBNe, hse, d1, d2, d3, d4, e1, hj, hd, g5, hxl, hxk, w1, Int.toNat_natCast]
            exact IH (i + 1, n + (x.l h).length) _ z2 ⟨h1, hF, z3⟩ (Wk.same rfl rfl (by simp (config := { maxSteps := 10000000 }) only [EV1, EV2, EV3, EV4, EV5, EV6, addT, istep, lenR_sl, lenR_ns, lenR_es, pickR, putD, bin1R, un1R, slcR, bnd, capsOf, fillP, S_plain, V_plain, V.cells, S_known, V_known, C.v, blk, setL, setH, eqS, eq1, cmpS, cmp1, isNil, popTo, killT, setT, leT, V.below, C.below, S_below, R.below, V.val, C.val, S_val, R.val, R.takes, vals, shows, List.any_cons, List.any_nil, unnamed, V.kill, V.names, C.names, S_names, R.names, List.set, List.replicate, ↓q_cond_t, ↓q_cond_f, if_true, if_false, reduceCtorEq, rvals, rvC, result, C_known, V.noL, C.noL, S_noL, R.noL, Option.map, true_and, and_true, ge_iff_le, gt_iff_lt, implies_true, q_ite_t, q_ite_f, beq_iff_eq, bne_iff_ne, q_ne, Nat.reduceAdd, Nat.reducePow, Int.reducePow, Nat.reduceMul, Nat.reduceSub, Nat.reduceLeDiff, Nat.reduceLT, Nat.reduceEqDiff, Int.reduceNeg, Int.reduceLT, Int.reduceLE, Int.reduceEq, Int.reduceNe, Int.reduceAdd, Int.reduceSub, Int.reduceMul, Int.reduceToNat, Int.reduceBEq, Int.reduceBNe, hse]))
          · have e1 : ¬ (n : Int) ≤ 2147483647 := by omega
            rw [weighF_big h hle] at hF
            rw [hF] at hS
            refine run_sound (Tab.ok_Γ _) 300 _ _ _ _ ?_
            simp (config := { maxSteps := 10000000 }) only [EV1, EV2, EV3, EV4, EV5, EV6, addT, istep, lenR_sl, lenR_ns, lenR_es, pickR, putD, bin1R, un1R, slcR, bnd, capsOf, fillP, S_plain, V_plain, V.cells, S_known, V_known, C.v, blk, setL, setH, eqS, eq1, cmpS, cmp1, isNil, popTo, killT, setT, leT, V.below, C.below, S_below, R.below, V.val, C.val, S_val, R.val, R.takes, vals, shows, List.any_cons, List.any_nil, unnamed, V.kill, V.names, C.names, S_names, R.names, List.set, List.replicate, ↓q_cond_t, ↓q_cond_f, if_true, if_false, reduceCtorEq, rvals, rvC, result, C_known, V.noL, C.noL, S_noL, R.noL, Option.map, true_and, and_true, ge_iff_le, gt_iff_lt, implies_true, q_ite_t, q_ite_f, beq_iff_eq, bne_iff_ne, q_ne, Nat.reduceAdd, Nat.reducePow, Int.reducePow, Nat.reduceMul, Nat.reduceSub, Nat.reduceLeDiff, Nat.reduceLT, Nat.reduceEqDiff, Int.reduceNeg, Int.reduceLT, Int.reduceLE, Int.reduceEq, Int.reduceNe, Int.reduceAdd, Int.reduceSub, Int.reduceMul, Int.reduceToNat, Int.reduceBEq, Int.reduceBNe, hlen, d1, e1]
            exact hS
        · have e : i = L.length := by omega
          subst e
          rw [List.drop_length, weighF] at hF
          rw [hF] at hS
          refine run_sound (Tab.ok_Γ _) 300 _ _ _ _ ?_
          simp (config := { maxSteps := 10000000 }) only [EV1, EV2, EV3, EV4, EV5, EV6, addT, istep, lenR_sl, lenR_ns, lenR_es, pickR, putD, bin1R, un1R, slcR, bnd, capsOf, fillP, S_plain, V_plain, V.cells, S_known, V_known, C.v, blk, setL, setH, eqS, eq1, cmpS, cmp1, isNil, popTo, killT, setT, leT, V.below, C.below, S_below, R.below, V.val, C.val, S_val, R.val, R.takes, vals, shows, List.any_cons, List.any_nil, unnamed, V.kill, V.names, C.names, S_names, R.names, List.set, List.replicate, ↓q_cond_t, ↓q_cond_f, if_true, if_false, reduceCtorEq, rvals, rvC, result, C_known, V.noL, C.noL, S_noL, R.noL, Option.map, true_and, and_true, ge_iff_le, gt_iff_lt, implies_true, q_ite_t, q_ite_f, beq_iff_eq, bne_iff_ne, q_ne, Nat.reduceAdd, Nat.reducePow, Int.reducePow, Nat.reduceMul, Nat.reduceSub, Nat.reduceLeDiff, Nat.reduceLT, Nat.reduceEqDiff, Int.reduceNeg, Int.reduceLT, Int.reduceLE, Int.reduceEq, Int.reduceNe, Int.reduceAdd, Int.reduceSub, Int.reduceMul, Int.reduceToNat, Int.reduceBEq, Int.reduceBNe, hlen, Int.lt_irrefl]
          exact hS
    · exact hS.elim
  · exact hS.elim
theorem M.readX_len' (m : M) (i : Int) : (m.readX i).w.length = m.w.length := by
  unfold M.readX; split <;> rfl
theorem M.writeX_len' (m : M) (i v : Int) : (m.writeX i v).w.length = m.w.length := by
  unfold M.writeX; split
  · rw [M.tick_len, M.put_len]
  · rfl
theorem M.step_len (m : M) (h : List Blk) (x : MOp) : (m.step h x).w.length = m.w.length := by
  unfold M.step
  split
  · exact m.readX_len' _
  split
  · exact m.writeX_len' _ _
  split
  · exact m.fillX_len _ _ _
  split
  · exact m.copyX_len _ _ _
  split
  · rfl
  split
  · exact M.loadX_len _ _ _
  · rfl

noncomputable def TPl : Tab := addT 21 weighsG (addT 22 awake2G (addT 23 newM (addT 32 newM (addT 33 playsG (addT 34 wordsG (addT 26 dumpG (addT 31 sameWG (addT 25 stepsG (noT)))))))))
theorem TPl_snd : TPl.Snd Try.prog := addT_snd ok21 weighs_snd (addT_snd ok22 awake2_snd (addT_snd ok23 new_snd (addT_snd ok32 rnew_snd (addT_snd ok33 plays_snd (addT_snd ok34 mwords_snd (addT_snd ok26 mdump_snd (addT_snd ok31 sameW_snd (addT_snd ok25 msteps_snd ((noT_snd _))))))))))
def memPlaysS : FSpec := fun args h K => ∃ b s L, args = [.s (.i .i64 b), .s s] ∧ IsArr MOp.c h s L ∧ (∀ x, x ∈ L → x.Ok h) ∧ L.length ≤ 140737488355328 ∧ ∀ h', K (.s (.b true)) h'
theorem memPlays_snd : Snd Try.prog 7 memPlaysS := (fwp_sound (Tab.snd_Γ TPl_snd) mixed Try.func7 dc7).weaken fun args h K hc hS => by
  obtain ⟨b, s, L, rfl, Hs, hok, hn, hK⟩ := hS
  refine fwp_run (Tab.ok_Γ _) 600 ?_
  have hlen := fun ls h' => Hs.sl.len (ls := ls) (h := h')
  have hkn := Hs.sl.known
  have hnl := Hs.sl.noL
  have hbl : ∀ k, S.below k s = true := Hs.sl.below
  have hao := arrOf_eq Hs
  obtain ⟨N, hN⟩ : ∃ N, weighF h L.length L = N := ⟨_, rfl⟩
  by_cases c0 : (2147483647 : Int) < N
  · simp (config := { maxSteps := 10000000 }) only [EV1, EV2, EV3, EV4, EV5, EV6, addT, istep, lenR_sl, lenR_ns, lenR_es, pickR, putD, bin1R, un1R, slcR, bnd, capsOf, fillP, S_plain, V_plain, V.cells, S_known, V_known, C.v, blk, setL, setH, eqS, eq1, cmpS, cmp1, isNil, popTo, killT, setT, leT, V.below, C.below, S_below, R.below, V.val, C.val, S_val, R.val, R.takes, vals, shows, List.any_cons, List.any_nil, unnamed, V.kill, V.names, C.names, S_names, R.names, List.set, List.replicate, ↓q_cond_t, ↓q_cond_f, if_true, if_false, reduceCtorEq, rvals, rvC, result, C_known, V.noL, C.noL, S_noL, R.noL, Option.map, true_and, and_true, ge_iff_le, gt_iff_lt, implies_true, q_ite_t, q_ite_f, beq_iff_eq, bne_iff_ne, q_ne, Nat.reduceAdd, Nat.reducePow, Int.reducePow, Nat.reduceMul, Nat.reduceSub, Nat.reduceLeDiff, Nat.reduceLT, Nat.reduceEqDiff, Int.reduceNeg, Int.reduceLT, Int.reduceLE, Int.reduceEq, Int.reduceNe, Int.reduceAdd, Int.reduceSub, Int.reduceMul, Int.reduceToNat, Int.reduceBEq, Int.reduceBNe, df7, TPl, weighsG, hao, hkn, hnl, hn, hN, c0]
    exact ⟨hok, hK _⟩
  have hbd := weighF_le h L L.length (by omega)
  by_cases c1 : b < 11
  · have n1 : ¬ (11 ≤ b) := by omega
    simp (config := { maxSteps := 10000000 }) only [EV1, EV2, EV3, EV4, EV5, EV6, addT, istep, lenR_sl, lenR_ns, lenR_es, pickR, putD, bin1R, un1R, slcR, bnd, capsOf, fillP, S_plain, V_plain, V.cells, S_known, V_known, C.v, blk, setL, setH, eqS, eq1, cmpS, cmp1, isNil, popTo, killT, setT, leT, V.below, C.below, S_below, R.below, V.val, C.val, S_val, R.val, R.takes, vals, shows, List.any_cons, List.any_nil, unnamed, V.kill, V.names, C.names, S_names, R.names, List.set, List.replicate, ↓q_cond_t, ↓q_cond_f, if_true, if_false, reduceCtorEq, rvals, rvC, result, C_known, V.noL, C.noL, S_noL, R.noL, Option.map, true_and, and_true, ge_iff_le, gt_iff_lt, implies_true, q_ite_t, q_ite_f, beq_iff_eq, bne_iff_ne, q_ne, Nat.reduceAdd, Nat.reducePow, Int.reducePow, Nat.reduceMul, Nat.reduceSub, Nat.reduceLeDiff, Nat.reduceLT, Nat.reduceEqDiff, Int.reduceNeg, Int.reduceLT, Int.reduceLE, Int.reduceEq, Int.reduceNe, Int.reduceAdd, Int.reduceSub, Int.reduceMul, Int.reduceToNat, Int.reduceBEq, Int.reduceBNe, df7, TPl, weighsG, hao, hkn, hnl, hn, hN, c0, awake2G, newM, n1]
    exact ⟨hok, hK _⟩
  by_cases c2 : 16 < b
  · have n1 : ¬ (b ≤ 16) := by omega
    simp (config := { maxSteps := 10000000 }) only [EV1, EV2, EV3, EV4, EV5, EV6, addT, istep, lenR_sl, lenR_ns, lenR_es, pickR, putD, bin1R, un1R, slcR, bnd, capsOf, fillP, S_plain, V_plain, V.cells, S_known, V_known, C.v, blk, setL, setH, eqS, eq1, cmpS, cmp1, isNil, popTo, killT, setT, leT, V.below, C.below, S_below, R.below, V.val, C.val, S_val, R.val, R.takes, vals, shows, List.any_cons, List.any_nil, unnamed, V.kill, V.names, C.names, S_names, R.names, List.set, List.replicate, ↓q_cond_t, ↓q_cond_f, if_true, if_false, reduceCtorEq, rvals, rvC, result, C_known, V.noL, C.noL, S_noL, R.noL, Option.map, true_and, and_true, ge_iff_le, gt_iff_lt, implies_true, q_ite_t, q_ite_f, beq_iff_eq, bne_iff_ne, q_ne, Nat.reduceAdd, Nat.reducePow, Int.reducePow, Nat.reduceMul, Nat.reduceSub, Nat.reduceLeDiff, Nat.reduceLT, Nat.reduceEqDiff, Int.reduceNeg, Int.reduceLT, Int.reduceLE, Int.reduceEq, Int.reduceNe, Int.reduceAdd, Int.reduceSub, Int.reduceMul, Int.reduceToNat, Int.reduceBEq, Int.reduceBNe, df7, TPl, weighsG, hao, hkn, hnl, hn, hN, c0, awake2G, newM, n1]
    exact ⟨hok, hK _⟩
  have c3 : 11 ≤ b := by omega
  have c4 : b ≤ 16 := by omega
  obtain ⟨z, hz⟩ : ∃ z, M.zero b.toNat = z := ⟨_, rfl⟩
  simp (config := { maxSteps := 10000000 }) only [EV1, EV2, EV3, EV4, EV5, EV6, addT, istep, lenR_sl, lenR_ns, lenR_es, pickR, putD, bin1R, un1R, slcR, bnd, capsOf, fillP, S_plain, V_plain, V.cells, S_known, V_known, C.v, blk, setL, setH, eqS, eq1, cmpS, cmp1, isNil, popTo, killT, setT, leT, V.below, C.below, S_below, R.below, V.val, C.val, S_val, R.val, R.takes, vals, shows, List.any_cons, List.any_nil, unnamed, V.kill, V.names, C.names, S_names, R.names, List.set, List.replicate, ↓q_cond_t, ↓q_cond_f, if_true, if_false, reduceCtorEq, rvals, rvC, result, C_known, V.noL, C.noL, S_noL, R.noL, Option.map, true_and, and_true, ge_iff_le, gt_iff_lt, implies_true, q_ite_t, q_ite_f, beq_iff_eq, bne_iff_ne, q_ne, Nat.reduceAdd, Nat.reducePow, Int.reducePow, Nat.reduceMul, Nat.reduceSub, Nat.reduceLeDiff, Nat.reduceLT, Nat.reduceEqDiff, Int.reduceNeg, Int.reduceLT, Int.reduceLE, Int.reduceEq, Int.reduceNe, Int.reduceAdd, Int.reduceSub, Int.reduceMul, Int.reduceToNat, Int.reduceBEq, Int.reduceBNe, df7, TPl, weighsG, hao, hkn, hnl, hn, hN, c0, awake2G, newM, c1, c2, c3, c4, hz, memH, app_len, n21]
  refine ⟨hok, ?_⟩
  refine loop_rule (α := Nat × M) [4, 11, 12, 50, 51, 52, 53, 54, 55, 56, 57, 58, 59, 60, 61, 62, 63, 64] (fun y => [(11, .s (.i .i64 y.1))]) (fun _ => []) (fun y => h ++ [MB (h.length + 1) y.2, MW y.2, MB (h.length + 3) y.2, MW y.2])
    (fun y => y.1 ≤ L.length) (fun y => L.length - y.1) (0, z) (Nat.zero_le _) ?_ ?_
  · refine Wk.same rfl rfl ?_
    simp (config := { maxSteps := 10000000 }) only [EV1, EV2, EV3, EV4, EV5, EV6, addT, istep, lenR_sl, lenR_ns, lenR_es, pickR, putD, bin1R, un1R, slcR, bnd, capsOf, fillP, S_plain, V_plain, V.cells, S_known, V_known, C.v, blk, setL, setH, eqS, eq1, cmpS, cmp1, isNil, popTo, killT, setT, leT, V.below, C.below, S_below, R.below, V.val, C.val, S_val, R.val, R.takes, vals, shows, List.any_cons, List.any_nil, unnamed, V.kill, V.names, C.names, S_names, R.names, List.set, List.replicate, ↓q_cond_t, ↓q_cond_f, if_true, if_false, reduceCtorEq, rvals, rvC, result, C_known, V.noL, C.noL, S_noL, R.noL, Option.map, true_and, and_true, ge_iff_le, gt_iff_lt, implies_true, q_ite_t, q_ite_f, beq_iff_eq, bne_iff_ne, q_ne, Nat.reduceAdd, Nat.reducePow, Int.reducePow, Nat.reduceMul, Nat.reduceSub, Nat.reduceLeDiff, Nat.reduceLT, Nat.reduceEqDiff, Int.reduceNeg, Int.reduceLT, Int.reduceLE, Int.reduceEq, Int.reduceNe, Int.reduceAdd, Int.reduceSub, Int.reduceMul, Int.reduceToNat, Int.reduceBEq, Int.reduceBNe, q_cast, Int.natCast_zero]
  · rintro X ⟨i, m⟩ hi IH
    simp only at hi IH ⊢
    rcases Nat.lt_or_ge i L.length with h1 | h1
    · obtain ⟨d1, d2, d3, d4⟩ := idx h1 (by omega)
      obtain ⟨j, c', st, room, hse, hj, hd⟩ := Hs.at h1
      obtain ⟨⟨what, addr, to, words, w, sx⟩, hx⟩ : ∃ x, nth mopZ L i = x := ⟨_, rfl⟩
      have hxo : MOp.Ok h ⟨what, addr, to, words, w, sx⟩ := by rw [← hx]; exact hok _ (nth_mem h1)
      have hxb : ((MOp.mk what addr to words w sx).l h).length ≤ 2147483647 := by rw [← hx]; exact hbd _ (nth_mem h1)
      have hxk := hxo.s.sl.known
      have hxn := hxo.s.sl.noL
      simp only at hxk hxn
      have hs : sub (arr MOp.c L) (i * 6) 6 = [.i .i64 what, .i .i64 addr, .i .i64 to, .i .i64 words, .i .u64 w, sx] := by
        have : sub (arr MOp.c L) (i * 6) 6 = (MOp.mk what addr to words w sx).c := by rw [← hx, nth_eq h1]; exact arr_sub MOp.c_len h1
        exact this
      have hle : i * 6 + 6 ≤ (arr MOp.c L).length := by
        rw [arr_length MOp.c_len]
        have : (i + 1) * 6 ≤ L.length * 6 := Nat.mul_le_mul_right _ h1
        omega
      have hjl : j < h.length := (List.getElem?_eq_some_iff.1 hj).1
      have hjx : ∀ X, (h ++ X)[j]? = some ⟨st, arr MOp.c L, room⟩ := fun X => by rw [app_getl hjl, hj]
      have hpl := playsG_eq (m := m) hxo hxb
      obtain ⟨m2, hm2⟩ : ∃ m2, m.step h ⟨what, addr, to, words, w, sx⟩ = m2 := ⟨_, rfl⟩
      rw [hm2] at hpl
      have z2 : L.length - (i + 1) < L.length - i := by omega
      refine run_sound (Tab.ok_Γ _) 400 _ _ _ _ ?_
      simp (config := { maxSteps := 10000000 }) only [EV1, EV2, EV3, EV4, EV5, EV6, addT, istep, lenR_sl, lenR_ns, lenR_es, pickR, putD, bin1R, un1R, slcR, bnd, capsOf, fillP, S_plain, V_plain, V.cells, S_known, V_known, C.v, blk, setL, setH, eqS, eq1, cmpS, cmp1, isNil, popTo, killT, setT, leT, V.below, C.below, S_below, R.below, V.val, C.val, S_val, R.val, R.takes, vals, shows, List.any_cons, List.any_nil, unnamed, V.kill, V.names, C.names, S_names, R.names, List.set, List.replicate, ↓q_cond_t, ↓q_cond_f, if_true, if_false, reduceCtorEq, rvals, rvC, result, C_known, V.noL, C.noL, S_noL, R.noL, Option.map, true_and, and_true, ge_iff_le, gt_iff_lt, implies_true, q_ite_t, q_ite_f, beq_iff_eq, bne_iff_ne, q_ne, Nat.reduceAdd, Nat.reducePow, Int.reducePow, Nat.reduceMul, Nat.reduceSub, Nat.reduceLeDiff, Nat.reduceLT, Nat.reduceEqDiff, Int.reduceNeg, Int.reduceLT, Int.reduceLE, Int.reduceEq, Int.reduceNe, Int.reduceAdd, Int.reduceSub, Int.reduceMul, Int.reduceToNat, Int.reduceBEq, Int.reduceBNe, TPl, hse, d1, d2, d3, d4, hjx, hd, hs, hle, hxk, hxn, hpl]
      exact IH (i + 1, m2) _ z2 h1 (Wk.same rfl rfl (by simp (config := { maxSteps := 10000000 }) only [EV1, EV2, EV3, EV4, EV5, EV6, addT, istep, lenR_sl, lenR_ns, lenR_es, pickR, putD, bin1R, un1R, slcR, bnd, capsOf, fillP, S_plain, V_plain, V.cells, S_known, V_known, C.v, blk, setL, setH, eqS, eq1, cmpS, cmp1, isNil, popTo, killT, setT, leT, V.below, C.below, S_below, R.below, V.val, C.val, S_val, R.val, R.takes, vals, shows, List.any_cons, List.any_nil, unnamed, V.kill, V.names, C.names, S_names, R.names, List.set, List.replicate, ↓q_cond_t, ↓q_cond_f, if_true, if_false, reduceCtorEq, rvals, rvC, result, C_known, V.noL, C.noL, S_noL, R.noL, Option.map, true_and, and_true, ge_iff_le, gt_iff_lt, implies_true, q_ite_t, q_ite_f, beq_iff_eq, bne_iff_ne, q_ne, Nat.reduceAdd, Nat.reducePow, Int.reducePow, Nat.reduceMul, Nat.reduceSub, Nat.reduceLeDiff, Nat.reduceLT, Nat.reduceEqDiff, Int.reduceNeg, Int.reduceLT, Int.reduceLE, Int.reduceEq, Int.reduceNe, Int.reduceAdd, Int.reduceSub, Int.reduceMul, Int.reduceToNat, Int.reduceBEq, Int.reduceBNe, hse]))
    · have e : i = L.length := by omega
      subst e
      have hml := m.l
      have hd : m.has 0 m.w.length = true := M.has_of (by omega)
      have wl := take_all (l := m.w) rfl
      have hb : m.w.length ≤ 8796093022208 := by omega
      refine run_sound (Tab.ok_Γ _) 400 _ _ _ _ ?_
      simp (config := { maxSteps := 10000000 }) only [EV1, EV2, EV3, EV4, EV5, EV6, addT, istep, lenR_sl, lenR_ns, lenR_es, pickR, putD, bin1R, un1R, slcR, bnd, capsOf, fillP, S_plain, V_plain, V.cells, S_known, V_known, C.v, blk, setL, setH, eqS, eq1, cmpS, cmp1, isNil, popTo, killT, setT, leT, V.below, C.below, S_below, R.below, V.val, C.val, S_val, R.val, R.takes, vals, shows, List.any_cons, List.any_nil, unnamed, V.kill, V.names, C.names, S_names, R.names, List.set, List.replicate, ↓q_cond_t, ↓q_cond_f, if_true, if_false, reduceCtorEq, rvals, rvC, result, C_known, V.noL, C.noL, S_noL, R.noL, Option.map, true_and, and_true, ge_iff_le, gt_iff_lt, implies_true, q_ite_t, q_ite_f, beq_iff_eq, bne_iff_ne, q_ne, Nat.reduceAdd, Nat.reducePow, Int.reducePow, Nat.reduceMul, Nat.reduceSub, Nat.reduceLeDiff, Nat.reduceLT, Nat.reduceEqDiff, Int.reduceNeg, Int.reduceLT, Int.reduceLE, Int.reduceEq, Int.reduceNe, Int.reduceAdd, Int.reduceSub, Int.reduceMul, Int.reduceToNat, Int.reduceBEq, Int.reduceBNe, TPl, hlen, Int.lt_irrefl, wordsG, wordsM, memF_0, dumpG, dumpM, hd, wl, List.drop_zero, Int.toNat_natCast]
      intro c5 hc5
      simp (config := { maxSteps := 10000000 }) only [EV1, EV2, EV3, EV4, EV5, EV6, addT, istep, lenR_sl, lenR_ns, lenR_es, pickR, putD, bin1R, un1R, slcR, bnd, capsOf, fillP, S_plain, V_plain, V.cells, S_known, V_known, C.v, blk, setL, setH, eqS, eq1, cmpS, cmp1, isNil, popTo, killT, setT, leT, V.below, C.below, S_below, R.below, V.val, C.val, S_val, R.val, R.takes, vals, shows, List.any_cons, List.any_nil, unnamed, V.kill, V.names, C.names, S_names, R.names, List.set, List.replicate, ↓q_cond_t, ↓q_cond_f, if_true, if_false, reduceCtorEq, rvals, rvC, result, C_known, V.noL, C.noL, S_noL, R.noL, Option.map, true_and, and_true, ge_iff_le, gt_iff_lt, implies_true, q_ite_t, q_ite_f, beq_iff_eq, bne_iff_ne, q_ne, Nat.reduceAdd, Nat.reducePow, Int.reducePow, Nat.reduceMul, Nat.reduceSub, Nat.reduceLeDiff, Nat.reduceLT, Nat.reduceEqDiff, Int.reduceNeg, Int.reduceLT, Int.reduceLE, Int.reduceEq, Int.reduceNe, Int.reduceAdd, Int.reduceSub, Int.reduceMul, Int.reduceToNat, Int.reduceBEq, Int.reduceBNe, TPl, memF_0, sameWG, wl, MB_0, MB_1, MB_st, lstB_MW, listOf_g, app_getn, lstB_rw, unwc_wc, o_bind, lenIs_t, some_is, hb, stepsG, stepsM]
      exact hK _
end Go.Proofs.Yteeeidldknlblaa

