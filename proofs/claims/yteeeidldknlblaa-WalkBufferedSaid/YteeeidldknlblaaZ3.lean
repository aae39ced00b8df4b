/- Package walk, and the document's: Walk. (Printed by gen_V5.py.) -/
import Derived.Test.YteeeidldknlblaaZ2
import Derived.Test.YteeeidldknlblaaZ1
/- The machine's memory: how it stands among the blocks. -/
namespace Go.Proofs.Yteeeidldknlblaa
open Go.D
set_option linter.all false
set_option maxRecDepth 100000
set_option maxHeartbeats 4000000

/-- A word of any number. -/
def uw (x : Int) : Int := x % 18446744073709551616
theorem uw_u (x : Int) : u64 (uw x) := by simp only [u64, uw]; omega
theorem uw_of {x : Int} (h : u64 x) : uw x = x := by simp only [u64, uw] at *; omega
theorem u64_0 : u64 0 := by simp only [u64]; omega

structure M where
  w : List Int
  n : Int
  u : ∀ x, x ∈ w → u64 x
  l : w.length ≤ 65536
theorem M.ext' {m k : M} (h1 : m.w = k.w) (h2 : m.n = k.n) : m = k := by
  cases m; cases k; simp only at h1 h2; subst h1; subst h2; rfl

def wc (w : List Int) : List S := w.map (S.i .u64)
theorem wc_len (w : List Int) : (wc w).length = w.length := by simp [wc]
theorem wc_get {w : List Int} {i : Nat} (h : i < w.length) : (wc w)[i]? = some (.i .u64 (nth 0 w i)) := by
  simp only [wc, List.getElem?_map, nth_get (d := 0) h, Option.map_some]
theorem wc_set (w : List Int) (i : Nat) (x : Int) : (wc w).set i (.i .u64 x) = wc (w.set i x) := by simp [wc, List.map_set]
theorem wc_all {p : S → Bool} (hp : ∀ x, p (.i .u64 x) = true) (w : List Int) : (wc w).all p = true := by simp [wc, hp]
theorem wc_known (w : List Int) : known (wc w) = true := by unfold known; exact wc_all (fun _ => rfl) w
theorem wc_vals (n k : Nat) (w : List Int) : vals n k (wc w) = true := by unfold vals; exact wc_all (fun _ => rfl) w
theorem wc_below (n : Nat) (w : List Int) : (wc w).all (S.below n) = true := wc_all (fun _ => rfl) w
theorem wc_takes (r : R) (n k : Nat) (w : List Int) : (wc w).all (r.takes n k) = true := wc_all (fun _ => by cases r <;> rfl) w
theorem wc_names (k : Nat) (w : List Int) : (wc w).all (fun s => !s.names k) = true := wc_all (fun _ => rfl) w
theorem wc_kept (k : List Nat) (w : List Int) : (wc w).all (S.kept k) = true := wc_all (fun _ => rfl) w
theorem wc_sub (w : List Int) (a k : Nat) : sub (wc w) a k = wc ((w.drop a).take k) := by simp [wc, sub, List.map_take, List.map_drop]
theorem wc_app (v w : List Int) : wc v ++ wc w = wc (v ++ w) := by simp [wc]
theorem wc_snoc (v : List Int) (a : Int) : wc (v ++ [a]) = wc v ++ [.i .u64 a] := by simp [wc]
theorem wc_nil : wc [] = [] := rfl
theorem wc_cons (x : Int) (w : List Int) : wc (x :: w) = .i .u64 x :: wc w := rfl
theorem wc_inj {v w : List Int} (h : wc v = wc w) : v = w := by
  induction v generalizing w with
  | nil => cases w with
    | nil => rfl
    | cons y w => simp [wc] at h
  | cons x v ih => cases w with
    | nil => simp [wc] at h
    | cons y w =>
      simp only [wc, List.map_cons, List.cons.injEq, S.i.injEq, true_and] at h
      rw [h.1, ih h.2]
theorem wc_ren (ρ : R → R) (w : List Int) : (wc w).map (S.ren ρ) = wc w := by simp [wc, Function.comp_def, S.ren]
theorem wc_zeros (n : Nat) : zeros [.i .u64 0] n = wc (List.replicate n 0) := by
  induction n with
  | zero => rfl
  | succ n ih => simp only [zeros, ih, List.replicate_succ, wc_cons, List.cons_append, List.nil_append]
theorem wc_map (w : List Int) : w.map (S.i .u64) = wc w := rfl

def M.at (m : M) (i : Int) : Int := nth 0 m.w i.toNat
theorem nth_mem {α : Type} {d : α} {l : List α} {i : Nat} (h : i < l.length) : nth d l i ∈ l := by rw [nth_eq h]; exact List.getElem_mem h
theorem nth_out {α : Type} {d : α} : ∀ {l : List α} {i : Nat}, l.length ≤ i → nth d l i = d
  | [], _, _ => rfl
  | _ :: _, 0, h => by simp at h
  | _ :: l, i + 1, h => nth_out (l := l) (by simpa using h)
theorem M.at_u (m : M) (i : Int) : u64 (m.at i) := by
  unfold M.at
  rcases Nat.lt_or_ge i.toNat m.w.length with h | h
  · exact m.u _ (nth_mem h)
  · rw [nth_out h]; exact u64_0

def M.put (m : M) (i : Nat) (x : Int) : M := ⟨m.w.set i (uw x), m.n, fun y hy => by
  rcases List.mem_or_eq_of_mem_set hy with h | h
  · exact m.u y h
  · subst h; exact uw_u x, by simpa using m.l⟩
def M.tick (m : M) (k : Int) : M := ⟨m.w, IntKind.i64.wrap (m.n + k), m.u, m.l⟩
def M.fill (m : M) (a : Nat) (x : Int) : Nat → M
  | 0 => m
  | k + 1 => (M.fill m a x k).put (a + k) x
def M.lay (m : M) (o : Nat) : List Int → M
  | [] => m
  | v :: vs => M.lay (m.put o v) (o + 1) vs
/-- Is a range there? -/
def M.has (m : M) (a k : Int) : Bool := decide (0 ≤ a ∧ 0 ≤ k ∧ a ≤ m.w.length ∧ k ≤ m.w.length - a)
theorem M.has_iff {m : M} {a k : Int} : m.has a k = true ↔ 0 ≤ a ∧ 0 ≤ k ∧ a ≤ m.w.length ∧ k ≤ m.w.length - a := by simp [M.has]
theorem M.has_nat {m : M} {a k : Int} (h : m.has a k = true) : ∃ i j : Nat, a = i ∧ k = j ∧ i + j ≤ m.w.length := by
  rw [M.has_iff] at h
  exact ⟨a.toNat, k.toNat, by omega, by omega, by omega⟩
theorem M.has_not {m : M} {a k : Int} (h : m.has a k = false) : ¬ (0 ≤ a ∧ 0 ≤ k ∧ a ≤ m.w.length ∧ k ≤ m.w.length - a) := by simpa [M.has] using h

theorem M.put_len (m : M) (i : Nat) (x : Int) : (m.put i x).w.length = m.w.length := by simp [M.put]
theorem M.tick_len (m : M) (k : Int) : (m.tick k).w.length = m.w.length := rfl
theorem M.fill_len (m : M) (a : Nat) (x : Int) : ∀ k, (m.fill a x k).w.length = m.w.length
  | 0 => rfl
  | k + 1 => by rw [M.fill, M.put_len, M.fill_len m a x k]
theorem M.lay_len : ∀ (vs : List Int) (m : M) (o : Nat), (m.lay o vs).w.length = m.w.length
  | [], _, _ => rfl
  | v :: vs, m, o => by rw [M.lay, M.lay_len vs, M.put_len]
theorem M.put_has (m : M) (i : Nat) (x a k : Int) : (m.put i x).has a k = m.has a k := by simp only [M.has, M.put_len]
theorem M.tick_has (m : M) (j a k : Int) : (m.tick j).has a k = m.has a k := rfl
theorem M.fill_has (m : M) (o : Nat) (x : Int) (j : Nat) (a k : Int) : (m.fill o x j).has a k = m.has a k := by simp only [M.has, M.fill_len]
theorem M.lay_has (m : M) (o : Nat) (vs : List Int) (a k : Int) : (m.lay o vs).has a k = m.has a k := by simp only [M.has, M.lay_len]
theorem M.put_n (m : M) (i : Nat) (x : Int) : (m.put i x).n = m.n := rfl
theorem M.fill_n (m : M) (a : Nat) (x : Int) : ∀ k, (m.fill a x k).n = m.n
  | 0 => rfl
  | k + 1 => by rw [M.fill, M.put_n, M.fill_n m a x k]
theorem M.lay_n : ∀ (vs : List Int) (m : M) (o : Nat), (m.lay o vs).n = m.n
  | [], _, _ => rfl
  | v :: vs, m, o => by rw [M.lay, M.lay_n vs, M.put_n]
theorem M.lay_snoc (v : Int) : ∀ (vs : List Int) (m : M) (o : Nat), m.lay o (vs ++ [v]) = (m.lay o vs).put (o + vs.length) v
  | [], m, o => rfl
  | u :: vs, m, o => by
    simp only [List.cons_append, M.lay, M.lay_snoc v vs, List.length_cons]
    rw [show o + 1 + vs.length = o + (vs.length + 1) by omega]
theorem M.lay_w : ∀ (vs : List Int) (m : M) (o : Nat), (∀ x, x ∈ vs → u64 x) → D.put (wc m.w) o (wc vs) = wc (m.lay o vs).w
  | [], _, _, _ => rfl
  | v :: vs, m, o, hu => by
    simp only [wc_cons, M.lay]
    rw [show D.put (wc m.w) o (S.i .u64 v :: wc vs) = D.put ((wc m.w).set o (.i .u64 v)) (o + 1) (wc vs) from rfl]
    rw [wc_set, show v = uw v from (uw_of (hu v (by simp))).symm]
    rw [show m.w.set o (uw v) = (m.put o v).w from rfl, M.lay_w vs (m.put o v) (o + 1) (fun x hx => hu x (by simp [hx]))]
    rw [← show v = uw v from (uw_of (hu v (by simp))).symm]

/-! ### among the blocks -/
def MB (b : Nat) (m : M) : Blk := ⟨.rw, [.sl (.g b) 0 m.w.length m.w.length, .i .i64 m.n], 2⟩
def MW (m : M) : Blk := ⟨.rw, wc m.w, m.w.length⟩
structure IsMem (h : List Blk) (a b : Nat) (m : M) : Prop where
  ne : a ≠ b
  ha : h[a]? = some (MB b m)
  hb : h[b]? = some (MW m)
def setM (h : List Blk) (a b : Nat) (m : M) : List Blk := (h.set a (MB b m)).set b (MW m)

theorem IsMem.lta {h : List Blk} {a b : Nat} {m : M} (H : IsMem h a b m) : a < h.length := (List.getElem?_eq_some_iff.1 H.ha).1
theorem IsMem.ltb {h : List Blk} {a b : Nat} {m : M} (H : IsMem h a b m) : b < h.length := (List.getElem?_eq_some_iff.1 H.hb).1
theorem setM_len {h : List Blk} {a b : Nat} {m : M} : (setM h a b m).length = h.length := by simp [setM]
theorem IsMem.set {h : List Blk} {a b : Nat} {m : M} (H : IsMem h a b m) (m' : M) : IsMem (setM h a b m') a b m' := by
  refine ⟨H.ne, ?_, ?_⟩
  · simp only [setM]
    rw [List.getElem?_set_ne (Ne.symm H.ne), List.getElem?_set_self H.lta]
  · simp only [setM]
    rw [List.getElem?_set_self (by simpa using H.ltb)]
theorem setM_set {h : List Blk} {a b : Nat} {m m' : M} (ne : a ≠ b) : setM (setM h a b m) a b m' = setM h a b m' := by
  simp only [setM]
  rw [List.set_comm _ _ ne, List.set_set, List.set_comm _ _ ne, List.set_set, List.set_comm _ _ (Ne.symm ne)]
theorem setM_self {h : List Blk} {a b : Nat} {m : M} (H : IsMem h a b m) : setM h a b m = h := by
  simp only [setM]
  rw [set_self H.ha, set_self H.hb]
theorem setM_fun {h : List Blk} {a b : Nat} {m m0 : M} (H : IsMem h a b m0) : setM (setM h a b m) a b = setM h a b := funext fun m' => setM_set H.ne
theorem IsMem.app {h X : List Blk} {a b : Nat} {m : M} (H : IsMem h a b m) : IsMem (h ++ X) a b m :=
  ⟨H.ne, by rw [List.getElem?_append_left H.lta]; exact H.ha, by rw [List.getElem?_append_left H.ltb]; exact H.hb⟩
theorem setM_app {h X : List Blk} {a b : Nat} {m m' : M} (H : IsMem h a b m) : setM (h ++ X) a b m' = setM h a b m' ++ X := by
  simp only [setM]
  rw [app_setl H.lta, app_setl (by simpa using H.ltb)]
theorem setM_words {h : List Blk} {a b : Nat} {m m' : M} (H : IsMem h a b m) (hl : m'.w.length = m.w.length) (hn : m'.n = m.n) : h.set b (MW m') = setM h a b m' := by
  simp only [setM]
  rw [show MB b m' = MB b m by simp only [MB, hl, hn], set_self H.ha]
theorem setM_steps {h : List Blk} {a b : Nat} {m m' : M} (H : IsMem h a b m) (hw : m'.w = m.w) : h.set a (MB b m') = setM h a b m' := by
  simp only [setM]
  rw [List.set_comm _ _ H.ne, show MW m' = MW m by simp only [MW, hw], set_self H.hb]
theorem IsMem.uniq {h : List Blk} {a b b' : Nat} {m m' : M} (H : IsMem h a b m) (H' : IsMem h a b' m') : b = b' ∧ m = m' := by
  have h1 := H.ha.symm.trans H'.ha
  simp only [MB, Option.some.injEq, Blk.mk.injEq, List.cons.injEq, S.sl.injEq, R.g.injEq, S.i.injEq, true_and, and_true] at h1
  obtain ⟨⟨e, _, _⟩, e2⟩ := h1
  subst e
  have h2 := H.hb.symm.trans H'.hb
  simp only [MW, Option.some.injEq, Blk.mk.injEq, true_and] at h2
  exact ⟨rfl, M.ext' (wc_inj h2.1) e2⟩
theorem setM_clean {h : List Blk} {a b : Nat} {m m0 : M} {n : Nat} (H : IsMem h a b m0) (hc : clean n h = true) (hn : b < n) : clean n (setM h a b m) = true := by
  refine clean_set (clean_set hc ?_) (wc_vals _ _ _)
  simp [MB, vals, S.val, R.val, hn]

open Classical in
noncomputable def memOf (h : List Blk) (a : Nat) : Option (Nat × M) := if hx : ∃ x : Nat × M, IsMem h a x.1 x.2 then some (Classical.choose hx) else none
theorem memOf_eq {h : List Blk} {a b : Nat} {m : M} (H : IsMem h a b m) : memOf h a = some (b, m) := by
  have hx : ∃ x : Nat × M, IsMem h a x.1 x.2 := ⟨(b, m), H⟩
  unfold memOf
  rw [dif_pos hx]
  have := IsMem.uniq (Classical.choose_spec hx) H
  rw [show Classical.choose hx = (b, m) from Prod.ext this.1 this.2]
theorem memOf_some {h : List Blk} {a b : Nat} {m : M} (e : memOf h a = some (b, m)) : IsMem h a b m := by
  unfold memOf at e
  split at e
  · rename_i hx
    have := Classical.choose_spec hx
    rw [Option.some.injEq] at e
    rw [e] at this
    exact this
  · cases e

/-- What is done with a memory, its first argument. -/
noncomputable def memF (f : Nat → M → (M → List Blk) → List V → Res) : List V → List Blk → Res
  | .s (.p (.g a) 0) :: rest, h => match memOf h a with
    | some (b, m) => f b m (setM h a b) rest
    | none => .bad
  | _, _ => .bad
theorem memF_spec {f : Nat → M → (M → List Blk) → List V → Res} {args : List V} {h : List Blk} {K : V → List Blk → Prop} (hS : (memF f args h).spec K) :
    ∃ a b m rest, args = .s (.p (.g a) 0) :: rest ∧ IsMem h a b m ∧ (f b m (setM h a b) rest).spec K := by
  unfold memF at hS
  split at hS
  · split at hS
    · rename_i e
      exact ⟨_, _, _, _, rfl, memOf_some e, hS⟩
    · exact hS.elim
  · exact hS.elim
theorem memF_eq {f : Nat → M → (M → List Blk) → List V → Res} {h : List Blk} {a b : Nat} {m : M} {rest : List V} (H : IsMem h a b m) : memF f (.s (.p (.g a) 0) :: rest) h = f b m (setM h a b) rest := by
  simp only [memF, memOf_eq H]
theorem memF_set {f : Nat → M → (M → List Blk) → List V → Res} {h : List Blk} {a b : Nat} {m m' : M} {rest : List V} (H : IsMem h a b m) : memF f (.s (.p (.g a) 0) :: rest) (setM h a b m') = f b m' (setM h a b) rest := by
  rw [memF_eq (H.set m'), setM_fun H]
theorem memF_app {f : Nat → M → (M → List Blk) → List V → Res} {h X : List Blk} {a b : Nat} {m m' : M} {rest : List V} (H : IsMem h a b m) : memF f (.s (.p (.g a) 0) :: rest) (setM h a b m' ++ X) = f b m' (fun m => setM h a b m ++ X) rest := by
  rw [memF_eq ((H.set m').app), show setM (setM h a b m' ++ X) a b = fun m => setM h a b m ++ X from funext fun k => by rw [setM_app (H.set m'), setM_set H.ne]]
theorem memF_app0 {f : Nat → M → (M → List Blk) → List V → Res} {h X : List Blk} {a b : Nat} {m : M} {rest : List V} (H : IsMem h a b m) : memF f (.s (.p (.g a) 0) :: rest) (h ++ X) = f b m (fun m => setM h a b m ++ X) rest := by
  rw [memF_eq H.app, show setM (h ++ X) a b = fun m => setM h a b m ++ X from funext fun k => by rw [setM_app H]]

/-! ### new memories -/
def memH (h : List Blk) (m : M) : List Blk := h ++ [MB (h.length + 1) m, MW m]
theorem memH_len {h : List Blk} {m : M} : (memH h m).length = h.length + 2 := by simp [memH]
theorem memH_is (h : List Blk) (m : M) : IsMem (memH h m) h.length (h.length + 1) m := by
  refine ⟨by omega, ?_, ?_⟩
  · simp only [memH]; rw [app_get0]; rfl
  · simp only [memH]; rw [app_getn]; rfl
theorem memH_set (h : List Blk) (m m' : M) : setM (memH h m) h.length (h.length + 1) m' = memH h m' := by
  simp only [memH, setM]
  rw [app_set0, app_setn]; rfl
theorem memH_fun (h : List Blk) (m : M) : setM (memH h m) h.length (h.length + 1) = memH h := funext (memH_set h m)
theorem memF_new {f : Nat → M → (M → List Blk) → List V → Res} {h : List Blk} {m : M} {rest : List V} : memF f (.s (.p (.g h.length) 0) :: rest) (memH h m) = f (h.length + 1) m (memH h) rest := by
  rw [memF_eq (memH_is h m), memH_fun]
theorem memH_is1 (h : List Blk) (m k : M) : IsMem (memH (memH h m) k) h.length (h.length + 1) m := (memH_is h m).app
theorem memH_is2 (h : List Blk) (m k : M) : IsMem (memH (memH h m) k) (h.length + 2) (h.length + 3) k := by
  have := memH_is (memH h m) k
  rw [memH_len] at this
  exact this
theorem memH_set1 (h : List Blk) (m k m' : M) : setM (memH (memH h m) k) h.length (h.length + 1) m' = memH (memH h m') k := by
  show setM (memH h m ++ [MB ((memH h m).length + 1) k, MW k]) _ _ _ = _
  rw [setM_app (memH_is h m), memH_set]
  simp [memH]
theorem memH_set2 (h : List Blk) (m k m' : M) : setM (memH (memH h m) k) (h.length + 2) (h.length + 3) m' = memH (memH h m) m' := by
  have := memH_set (memH h m) k m'
  rw [memH_len] at this
  exact this
theorem memF_new1 {f : Nat → M → (M → List Blk) → List V → Res} {h : List Blk} {m k : M} {rest : List V} : memF f (.s (.p (.g h.length) 0) :: rest) (memH (memH h m) k) = f (h.length + 1) m (fun m => memH (memH h m) k) rest := by
  rw [memF_eq (memH_is1 h m k), show setM (memH (memH h m) k) h.length (h.length + 1) = fun m => memH (memH h m) k from funext (memH_set1 h m k)]
theorem memF_new2 {f : Nat → M → (M → List Blk) → List V → Res} {h : List Blk} {m k : M} {rest : List V} : memF f (.s (.p (.g (h.length + 2)) 0) :: rest) (memH (memH h m) k) = f (h.length + 3) k (memH (memH h m)) rest := by
  rw [memF_eq (memH_is2 h m k), show setM (memH (memH h m) k) (h.length + 2) (h.length + 3) = memH (memH h m) from funext (memH_set2 h m k)]
end Go.Proofs.Yteeeidldknlblaa

/- The machine's memory: what its functions do. -/
namespace Go.Proofs.Yteeeidldknlblaa
open Go.D
set_option linter.all false
set_option maxRecDepth 100000
set_option maxHeartbeats 4000000

theorem pow16 (k : Nat) : 2 ^ min k 16 ≤ 65536 := by
  have : min k 16 ≤ 16 := by omega
  exact Nat.pow_le_pow_right (n := 2) (by omega) this
def M.zero (k : Nat) : M := ⟨List.replicate (2 ^ min k 16) 0, 0, fun x hx => by rw [List.eq_of_mem_replicate hx]; exact u64_0, by simpa using pow16 k⟩
theorem M.zero_len (k : Nat) : (M.zero k).w.length = 2 ^ min k 16 := by simp [M.zero]

def newM : List V → List Blk → Res
  | [.s (.i .i64 b)], h => .br (decide (11 ≤ b) && decide (b ≤ 16)) (.ok (.tup [.s (.p (.g h.length) 0), .s (.i .i64 0)]) [] (memH h (M.zero b.toNat))) (.ok (.tup [.s .np, .s (.i .i64 1)]) [] h)
  | _, _ => .bad
theorem new_snd : Snd Try.prog 23 (FSpec.of newM) := snd_run (noT_snd _) mixed Try.func23 dc23 100 fun args h K hc hS => by
  unfold newM at hS
  split at hS
  · rename_i b
    simp only [spec_br, spec_ok, Bool.and_eq_true, decide_eq_true_eq] at hS
    by_cases c1 : b < 11
    · simp (config := { maxSteps := 10000000 }) only [EV1, EV2, EV3, EV4, EV5, EV6, addT, istep, lenR_sl, lenR_ns, lenR_es, pickR, putD, bin1R, un1R, slcR, bnd, capsOf, fillP, S_plain, V_plain, V.cells, S_known, V_known, C.v, blk, setL, setH, eqS, eq1, cmpS, cmp1, isNil, popTo, killT, setT, leT, V.below, C.below, S_below, R.below, V.val, C.val, S_val, R.val, R.takes, vals, shows, List.any_cons, List.any_nil, unnamed, V.kill, V.names, C.names, S_names, R.names, List.set, List.replicate, ↓q_cond_t, ↓q_cond_f, if_true, if_false, reduceCtorEq, rvals, rvC, result, C_known, V.noL, C.noL, S_noL, R.noL, Option.map, true_and, and_true, ge_iff_le, gt_iff_lt, implies_true, q_ite_t, q_ite_f, beq_iff_eq, bne_iff_ne, q_ne, Nat.reduceAdd, Nat.reducePow, Int.reducePow, Nat.reduceMul, Nat.reduceSub, Nat.reduceLeDiff, Nat.reduceLT, Nat.reduceEqDiff, Int.reduceNeg, Int.reduceLT, Int.reduceLE, Int.reduceEq, Int.reduceNe, Int.reduceAdd, Int.reduceSub, Int.reduceMul, Int.reduceToNat, Int.reduceBEq, Int.reduceBNe, df23, c1]
      exact hS.2 (by simp; omega)
    by_cases c2 : 16 < b
    · simp (config := { maxSteps := 10000000 }) only [EV1, EV2, EV3, EV4, EV5, EV6, addT, istep, lenR_sl, lenR_ns, lenR_es, pickR, putD, bin1R, un1R, slcR, bnd, capsOf, fillP, S_plain, V_plain, V.cells, S_known, V_known, C.v, blk, setL, setH, eqS, eq1, cmpS, cmp1, isNil, popTo, killT, setT, leT, V.below, C.below, S_below, R.below, V.val, C.val, S_val, R.val, R.takes, vals, shows, List.any_cons, List.any_nil, unnamed, V.kill, V.names, C.names, S_names, R.names, List.set, List.replicate, ↓q_cond_t, ↓q_cond_f, if_true, if_false, reduceCtorEq, rvals, rvC, result, C_known, V.noL, C.noL, S_noL, R.noL, Option.map, true_and, and_true, ge_iff_le, gt_iff_lt, implies_true, q_ite_t, q_ite_f, beq_iff_eq, bne_iff_ne, q_ne, Nat.reduceAdd, Nat.reducePow, Int.reducePow, Nat.reduceMul, Nat.reduceSub, Nat.reduceLeDiff, Nat.reduceLT, Nat.reduceEqDiff, Int.reduceNeg, Int.reduceLT, Int.reduceLE, Int.reduceEq, Int.reduceNe, Int.reduceAdd, Int.reduceSub, Int.reduceMul, Int.reduceToNat, Int.reduceBEq, Int.reduceBNe, df23, c1, c2]
      exact hS.2 (by simp; omega)
    have hS := hS.1 (by omega)
    obtain ⟨k, rfl⟩ : ∃ k : Nat, b = k := ⟨b.toNat, by omega⟩
    have hk : min k 16 = k := by omega
    have m1 : min k IntKind.i64.bits = k := by show min k 64 = _; omega
    have p1 := pow16 k
    rw [hk] at p1
    obtain ⟨p, hp⟩ : ∃ p : Nat, 2 ^ k = p := ⟨_, rfl⟩
    rw [hp] at p1
    have c3 : (0 : Int) ≤ k := by omega
    have w1 : IntKind.i64.wrap (1 * 2 ^ k) = (p : Int) := by
      rw [Int.one_mul, show (2 : Int) ^ k = (p : Int) by rw [← hp]; simp, wrap64] <;> omega
    have c4 : (0 : Int) ≤ (p : Int) := by omega
    have c5 : (p : Int) ≤ 1099511627776 := by omega
    have c6 : (8 : Int) * (p : Int) ≤ 281474976710656 := by omega
    simp (config := { maxSteps := 10000000 }) only [EV1, EV2, EV3, EV4, EV5, EV6, addT, istep, lenR_sl, lenR_ns, lenR_es, pickR, putD, bin1R, un1R, slcR, bnd, capsOf, fillP, S_plain, V_plain, V.cells, S_known, V_known, C.v, blk, setL, setH, eqS, eq1, cmpS, cmp1, isNil, popTo, killT, setT, leT, V.below, C.below, S_below, R.below, V.val, C.val, S_val, R.val, R.takes, vals, shows, List.any_cons, List.any_nil, unnamed, V.kill, V.names, C.names, S_names, R.names, List.set, List.replicate, ↓q_cond_t, ↓q_cond_f, if_true, if_false, reduceCtorEq, rvals, rvC, result, C_known, V.noL, C.noL, S_noL, R.noL, Option.map, true_and, and_true, ge_iff_le, gt_iff_lt, implies_true, q_ite_t, q_ite_f, beq_iff_eq, bne_iff_ne, q_ne, Nat.reduceAdd, Nat.reducePow, Int.reducePow, Nat.reduceMul, Nat.reduceSub, Nat.reduceLeDiff, Nat.reduceLT, Nat.reduceEqDiff, Int.reduceNeg, Int.reduceLT, Int.reduceLE, Int.reduceEq, Int.reduceNe, Int.reduceAdd, Int.reduceSub, Int.reduceMul, Int.reduceToNat, Int.reduceBEq, Int.reduceBNe, df23, c1, c2, c3, m1, w1, c4, Int.le_refl, c5, c6, wc_zeros, put, fillP]
    refine ⟨[1, 0], by simp, rfl, ?_⟩
    simp only [getAll, List.getElem?_cons_zero, List.getElem?_cons_succ]
    refine ⟨?_, ?_⟩
    · simp [S.kept, R.kept, wc_kept]
    · refine cast (congrArg (K _) ?_) hS
      simp [memH, MB, MW, M.zero, hk, hp, Blk.ren, S.ren, R.prom, List.idxOf, List.findIdx, List.findIdx.go, wc_ren, wc_len, V.ren, C.ren, wc_map]
  · exact hS.elim
theorem rnew_snd : Snd Try.prog 32 (FSpec.of newM) := snd_run (noT_snd _) mixed Try.func32 dc32 100 fun args h K hc hS => by
  unfold newM at hS
  split at hS
  · rename_i b
    simp only [spec_br, spec_ok, Bool.and_eq_true, decide_eq_true_eq] at hS
    by_cases c1 : b < 11
    · simp (config := { maxSteps := 10000000 }) only [EV1, EV2, EV3, EV4, EV5, EV6, addT, istep, lenR_sl, lenR_ns, lenR_es, pickR, putD, bin1R, un1R, slcR, bnd, capsOf, fillP, S_plain, V_plain, V.cells, S_known, V_known, C.v, blk, setL, setH, eqS, eq1, cmpS, cmp1, isNil, popTo, killT, setT, leT, V.below, C.below, S_below, R.below, V.val, C.val, S_val, R.val, R.takes, vals, shows, List.any_cons, List.any_nil, unnamed, V.kill, V.names, C.names, S_names, R.names, List.set, List.replicate, ↓q_cond_t, ↓q_cond_f, if_true, if_false, reduceCtorEq, rvals, rvC, result, C_known, V.noL, C.noL, S_noL, R.noL, Option.map, true_and, and_true, ge_iff_le, gt_iff_lt, implies_true, q_ite_t, q_ite_f, beq_iff_eq, bne_iff_ne, q_ne, Nat.reduceAdd, Nat.reducePow, Int.reducePow, Nat.reduceMul, Nat.reduceSub, Nat.reduceLeDiff, Nat.reduceLT, Nat.reduceEqDiff, Int.reduceNeg, Int.reduceLT, Int.reduceLE, Int.reduceEq, Int.reduceNe, Int.reduceAdd, Int.reduceSub, Int.reduceMul, Int.reduceToNat, Int.reduceBEq, Int.reduceBNe, df32, c1]
      exact hS.2 (by simp; omega)
    by_cases c2 : 16 < b
    · simp (config := { maxSteps := 10000000 }) only [EV1, EV2, EV3, EV4, EV5, EV6, addT, istep, lenR_sl, lenR_ns, lenR_es, pickR, putD, bin1R, un1R, slcR, bnd, capsOf, fillP, S_plain, V_plain, V.cells, S_known, V_known, C.v, blk, setL, setH, eqS, eq1, cmpS, cmp1, isNil, popTo, killT, setT, leT, V.below, C.below, S_below, R.below, V.val, C.val, S_val, R.val, R.takes, vals, shows, List.any_cons, List.any_nil, unnamed, V.kill, V.names, C.names, S_names, R.names, List.set, List.replicate, ↓q_cond_t, ↓q_cond_f, if_true, if_false, reduceCtorEq, rvals, rvC, result, C_known, V.noL, C.noL, S_noL, R.noL, Option.map, true_and, and_true, ge_iff_le, gt_iff_lt, implies_true, q_ite_t, q_ite_f, beq_iff_eq, bne_iff_ne, q_ne, Nat.reduceAdd, Nat.reducePow, Int.reducePow, Nat.reduceMul, Nat.reduceSub, Nat.reduceLeDiff, Nat.reduceLT, Nat.reduceEqDiff, Int.reduceNeg, Int.reduceLT, Int.reduceLE, Int.reduceEq, Int.reduceNe, Int.reduceAdd, Int.reduceSub, Int.reduceMul, Int.reduceToNat, Int.reduceBEq, Int.reduceBNe, df32, c1, c2]
      exact hS.2 (by simp; omega)
    have hS := hS.1 (by omega)
    obtain ⟨k, rfl⟩ : ∃ k : Nat, b = k := ⟨b.toNat, by omega⟩
    have hk : min k 16 = k := by omega
    have m1 : min k IntKind.i64.bits = k := by show min k 64 = _; omega
    have p1 := pow16 k
    rw [hk] at p1
    obtain ⟨p, hp⟩ : ∃ p : Nat, 2 ^ k = p := ⟨_, rfl⟩
    rw [hp] at p1
    have c3 : (0 : Int) ≤ k := by omega
    have w1 : IntKind.i64.wrap (1 * 2 ^ k) = (p : Int) := by
      rw [Int.one_mul, show (2 : Int) ^ k = (p : Int) by rw [← hp]; simp, wrap64] <;> omega
    have c4 : (0 : Int) ≤ (p : Int) := by omega
    have c5 : (p : Int) ≤ 1099511627776 := by omega
    have c6 : (8 : Int) * (p : Int) ≤ 281474976710656 := by omega
    simp (config := { maxSteps := 10000000 }) only [EV1, EV2, EV3, EV4, EV5, EV6, addT, istep, lenR_sl, lenR_ns, lenR_es, pickR, putD, bin1R, un1R, slcR, bnd, capsOf, fillP, S_plain, V_plain, V.cells, S_known, V_known, C.v, blk, setL, setH, eqS, eq1, cmpS, cmp1, isNil, popTo, killT, setT, leT, V.below, C.below, S_below, R.below, V.val, C.val, S_val, R.val, R.takes, vals, shows, List.any_cons, List.any_nil, unnamed, V.kill, V.names, C.names, S_names, R.names, List.set, List.replicate, ↓q_cond_t, ↓q_cond_f, if_true, if_false, reduceCtorEq, rvals, rvC, result, C_known, V.noL, C.noL, S_noL, R.noL, Option.map, true_and, and_true, ge_iff_le, gt_iff_lt, implies_true, q_ite_t, q_ite_f, beq_iff_eq, bne_iff_ne, q_ne, Nat.reduceAdd, Nat.reducePow, Int.reducePow, Nat.reduceMul, Nat.reduceSub, Nat.reduceLeDiff, Nat.reduceLT, Nat.reduceEqDiff, Int.reduceNeg, Int.reduceLT, Int.reduceLE, Int.reduceEq, Int.reduceNe, Int.reduceAdd, Int.reduceSub, Int.reduceMul, Int.reduceToNat, Int.reduceBEq, Int.reduceBNe, df32, c1, c2, c3, m1, w1, c4, Int.le_refl, c5, c6, wc_zeros, put, fillP]
    refine ⟨[1, 0], by simp, rfl, ?_⟩
    simp only [getAll, List.getElem?_cons_zero, List.getElem?_cons_succ]
    refine ⟨?_, ?_⟩
    · simp [S.kept, R.kept, wc_kept]
    · refine cast (congrArg (K _) ?_) hS
      simp [memH, MB, MW, M.zero, hk, hp, Blk.ren, S.ren, R.prom, List.idxOf, List.findIdx, List.findIdx.go, wc_ren, wc_len, V.ren, C.ren, wc_map]
  · exact hS.elim
def wordsM (b : Nat) (m : M) (st : M → List Blk) : List V → Res
  | [] => .ok (.s (.i .i64 m.w.length)) [] (st m)
  | _ => .bad
noncomputable def wordsG := memF wordsM
theorem mwords_snd : Snd Try.prog 34 (FSpec.of wordsG) := snd_run (noT_snd _) mixed Try.func34 dc34 100 fun args h K hc hS => by
  obtain ⟨a, b, m, rest, rfl, H, hS1⟩ := memF_spec hS
  clear hS
  have hS := hS1
  clear hS1
  unfold wordsM at hS
  split at hS
  · simp only [spec_ok, setM_self H] at hS
    simp (config := { maxSteps := 10000000 }) only [EV1, EV2, EV3, EV4, EV5, EV6, addT, istep, lenR_sl, lenR_ns, lenR_es, pickR, putD, bin1R, un1R, slcR, bnd, capsOf, fillP, S_plain, V_plain, V.cells, S_known, V_known, C.v, blk, setL, setH, eqS, eq1, cmpS, cmp1, isNil, popTo, killT, setT, leT, V.below, C.below, S_below, R.below, V.val, C.val, S_val, R.val, R.takes, vals, shows, List.any_cons, List.any_nil, unnamed, V.kill, V.names, C.names, S_names, R.names, List.set, List.replicate, ↓q_cond_t, ↓q_cond_f, if_true, if_false, reduceCtorEq, rvals, rvC, result, C_known, V.noL, C.noL, S_noL, R.noL, Option.map, true_and, and_true, ge_iff_le, gt_iff_lt, implies_true, q_ite_t, q_ite_f, beq_iff_eq, bne_iff_ne, q_ne, Nat.reduceAdd, Nat.reducePow, Int.reducePow, Nat.reduceMul, Nat.reduceSub, Nat.reduceLeDiff, Nat.reduceLT, Nat.reduceEqDiff, Int.reduceNeg, Int.reduceLT, Int.reduceLE, Int.reduceEq, Int.reduceNe, Int.reduceAdd, Int.reduceSub, Int.reduceMul, Int.reduceToNat, Int.reduceBEq, Int.reduceBNe, df34, H.ha, MB]
    exact hS
  · exact hS.elim

def stepsM (b : Nat) (m : M) (st : M → List Blk) : List V → Res
  | [] => .ok (.s (.i .i64 m.n)) [] (st m)
  | _ => .bad
noncomputable def stepsG := memF stepsM
theorem msteps_snd : Snd Try.prog 25 (FSpec.of stepsG) := snd_run (noT_snd _) mixed Try.func25 dc25 100 fun args h K hc hS => by
  obtain ⟨a, b, m, rest, rfl, H, hS1⟩ := memF_spec hS
  clear hS
  have hS := hS1
  clear hS1
  unfold stepsM at hS
  split at hS
  · simp only [spec_ok, setM_self H] at hS
    simp (config := { maxSteps := 10000000 }) only [EV1, EV2, EV3, EV4, EV5, EV6, addT, istep, lenR_sl, lenR_ns, lenR_es, pickR, putD, bin1R, un1R, slcR, bnd, capsOf, fillP, S_plain, V_plain, V.cells, S_known, V_known, C.v, blk, setL, setH, eqS, eq1, cmpS, cmp1, isNil, popTo, killT, setT, leT, V.below, C.below, S_below, R.below, V.val, C.val, S_val, R.val, R.takes, vals, shows, List.any_cons, List.any_nil, unnamed, V.kill, V.names, C.names, S_names, R.names, List.set, List.replicate, ↓q_cond_t, ↓q_cond_f, if_true, if_false, reduceCtorEq, rvals, rvC, result, C_known, V.noL, C.noL, S_noL, R.noL, Option.map, true_and, and_true, ge_iff_le, gt_iff_lt, implies_true, q_ite_t, q_ite_f, beq_iff_eq, bne_iff_ne, q_ne, Nat.reduceAdd, Nat.reducePow, Int.reducePow, Nat.reduceMul, Nat.reduceSub, Nat.reduceLeDiff, Nat.reduceLT, Nat.reduceEqDiff, Int.reduceNeg, Int.reduceLT, Int.reduceLE, Int.reduceEq, Int.reduceNe, Int.reduceAdd, Int.reduceSub, Int.reduceMul, Int.reduceToNat, Int.reduceBEq, Int.reduceBNe, df25, H.ha, MB]
    exact hS
  · exact hS.elim

/-- Where a part of the words begins. -/
def offM (m : M) (a : Nat) : Nat := if m.w.length = a then 0 else a
def spanM (b : Nat) (m : M) (st : M → List Blk) : List V → Res
  | [.s (.i .i64 a), .s (.i .i64 k)] => .br (m.has a k) (.ok (.tup [.s (.sl (.g b) (if m.w.length = a.toNat then 0 else a.toNat) k.toNat (m.w.length - a.toNat)), .s (.b true)]) [] (st m)) (.ok (.tup [.s .ns, .s (.b false)]) [] (st m))
  | _ => .bad
noncomputable def spanG := memF spanM
theorem span_snd : Snd Try.prog 59 (FSpec.of spanG) := snd_run (noT_snd _) mixed Try.func59 dc59 100 fun args h K hc hS => by
  obtain ⟨a, b, m, rest, rfl, H, hS1⟩ := memF_spec hS
  clear hS
  have hS := hS1
  clear hS1
  unfold spanM at hS
  split at hS
  · rename_i x k
    simp only [spec_ok, spec_br, setM_self H] at hS
    have hl := m.l
    cases hh : m.has x k with
    | true =>
      have hS := hS.1 hh
      obtain ⟨i, j, rfl, rfl, hij⟩ := M.has_nat hh
      have c1 : ¬ ((i : Int) < 0) := by omega
      have c2 : ¬ ((j : Int) < 0) := by omega
      have c3 : ¬ ((m.w.length : Int) < i) := by omega
      have w1 : IntKind.i64.wrap ((m.w.length : Int) - i) = m.w.length - i := wrap64 (by omega) (by omega)
      have c4 : ¬ ((m.w.length : Int) - i < j) := by omega
      have w2 : IntKind.i64.wrap ((i : Int) + j) = ((i + j : Nat) : Int) := by rw [wrap64] <;> omega
      have c5 : (0 : Int) ≤ i := by omega
      have c6 : (i : Int) ≤ ((i + j : Nat) : Int) := by omega
      have c7 : ((i + j : Nat) : Int) ≤ m.w.length := by omega
      have e1 : i + j - i = j := by omega
      have c8 : 0 ≤ (i : Int) ∧ (i : Int) ≤ ((i + j : Nat) : Int) ∧ ((i + j : Nat) : Int) ≤ m.w.length := by omega
      simp (config := { maxSteps := 10000000 }) only [EV1, EV2, EV3, EV4, EV5, EV6, addT, istep, lenR_sl, lenR_ns, lenR_es, pickR, putD, bin1R, un1R, slcR, bnd, capsOf, fillP, S_plain, V_plain, V.cells, S_known, V_known, C.v, blk, setL, setH, eqS, eq1, cmpS, cmp1, isNil, popTo, killT, setT, leT, V.below, C.below, S_below, R.below, V.val, C.val, S_val, R.val, R.takes, vals, shows, List.any_cons, List.any_nil, unnamed, V.kill, V.names, C.names, S_names, R.names, List.set, List.replicate, ↓q_cond_t, ↓q_cond_f, if_true, if_false, reduceCtorEq, rvals, rvC, result, C_known, V.noL, C.noL, S_noL, R.noL, Option.map, true_and, and_true, ge_iff_le, gt_iff_lt, implies_true, q_ite_t, q_ite_f, beq_iff_eq, bne_iff_ne, q_ne, Nat.reduceAdd, Nat.reducePow, Int.reducePow, Nat.reduceMul, Nat.reduceSub, Nat.reduceLeDiff, Nat.reduceLT, Nat.reduceEqDiff, Int.reduceNeg, Int.reduceLT, Int.reduceLE, Int.reduceEq, Int.reduceNe, Int.reduceAdd, Int.reduceSub, Int.reduceMul, Int.reduceToNat, Int.reduceBEq, Int.reduceBNe, df59, H.ha, MB, c1, c2, c3, w1, c4, w2, slcR, c5, c6, c7, e1]
      exact hS
    | false =>
      have hS := hS.2 hh
      have hn := M.has_not hh
      by_cases c1 : x < 0
      · simp (config := { maxSteps := 10000000 }) only [EV1, EV2, EV3, EV4, EV5, EV6, addT, istep, lenR_sl, lenR_ns, lenR_es, pickR, putD, bin1R, un1R, slcR, bnd, capsOf, fillP, S_plain, V_plain, V.cells, S_known, V_known, C.v, blk, setL, setH, eqS, eq1, cmpS, cmp1, isNil, popTo, killT, setT, leT, V.below, C.below, S_below, R.below, V.val, C.val, S_val, R.val, R.takes, vals, shows, List.any_cons, List.any_nil, unnamed, V.kill, V.names, C.names, S_names, R.names, List.set, List.replicate, ↓q_cond_t, ↓q_cond_f, if_true, if_false, reduceCtorEq, rvals, rvC, result, C_known, V.noL, C.noL, S_noL, R.noL, Option.map, true_and, and_true, ge_iff_le, gt_iff_lt, implies_true, q_ite_t, q_ite_f, beq_iff_eq, bne_iff_ne, q_ne, Nat.reduceAdd, Nat.reducePow, Int.reducePow, Nat.reduceMul, Nat.reduceSub, Nat.reduceLeDiff, Nat.reduceLT, Nat.reduceEqDiff, Int.reduceNeg, Int.reduceLT, Int.reduceLE, Int.reduceEq, Int.reduceNe, Int.reduceAdd, Int.reduceSub, Int.reduceMul, Int.reduceToNat, Int.reduceBEq, Int.reduceBNe, df59, c1]
        exact hS
      by_cases c2 : k < 0
      · simp (config := { maxSteps := 10000000 }) only [EV1, EV2, EV3, EV4, EV5, EV6, addT, istep, lenR_sl, lenR_ns, lenR_es, pickR, putD, bin1R, un1R, slcR, bnd, capsOf, fillP, S_plain, V_plain, V.cells, S_known, V_known, C.v, blk, setL, setH, eqS, eq1, cmpS, cmp1, isNil, popTo, killT, setT, leT, V.below, C.below, S_below, R.below, V.val, C.val, S_val, R.val, R.takes, vals, shows, List.any_cons, List.any_nil, unnamed, V.kill, V.names, C.names, S_names, R.names, List.set, List.replicate, ↓q_cond_t, ↓q_cond_f, if_true, if_false, reduceCtorEq, rvals, rvC, result, C_known, V.noL, C.noL, S_noL, R.noL, Option.map, true_and, and_true, ge_iff_le, gt_iff_lt, implies_true, q_ite_t, q_ite_f, beq_iff_eq, bne_iff_ne, q_ne, Nat.reduceAdd, Nat.reducePow, Int.reducePow, Nat.reduceMul, Nat.reduceSub, Nat.reduceLeDiff, Nat.reduceLT, Nat.reduceEqDiff, Int.reduceNeg, Int.reduceLT, Int.reduceLE, Int.reduceEq, Int.reduceNe, Int.reduceAdd, Int.reduceSub, Int.reduceMul, Int.reduceToNat, Int.reduceBEq, Int.reduceBNe, df59, c1, c2]
        exact hS
      by_cases c3 : (m.w.length : Int) < x
      · simp (config := { maxSteps := 10000000 }) only [EV1, EV2, EV3, EV4, EV5, EV6, addT, istep, lenR_sl, lenR_ns, lenR_es, pickR, putD, bin1R, un1R, slcR, bnd, capsOf, fillP, S_plain, V_plain, V.cells, S_known, V_known, C.v, blk, setL, setH, eqS, eq1, cmpS, cmp1, isNil, popTo, killT, setT, leT, V.below, C.below, S_below, R.below, V.val, C.val, S_val, R.val, R.takes, vals, shows, List.any_cons, List.any_nil, unnamed, V.kill, V.names, C.names, S_names, R.names, List.set, List.replicate, ↓q_cond_t, ↓q_cond_f, if_true, if_false, reduceCtorEq, rvals, rvC, result, C_known, V.noL, C.noL, S_noL, R.noL, Option.map, true_and, and_true, ge_iff_le, gt_iff_lt, implies_true, q_ite_t, q_ite_f, beq_iff_eq, bne_iff_ne, q_ne, Nat.reduceAdd, Nat.reducePow, Int.reducePow, Nat.reduceMul, Nat.reduceSub, Nat.reduceLeDiff, Nat.reduceLT, Nat.reduceEqDiff, Int.reduceNeg, Int.reduceLT, Int.reduceLE, Int.reduceEq, Int.reduceNe, Int.reduceAdd, Int.reduceSub, Int.reduceMul, Int.reduceToNat, Int.reduceBEq, Int.reduceBNe, df59, H.ha, MB, c1, c2, c3]
        exact hS
      have w1 : IntKind.i64.wrap ((m.w.length : Int) - x) = m.w.length - x := wrap64 (by omega) (by omega)
      have c4 : (m.w.length : Int) - x < k := by omega
      simp (config := { maxSteps := 10000000 }) only [EV1, EV2, EV3, EV4, EV5, EV6, addT, istep, lenR_sl, lenR_ns, lenR_es, pickR, putD, bin1R, un1R, slcR, bnd, capsOf, fillP, S_plain, V_plain, V.cells, S_known, V_known, C.v, blk, setL, setH, eqS, eq1, cmpS, cmp1, isNil, popTo, killT, setT, leT, V.below, C.below, S_below, R.below, V.val, C.val, S_val, R.val, R.takes, vals, shows, List.any_cons, List.any_nil, unnamed, V.kill, V.names, C.names, S_names, R.names, List.set, List.replicate, ↓q_cond_t, ↓q_cond_f, if_true, if_false, reduceCtorEq, rvals, rvC, result, C_known, V.noL, C.noL, S_noL, R.noL, Option.map, true_and, and_true, ge_iff_le, gt_iff_lt, implies_true, q_ite_t, q_ite_f, beq_iff_eq, bne_iff_ne, q_ne, Nat.reduceAdd, Nat.reducePow, Int.reducePow, Nat.reduceMul, Nat.reduceSub, Nat.reduceLeDiff, Nat.reduceLT, Nat.reduceEqDiff, Int.reduceNeg, Int.reduceLT, Int.reduceLE, Int.reduceEq, Int.reduceNe, Int.reduceAdd, Int.reduceSub, Int.reduceMul, Int.reduceToNat, Int.reduceBEq, Int.reduceBNe, df59, H.ha, MB, c1, c2, c3, w1, c4]
      exact hS
  · exact hS.elim

def thereM (b : Nat) (m : M) (st : M → List Blk) : List V → Res
  | [.s (.i .i64 a), .s (.i .i64 k)] => .ok (.s (.b (m.has a k))) [] (st m)
  | _ => .bad
noncomputable def thereG := memF thereM
theorem rthere_snd : Snd Try.prog 72 (FSpec.of thereG) := snd_run (noT_snd _) mixed Try.func72 dc72 100 fun args h K hc hS => by
  obtain ⟨a, b, m, rest, rfl, H, hS1⟩ := memF_spec hS
  clear hS
  have hS := hS1
  clear hS1
  unfold thereM at hS
  split at hS
  · rename_i x k
    simp only [spec_ok, setM_self H] at hS
    have hl := m.l
    cases hh : m.has x k with
    | true =>
      rw [hh] at hS
      obtain ⟨i, j, rfl, rfl, hij⟩ := M.has_nat hh
      have w1 : IntKind.i64.wrap ((m.w.length : Int) - i) = m.w.length - i := wrap64 (by omega) (by omega)
      have c1 : (0 : Int) ≤ i := by omega
      have c2 : (0 : Int) ≤ j := by omega
      have c3 : (i : Int) ≤ m.w.length := by omega
      have c4 : (j : Int) ≤ (m.w.length : Int) - i := by omega
      simp (config := { maxSteps := 10000000 }) only [EV1, EV2, EV3, EV4, EV5, EV6, addT, istep, lenR_sl, lenR_ns, lenR_es, pickR, putD, bin1R, un1R, slcR, bnd, capsOf, fillP, S_plain, V_plain, V.cells, S_known, V_known, C.v, blk, setL, setH, eqS, eq1, cmpS, cmp1, isNil, popTo, killT, setT, leT, V.below, C.below, S_below, R.below, V.val, C.val, S_val, R.val, R.takes, vals, shows, List.any_cons, List.any_nil, unnamed, V.kill, V.names, C.names, S_names, R.names, List.set, List.replicate, ↓q_cond_t, ↓q_cond_f, if_true, if_false, reduceCtorEq, rvals, rvC, result, C_known, V.noL, C.noL, S_noL, R.noL, Option.map, true_and, and_true, ge_iff_le, gt_iff_lt, implies_true, q_ite_t, q_ite_f, beq_iff_eq, bne_iff_ne, q_ne, Nat.reduceAdd, Nat.reducePow, Int.reducePow, Nat.reduceMul, Nat.reduceSub, Nat.reduceLeDiff, Nat.reduceLT, Nat.reduceEqDiff, Int.reduceNeg, Int.reduceLT, Int.reduceLE, Int.reduceEq, Int.reduceNe, Int.reduceAdd, Int.reduceSub, Int.reduceMul, Int.reduceToNat, Int.reduceBEq, Int.reduceBNe, df72, H.ha, MB, c1, c2, c3, w1, c4]
      exact hS
    | false =>
      rw [hh] at hS
      have hn := M.has_not hh
      by_cases c1 : 0 ≤ x
      · by_cases c2 : 0 ≤ k
        · by_cases c3 : x ≤ m.w.length
          · have w1 : IntKind.i64.wrap ((m.w.length : Int) - x) = m.w.length - x := wrap64 (by omega) (by omega)
            have c4 : ¬ (k ≤ (m.w.length : Int) - x) := by omega
            simp (config := { maxSteps := 10000000 }) only [EV1, EV2, EV3, EV4, EV5, EV6, addT, istep, lenR_sl, lenR_ns, lenR_es, pickR, putD, bin1R, un1R, slcR, bnd, capsOf, fillP, S_plain, V_plain, V.cells, S_known, V_known, C.v, blk, setL, setH, eqS, eq1, cmpS, cmp1, isNil, popTo, killT, setT, leT, V.below, C.below, S_below, R.below, V.val, C.val, S_val, R.val, R.takes, vals, shows, List.any_cons, List.any_nil, unnamed, V.kill, V.names, C.names, S_names, R.names, List.set, List.replicate, ↓q_cond_t, ↓q_cond_f, if_true, if_false, reduceCtorEq, rvals, rvC, result, C_known, V.noL, C.noL, S_noL, R.noL, Option.map, true_and, and_true, ge_iff_le, gt_iff_lt, implies_true, q_ite_t, q_ite_f, beq_iff_eq, bne_iff_ne, q_ne, Nat.reduceAdd, Nat.reducePow, Int.reducePow, Nat.reduceMul, Nat.reduceSub, Nat.reduceLeDiff, Nat.reduceLT, Nat.reduceEqDiff, Int.reduceNeg, Int.reduceLT, Int.reduceLE, Int.reduceEq, Int.reduceNe, Int.reduceAdd, Int.reduceSub, Int.reduceMul, Int.reduceToNat, Int.reduceBEq, Int.reduceBNe, df72, H.ha, MB, c1, c2, c3, w1, c4]
            exact hS
          · simp (config := { maxSteps := 10000000 }) only [EV1, EV2, EV3, EV4, EV5, EV6, addT, istep, lenR_sl, lenR_ns, lenR_es, pickR, putD, bin1R, un1R, slcR, bnd, capsOf, fillP, S_plain, V_plain, V.cells, S_known, V_known, C.v, blk, setL, setH, eqS, eq1, cmpS, cmp1, isNil, popTo, killT, setT, leT, V.below, C.below, S_below, R.below, V.val, C.val, S_val, R.val, R.takes, vals, shows, List.any_cons, List.any_nil, unnamed, V.kill, V.names, C.names, S_names, R.names, List.set, List.replicate, ↓q_cond_t, ↓q_cond_f, if_true, if_false, reduceCtorEq, rvals, rvC, result, C_known, V.noL, C.noL, S_noL, R.noL, Option.map, true_and, and_true, ge_iff_le, gt_iff_lt, implies_true, q_ite_t, q_ite_f, beq_iff_eq, bne_iff_ne, q_ne, Nat.reduceAdd, Nat.reducePow, Int.reducePow, Nat.reduceMul, Nat.reduceSub, Nat.reduceLeDiff, Nat.reduceLT, Nat.reduceEqDiff, Int.reduceNeg, Int.reduceLT, Int.reduceLE, Int.reduceEq, Int.reduceNe, Int.reduceAdd, Int.reduceSub, Int.reduceMul, Int.reduceToNat, Int.reduceBEq, Int.reduceBNe, df72, H.ha, MB, c1, c2, c3]
            exact hS
        · simp (config := { maxSteps := 10000000 }) only [EV1, EV2, EV3, EV4, EV5, EV6, addT, istep, lenR_sl, lenR_ns, lenR_es, pickR, putD, bin1R, un1R, slcR, bnd, capsOf, fillP, S_plain, V_plain, V.cells, S_known, V_known, C.v, blk, setL, setH, eqS, eq1, cmpS, cmp1, isNil, popTo, killT, setT, leT, V.below, C.below, S_below, R.below, V.val, C.val, S_val, R.val, R.takes, vals, shows, List.any_cons, List.any_nil, unnamed, V.kill, V.names, C.names, S_names, R.names, List.set, List.replicate, ↓q_cond_t, ↓q_cond_f, if_true, if_false, reduceCtorEq, rvals, rvC, result, C_known, V.noL, C.noL, S_noL, R.noL, Option.map, true_and, and_true, ge_iff_le, gt_iff_lt, implies_true, q_ite_t, q_ite_f, beq_iff_eq, bne_iff_ne, q_ne, Nat.reduceAdd, Nat.reducePow, Int.reducePow, Nat.reduceMul, Nat.reduceSub, Nat.reduceLeDiff, Nat.reduceLT, Nat.reduceEqDiff, Int.reduceNeg, Int.reduceLT, Int.reduceLE, Int.reduceEq, Int.reduceNe, Int.reduceAdd, Int.reduceSub, Int.reduceMul, Int.reduceToNat, Int.reduceBEq, Int.reduceBNe, df72, H.ha, MB, c1, c2]
          exact hS
      · simp (config := { maxSteps := 10000000 }) only [EV1, EV2, EV3, EV4, EV5, EV6, addT, istep, lenR_sl, lenR_ns, lenR_es, pickR, putD, bin1R, un1R, slcR, bnd, capsOf, fillP, S_plain, V_plain, V.cells, S_known, V_known, C.v, blk, setL, setH, eqS, eq1, cmpS, cmp1, isNil, popTo, killT, setT, leT, V.below, C.below, S_below, R.below, V.val, C.val, S_val, R.val, R.takes, vals, shows, List.any_cons, List.any_nil, unnamed, V.kill, V.names, C.names, S_names, R.names, List.set, List.replicate, ↓q_cond_t, ↓q_cond_f, if_true, if_false, reduceCtorEq, rvals, rvC, result, C_known, V.noL, C.noL, S_noL, R.noL, Option.map, true_and, and_true, ge_iff_le, gt_iff_lt, implies_true, q_ite_t, q_ite_f, beq_iff_eq, bne_iff_ne, q_ne, Nat.reduceAdd, Nat.reducePow, Int.reducePow, Nat.reduceMul, Nat.reduceSub, Nat.reduceLeDiff, Nat.reduceLT, Nat.reduceEqDiff, Int.reduceNeg, Int.reduceLT, Int.reduceLE, Int.reduceEq, Int.reduceNe, Int.reduceAdd, Int.reduceSub, Int.reduceMul, Int.reduceToNat, Int.reduceBEq, Int.reduceBNe, df72, H.ha, MB, c1]
        exact hS
  · exact hS.elim
end Go.Proofs.Yteeeidldknlblaa

/- The machine's memory: reading and writing. -/
namespace Go.Proofs.Yteeeidldknlblaa
open Go.D
set_option linter.all false
set_option maxRecDepth 100000
set_option maxHeartbeats 4000000

theorem IsMem.hb' {h : List Blk} {a b : Nat} {m : M} (H : IsMem h a b m) (B : Blk) : (h.set a B)[b]? = some (MW m) := by rw [set_miss H.ne]; exact H.hb
theorem IsMem.ha' {h : List Blk} {a b : Nat} {m : M} (H : IsMem h a b m) (B : Blk) : (h.set b B)[a]? = some (MB b m) := by rw [set_miss (Ne.symm H.ne)]; exact H.ha

noncomputable def TSp : Tab := addT 59 spanG (addT 72 thereG noT)
theorem TSp_snd : TSp.Snd Try.prog := addT_snd ok59 span_snd (addT_snd ok72 rthere_snd (noT_snd _))

def readM (b : Nat) (m : M) (st : M → List Blk) : List V → Res
  | [.s (.i .i64 x)] => .br (m.has x 1) (.ok (.tup [.s (.i .u64 (m.at x)), .s (.i .i64 0)]) [] (st (m.tick 1))) (.ok (.tup [.s (.i .u64 0), .s (.i .i64 20)]) [] (st m))
  | _ => .bad
noncomputable def readG := memF readM
theorem mread_snd : Snd Try.prog 30 (FSpec.of readG) := snd_run TSp_snd mixed Try.func30 dc30 100 fun args h K hc hS => by
  obtain ⟨a, b, m, rest, rfl, H, hS1⟩ := memF_spec hS
  clear hS
  have hS := hS1
  clear hS1
  unfold readM at hS
  split at hS
  · rename_i x
    simp only [spec_ok, spec_br, setM_self H] at hS
    rw [← setM_steps H (m' := m.tick 1) rfl] at hS
    cases hh : m.has x 1 with
    | true =>
      have hS := hS.1 hh
      obtain ⟨i, j, rfl, e, hij⟩ := M.has_nat hh
      have c1 : ¬ (m.w.length = i) := by omega
      have c2 : (0 : Int) ≤ i ∧ (i : Int) < m.w.length := by omega
      have g := wc_get (w := m.w) (i := i) (by omega)
      simp (config := { maxSteps := 10000000 }) only [EV1, EV2, EV3, EV4, EV5, EV6, addT, istep, lenR_sl, lenR_ns, lenR_es, pickR, putD, bin1R, un1R, slcR, bnd, capsOf, fillP, S_plain, V_plain, V.cells, S_known, V_known, C.v, blk, setL, setH, eqS, eq1, cmpS, cmp1, isNil, popTo, killT, setT, leT, V.below, C.below, S_below, R.below, V.val, C.val, S_val, R.val, R.takes, vals, shows, List.any_cons, List.any_nil, unnamed, V.kill, V.names, C.names, S_names, R.names, List.set, List.replicate, ↓q_cond_t, ↓q_cond_f, if_true, if_false, reduceCtorEq, rvals, rvC, result, C_known, V.noL, C.noL, S_noL, R.noL, Option.map, true_and, and_true, ge_iff_le, gt_iff_lt, implies_true, q_ite_t, q_ite_f, beq_iff_eq, bne_iff_ne, q_ne, Nat.reduceAdd, Nat.reducePow, Int.reducePow, Nat.reduceMul, Nat.reduceSub, Nat.reduceLeDiff, Nat.reduceLT, Nat.reduceEqDiff, Int.reduceNeg, Int.reduceLT, Int.reduceLE, Int.reduceEq, Int.reduceNe, Int.reduceAdd, Int.reduceSub, Int.reduceMul, Int.reduceToNat, Int.reduceBEq, Int.reduceBNe, df30, TSp, spanG, thereG, memF_eq H, spanM, thereM, setM_self H, hh, c1, c2, H.ha, H.hb, H.hb', MB, MW, g, Int.toNat_natCast, set_hit H.ha]
      exact hS
    | false =>
      have hS := hS.2 hh
      simp (config := { maxSteps := 10000000 }) only [EV1, EV2, EV3, EV4, EV5, EV6, addT, istep, lenR_sl, lenR_ns, lenR_es, pickR, putD, bin1R, un1R, slcR, bnd, capsOf, fillP, S_plain, V_plain, V.cells, S_known, V_known, C.v, blk, setL, setH, eqS, eq1, cmpS, cmp1, isNil, popTo, killT, setT, leT, V.below, C.below, S_below, R.below, V.val, C.val, S_val, R.val, R.takes, vals, shows, List.any_cons, List.any_nil, unnamed, V.kill, V.names, C.names, S_names, R.names, List.set, List.replicate, ↓q_cond_t, ↓q_cond_f, if_true, if_false, reduceCtorEq, rvals, rvC, result, C_known, V.noL, C.noL, S_noL, R.noL, Option.map, true_and, and_true, ge_iff_le, gt_iff_lt, implies_true, q_ite_t, q_ite_f, beq_iff_eq, bne_iff_ne, q_ne, Nat.reduceAdd, Nat.reducePow, Int.reducePow, Nat.reduceMul, Nat.reduceSub, Nat.reduceLeDiff, Nat.reduceLT, Nat.reduceEqDiff, Int.reduceNeg, Int.reduceLT, Int.reduceLE, Int.reduceEq, Int.reduceNe, Int.reduceAdd, Int.reduceSub, Int.reduceMul, Int.reduceToNat, Int.reduceBEq, Int.reduceBNe, df30, TSp, spanG, thereG, memF_eq H, spanM, thereM, setM_self H, hh]
      exact hS
  · exact hS.elim
theorem rread_snd : Snd Try.prog 44 (FSpec.of readG) := snd_run TSp_snd mixed Try.func44 dc44 100 fun args h K hc hS => by
  obtain ⟨a, b, m, rest, rfl, H, hS1⟩ := memF_spec hS
  clear hS
  have hS := hS1
  clear hS1
  unfold readM at hS
  split at hS
  · rename_i x
    simp only [spec_ok, spec_br, setM_self H] at hS
    rw [← setM_steps H (m' := m.tick 1) rfl] at hS
    cases hh : m.has x 1 with
    | true =>
      have hS := hS.1 hh
      obtain ⟨i, j, rfl, e, hij⟩ := M.has_nat hh
      have c1 : ¬ (m.w.length = i) := by omega
      have c2 : (0 : Int) ≤ i ∧ (i : Int) < m.w.length := by omega
      have g := wc_get (w := m.w) (i := i) (by omega)
      simp (config := { maxSteps := 10000000 }) only [EV1, EV2, EV3, EV4, EV5, EV6, addT, istep, lenR_sl, lenR_ns, lenR_es, pickR, putD, bin1R, un1R, slcR, bnd, capsOf, fillP, S_plain, V_plain, V.cells, S_known, V_known, C.v, blk, setL, setH, eqS, eq1, cmpS, cmp1, isNil, popTo, killT, setT, leT, V.below, C.below, S_below, R.below, V.val, C.val, S_val, R.val, R.takes, vals, shows, List.any_cons, List.any_nil, unnamed, V.kill, V.names, C.names, S_names, R.names, List.set, List.replicate, ↓q_cond_t, ↓q_cond_f, if_true, if_false, reduceCtorEq, rvals, rvC, result, C_known, V.noL, C.noL, S_noL, R.noL, Option.map, true_and, and_true, ge_iff_le, gt_iff_lt, implies_true, q_ite_t, q_ite_f, beq_iff_eq, bne_iff_ne, q_ne, Nat.reduceAdd, Nat.reducePow, Int.reducePow, Nat.reduceMul, Nat.reduceSub, Nat.reduceLeDiff, Nat.reduceLT, Nat.reduceEqDiff, Int.reduceNeg, Int.reduceLT, Int.reduceLE, Int.reduceEq, Int.reduceNe, Int.reduceAdd, Int.reduceSub, Int.reduceMul, Int.reduceToNat, Int.reduceBEq, Int.reduceBNe, df44, TSp, spanG, thereG, memF_eq H, spanM, thereM, setM_self H, hh, c1, c2, H.ha, H.hb, H.hb', MB, MW, g, Int.toNat_natCast, set_hit H.ha]
      exact hS
    | false =>
      have hS := hS.2 hh
      simp (config := { maxSteps := 10000000 }) only [EV1, EV2, EV3, EV4, EV5, EV6, addT, istep, lenR_sl, lenR_ns, lenR_es, pickR, putD, bin1R, un1R, slcR, bnd, capsOf, fillP, S_plain, V_plain, V.cells, S_known, V_known, C.v, blk, setL, setH, eqS, eq1, cmpS, cmp1, isNil, popTo, killT, setT, leT, V.below, C.below, S_below, R.below, V.val, C.val, S_val, R.val, R.takes, vals, shows, List.any_cons, List.any_nil, unnamed, V.kill, V.names, C.names, S_names, R.names, List.set, List.replicate, ↓q_cond_t, ↓q_cond_f, if_true, if_false, reduceCtorEq, rvals, rvC, result, C_known, V.noL, C.noL, S_noL, R.noL, Option.map, true_and, and_true, ge_iff_le, gt_iff_lt, implies_true, q_ite_t, q_ite_f, beq_iff_eq, bne_iff_ne, q_ne, Nat.reduceAdd, Nat.reducePow, Int.reducePow, Nat.reduceMul, Nat.reduceSub, Nat.reduceLeDiff, Nat.reduceLT, Nat.reduceEqDiff, Int.reduceNeg, Int.reduceLT, Int.reduceLE, Int.reduceEq, Int.reduceNe, Int.reduceAdd, Int.reduceSub, Int.reduceMul, Int.reduceToNat, Int.reduceBEq, Int.reduceBNe, df44, TSp, spanG, thereG, memF_eq H, spanM, thereM, setM_self H, hh]
      exact hS
  · exact hS.elim

def fillM (b : Nat) (m : M) (st : M → List Blk) : List V → Res
  | [.s (.i .i64 x), .s (.i .i64 k), .s (.i .u64 v)] => .ob (u64 v) (.br (m.has x k) (.ok (.s (.i .i64 0)) [] (st ((m.fill x.toNat v k.toNat).tick k))) (.ok (.s (.i .i64 20)) [] (st m)))
  | _ => .bad
noncomputable def fillG := memF fillM
theorem mfill_snd : Snd Try.prog 29 (FSpec.of fillG) := snd_run TSp_snd mixed Try.func29 dc29 100 fun args h K hc hS => by
  obtain ⟨a, b, m, rest, rfl, H, hS1⟩ := memF_spec hS
  clear hS
  have hS := hS1
  clear hS1
  unfold fillM at hS
  split at hS
  · rename_i x k v
    simp only [spec_ob, spec_ok, spec_br, setM_self H] at hS
    obtain ⟨hv, hS⟩ := hS
    cases hh : m.has x k with
    | true =>
      have hS := hS.1 hh
      obtain ⟨i, j, rfl, rfl, hij⟩ := M.has_nat hh
      simp only [Int.toNat_natCast] at hS
      have hl := m.l
      obtain ⟨o, ho, hoi⟩ : ∃ o : Nat, (if m.w.length = i then 0 else i) = o ∧ (i < m.w.length → o = i) := ⟨_, rfl, fun hlt => if_neg (by omega)⟩
      simp (config := { maxSteps := 10000000 }) only [EV1, EV2, EV3, EV4, EV5, EV6, addT, istep, lenR_sl, lenR_ns, lenR_es, pickR, putD, bin1R, un1R, slcR, bnd, capsOf, fillP, S_plain, V_plain, V.cells, S_known, V_known, C.v, blk, setL, setH, eqS, eq1, cmpS, cmp1, isNil, popTo, killT, setT, leT, V.below, C.below, S_below, R.below, V.val, C.val, S_val, R.val, R.takes, vals, shows, List.any_cons, List.any_nil, unnamed, V.kill, V.names, C.names, S_names, R.names, List.set, List.replicate, ↓q_cond_t, ↓q_cond_f, if_true, if_false, reduceCtorEq, rvals, rvC, result, C_known, V.noL, C.noL, S_noL, R.noL, Option.map, true_and, and_true, ge_iff_le, gt_iff_lt, implies_true, q_ite_t, q_ite_f, beq_iff_eq, bne_iff_ne, q_ne, Nat.reduceAdd, Nat.reducePow, Int.reducePow, Nat.reduceMul, Nat.reduceSub, Nat.reduceLeDiff, Nat.reduceLT, Nat.reduceEqDiff, Int.reduceNeg, Int.reduceLT, Int.reduceLE, Int.reduceEq, Int.reduceNe, Int.reduceAdd, Int.reduceSub, Int.reduceMul, Int.reduceToNat, Int.reduceBEq, Int.reduceBNe, df29, TSp, spanG, memF_eq H, spanM, setM_self H, hh, Int.toNat_natCast, ho]
      refine loop_rule (α := Nat) [11, 23, 24, 25, 26, 27, 28, 29, 30] (fun q => [(23, .s (.i .i64 q))]) (fun _ => []) (fun q => h.set b ⟨.rw, wc (m.fill i v q).w, m.w.length⟩) (fun q => q ≤ j) (fun q => j - q) 0 (by omega) ?_ ?_
      · simp only [M.fill]
        rw [show (⟨.rw, wc m.w, m.w.length⟩ : Blk) = MW m from rfl, set_self H.hb]
        refine Wk.less ?_
        simp (config := { maxSteps := 10000000 }) only [EV1, EV2, EV3, EV4, EV5, EV6, addT, istep, lenR_sl, lenR_ns, lenR_es, pickR, putD, bin1R, un1R, slcR, bnd, capsOf, fillP, S_plain, V_plain, V.cells, S_known, V_known, C.v, blk, setL, setH, eqS, eq1, cmpS, cmp1, isNil, popTo, killT, setT, leT, V.below, C.below, S_below, R.below, V.val, C.val, S_val, R.val, R.takes, vals, shows, List.any_cons, List.any_nil, unnamed, V.kill, V.names, C.names, S_names, R.names, List.set, List.replicate, ↓q_cond_t, ↓q_cond_f, if_true, if_false, reduceCtorEq, rvals, rvC, result, C_known, V.noL, C.noL, S_noL, R.noL, Option.map, true_and, and_true, ge_iff_le, gt_iff_lt, implies_true, q_ite_t, q_ite_f, beq_iff_eq, bne_iff_ne, q_ne, Nat.reduceAdd, Nat.reducePow, Int.reducePow, Nat.reduceMul, Nat.reduceSub, Nat.reduceLeDiff, Nat.reduceLT, Nat.reduceEqDiff, Int.reduceNeg, Int.reduceLT, Int.reduceLE, Int.reduceEq, Int.reduceNe, Int.reduceAdd, Int.reduceSub, Int.reduceMul, Int.reduceToNat, Int.reduceBEq, Int.reduceBNe, q_cast, Int.natCast_zero]
      · rintro X q hq IH
        rcases Nat.lt_or_ge q j with h1 | h1
        · obtain ⟨d1, d2, d3, d4⟩ := idx h1 (by omega)
          have c1 := (hoi (by omega)).symm
          subst c1
          have c3 : (h.set b ⟨BK.rw, wc (m.fill i v q).w, m.w.length⟩)[b]? = some ⟨BK.rw, wc (m.fill i v q).w, m.w.length⟩ := set_hit H.hb
          have c4 : i + q + 1 ≤ (wc (m.fill i v q).w).length := by rw [wc_len, M.fill_len]; omega
          have c5 : ((wc (m.fill i v q).w).set (i + q) (S.i .u64 v)) = wc (m.fill i v (q + 1)).w := by rw [wc_set]; simp only [M.fill, M.put, uw_of hv]
          refine run_sound (Tab.ok_Γ _) 100 _ _ _ _ ?_
          simp (config := { maxSteps := 10000000 }) only [EV1, EV2, EV3, EV4, EV5, EV6, addT, istep, lenR_sl, lenR_ns, lenR_es, pickR, putD, bin1R, un1R, slcR, bnd, capsOf, fillP, S_plain, V_plain, V.cells, S_known, V_known, C.v, blk, setL, setH, eqS, eq1, cmpS, cmp1, isNil, popTo, killT, setT, leT, V.below, C.below, S_below, R.below, V.val, C.val, S_val, R.val, R.takes, vals, shows, List.any_cons, List.any_nil, unnamed, V.kill, V.names, C.names, S_names, R.names, List.set, List.replicate, ↓q_cond_t, ↓q_cond_f, if_true, if_false, reduceCtorEq, rvals, rvC, result, C_known, V.noL, C.noL, S_noL, R.noL, Option.map, true_and, and_true, ge_iff_le, gt_iff_lt, implies_true, q_ite_t, q_ite_f, beq_iff_eq, bne_iff_ne, q_ne, Nat.reduceAdd, Nat.reducePow, Int.reducePow, Nat.reduceMul, Nat.reduceSub, Nat.reduceLeDiff, Nat.reduceLT, Nat.reduceEqDiff, Int.reduceNeg, Int.reduceLT, Int.reduceLE, Int.reduceEq, Int.reduceNe, Int.reduceAdd, Int.reduceSub, Int.reduceMul, Int.reduceToNat, Int.reduceBEq, Int.reduceBNe, d1, d2, d3, d4, c3, MW, c4, Int.toNat_natCast, put, c5, List.set_set]
          exact IH (q + 1) _ (by omega) (by omega) (Wk.same rfl rfl (by simp (config := { maxSteps := 10000000 }) only [EV1, EV2, EV3, EV4, EV5, EV6, addT, istep, lenR_sl, lenR_ns, lenR_es, pickR, putD, bin1R, un1R, slcR, bnd, capsOf, fillP, S_plain, V_plain, V.cells, S_known, V_known, C.v, blk, setL, setH, eqS, eq1, cmpS, cmp1, isNil, popTo, killT, setT, leT, V.below, C.below, S_below, R.below, V.val, C.val, S_val, R.val, R.takes, vals, shows, List.any_cons, List.any_nil, unnamed, V.kill, V.names, C.names, S_names, R.names, List.set, List.replicate, ↓q_cond_t, ↓q_cond_f, if_true, if_false, reduceCtorEq, rvals, rvC, result, C_known, V.noL, C.noL, S_noL, R.noL, Option.map, true_and, and_true, ge_iff_le, gt_iff_lt, implies_true, q_ite_t, q_ite_f, beq_iff_eq, bne_iff_ne, q_ne, Nat.reduceAdd, Nat.reducePow, Int.reducePow, Nat.reduceMul, Nat.reduceSub, Nat.reduceLeDiff, Nat.reduceLT, Nat.reduceEqDiff, Int.reduceNeg, Int.reduceLT, Int.reduceLE, Int.reduceEq, Int.reduceNe, Int.reduceAdd, Int.reduceSub, Int.reduceMul, Int.reduceToNat, Int.reduceBEq, Int.reduceBNe]))
        · have : q = j := by omega
          subst this
          have ha := H.ha'
          refine run_sound (Tab.ok_Γ _) 100 _ _ _ _ ?_
          simp (config := { maxSteps := 10000000 }) only [EV1, EV2, EV3, EV4, EV5, EV6, addT, istep, lenR_sl, lenR_ns, lenR_es, pickR, putD, bin1R, un1R, slcR, bnd, capsOf, fillP, S_plain, V_plain, V.cells, S_known, V_known, C.v, blk, setL, setH, eqS, eq1, cmpS, cmp1, isNil, popTo, killT, setT, leT, V.below, C.below, S_below, R.below, V.val, C.val, S_val, R.val, R.takes, vals, shows, List.any_cons, List.any_nil, unnamed, V.kill, V.names, C.names, S_names, R.names, List.set, List.replicate, ↓q_cond_t, ↓q_cond_f, if_true, if_false, reduceCtorEq, rvals, rvC, result, C_known, V.noL, C.noL, S_noL, R.noL, Option.map, true_and, and_true, ge_iff_le, gt_iff_lt, implies_true, q_ite_t, q_ite_f, beq_iff_eq, bne_iff_ne, q_ne, Nat.reduceAdd, Nat.reducePow, Int.reducePow, Nat.reduceMul, Nat.reduceSub, Nat.reduceLeDiff, Nat.reduceLT, Nat.reduceEqDiff, Int.reduceNeg, Int.reduceLT, Int.reduceLE, Int.reduceEq, Int.reduceNe, Int.reduceAdd, Int.reduceSub, Int.reduceMul, Int.reduceToNat, Int.reduceBEq, Int.reduceBNe, Int.lt_irrefl, ha, MB]
          refine cast (congrArg (K _) ?_) hS
          simp only [setM]
          rw [List.set_comm _ _ H.ne]
          simp only [MW, MB, M.tick, M.fill_len, M.fill_n]
    | false =>
      have hS := hS.2 hh
      simp (config := { maxSteps := 10000000 }) only [EV1, EV2, EV3, EV4, EV5, EV6, addT, istep, lenR_sl, lenR_ns, lenR_es, pickR, putD, bin1R, un1R, slcR, bnd, capsOf, fillP, S_plain, V_plain, V.cells, S_known, V_known, C.v, blk, setL, setH, eqS, eq1, cmpS, cmp1, isNil, popTo, killT, setT, leT, V.below, C.below, S_below, R.below, V.val, C.val, S_val, R.val, R.takes, vals, shows, List.any_cons, List.any_nil, unnamed, V.kill, V.names, C.names, S_names, R.names, List.set, List.replicate, ↓q_cond_t, ↓q_cond_f, if_true, if_false, reduceCtorEq, rvals, rvC, result, C_known, V.noL, C.noL, S_noL, R.noL, Option.map, true_and, and_true, ge_iff_le, gt_iff_lt, implies_true, q_ite_t, q_ite_f, beq_iff_eq, bne_iff_ne, q_ne, Nat.reduceAdd, Nat.reducePow, Int.reducePow, Nat.reduceMul, Nat.reduceSub, Nat.reduceLeDiff, Nat.reduceLT, Nat.reduceEqDiff, Int.reduceNeg, Int.reduceLT, Int.reduceLE, Int.reduceEq, Int.reduceNe, Int.reduceAdd, Int.reduceSub, Int.reduceMul, Int.reduceToNat, Int.reduceBEq, Int.reduceBNe, df29, TSp, spanG, memF_eq H, spanM, setM_self H, hh]
      exact hS
  · exact hS.elim

def writeM (b : Nat) (m : M) (st : M → List Blk) : List V → Res
  | [.s (.i .i64 x), .s (.i .u64 v)] => .ob (u64 v) (.br (m.has x 1) (.ok (.s (.i .i64 0)) [] (st ((m.put x.toNat v).tick 1))) (.ok (.s (.i .i64 20)) [] (st m)))
  | _ => .bad
noncomputable def writeG := memF writeM
noncomputable def TFi : Tab := addT 29 fillG noT
theorem TFi_snd : TFi.Snd Try.prog := addT_snd ok29 mfill_snd (noT_snd _)
theorem mwrite_snd : Snd Try.prog 24 (FSpec.of writeG) := snd_run TFi_snd mixed Try.func24 dc24 100 fun args h K hc hS => by
  obtain ⟨a, b, m, rest, rfl, H, hS1⟩ := memF_spec hS
  clear hS
  have hS := hS1
  clear hS1
  unfold writeM at hS
  split at hS
  · rename_i x v
    simp only [spec_ob, spec_ok, spec_br, setM_self H] at hS
    obtain ⟨hv, hS⟩ := hS
    cases hh : m.has x 1 with
    | true =>
      have hS := hS.1 hh
      simp (config := { maxSteps := 10000000 }) only [EV1, EV2, EV3, EV4, EV5, EV6, addT, istep, lenR_sl, lenR_ns, lenR_es, pickR, putD, bin1R, un1R, slcR, bnd, capsOf, fillP, S_plain, V_plain, V.cells, S_known, V_known, C.v, blk, setL, setH, eqS, eq1, cmpS, cmp1, isNil, popTo, killT, setT, leT, V.below, C.below, S_below, R.below, V.val, C.val, S_val, R.val, R.takes, vals, shows, List.any_cons, List.any_nil, unnamed, V.kill, V.names, C.names, S_names, R.names, List.set, List.replicate, ↓q_cond_t, ↓q_cond_f, if_true, if_false, reduceCtorEq, rvals, rvC, result, C_known, V.noL, C.noL, S_noL, R.noL, Option.map, true_and, and_true, ge_iff_le, gt_iff_lt, implies_true, q_ite_t, q_ite_f, beq_iff_eq, bne_iff_ne, q_ne, Nat.reduceAdd, Nat.reducePow, Int.reducePow, Nat.reduceMul, Nat.reduceSub, Nat.reduceLeDiff, Nat.reduceLT, Nat.reduceEqDiff, Int.reduceNeg, Int.reduceLT, Int.reduceLE, Int.reduceEq, Int.reduceNe, Int.reduceAdd, Int.reduceSub, Int.reduceMul, Int.reduceToNat, Int.reduceBEq, Int.reduceBNe, df24, TFi, fillG, memF_eq H, fillM, setM_self H, hh, hv, M.fill]
      exact hS
    | false =>
      have hS := hS.2 hh
      simp (config := { maxSteps := 10000000 }) only [EV1, EV2, EV3, EV4, EV5, EV6, addT, istep, lenR_sl, lenR_ns, lenR_es, pickR, putD, bin1R, un1R, slcR, bnd, capsOf, fillP, S_plain, V_plain, V.cells, S_known, V_known, C.v, blk, setL, setH, eqS, eq1, cmpS, cmp1, isNil, popTo, killT, setT, leT, V.below, C.below, S_below, R.below, V.val, C.val, S_val, R.val, R.takes, vals, shows, List.any_cons, List.any_nil, unnamed, V.kill, V.names, C.names, S_names, R.names, List.set, List.replicate, ↓q_cond_t, ↓q_cond_f, if_true, if_false, reduceCtorEq, rvals, rvC, result, C_known, V.noL, C.noL, S_noL, R.noL, Option.map, true_and, and_true, ge_iff_le, gt_iff_lt, implies_true, q_ite_t, q_ite_f, beq_iff_eq, bne_iff_ne, q_ne, Nat.reduceAdd, Nat.reducePow, Int.reducePow, Nat.reduceMul, Nat.reduceSub, Nat.reduceLeDiff, Nat.reduceLT, Nat.reduceEqDiff, Int.reduceNeg, Int.reduceLT, Int.reduceLE, Int.reduceEq, Int.reduceNe, Int.reduceAdd, Int.reduceSub, Int.reduceMul, Int.reduceToNat, Int.reduceBEq, Int.reduceBNe, df24, TFi, fillG, memF_eq H, fillM, setM_self H, hh, hv, M.fill]
      exact hS
  · exact hS.elim
theorem rwrite_snd : Snd Try.prog 61 (FSpec.of writeG) := snd_run TSp_snd mixed Try.func61 dc61 100 fun args h K hc hS => by
  obtain ⟨a, b, m, rest, rfl, H, hS1⟩ := memF_spec hS
  clear hS
  have hS := hS1
  clear hS1
  unfold writeM at hS
  split at hS
  · rename_i x v
    simp only [spec_ob, spec_ok, spec_br, setM_self H] at hS
    obtain ⟨hv, hS⟩ := hS
    cases hh : m.has x 1 with
    | true =>
      have hS := hS.1 hh
      obtain ⟨i, j, rfl, e, hij⟩ := M.has_nat hh
      have c2 : (0 : Int) ≤ i ∧ (i : Int) < m.w.length := by omega
      have c4 : i + 1 ≤ (wc m.w).length := by rw [wc_len]; omega
      simp (config := { maxSteps := 10000000 }) only [EV1, EV2, EV3, EV4, EV5, EV6, addT, istep, lenR_sl, lenR_ns, lenR_es, pickR, putD, bin1R, un1R, slcR, bnd, capsOf, fillP, S_plain, V_plain, V.cells, S_known, V_known, C.v, blk, setL, setH, eqS, eq1, cmpS, cmp1, isNil, popTo, killT, setT, leT, V.below, C.below, S_below, R.below, V.val, C.val, S_val, R.val, R.takes, vals, shows, List.any_cons, List.any_nil, unnamed, V.kill, V.names, C.names, S_names, R.names, List.set, List.replicate, ↓q_cond_t, ↓q_cond_f, if_true, if_false, reduceCtorEq, rvals, rvC, result, C_known, V.noL, C.noL, S_noL, R.noL, Option.map, true_and, and_true, ge_iff_le, gt_iff_lt, implies_true, q_ite_t, q_ite_f, beq_iff_eq, bne_iff_ne, q_ne, Nat.reduceAdd, Nat.reducePow, Int.reducePow, Nat.reduceMul, Nat.reduceSub, Nat.reduceLeDiff, Nat.reduceLT, Nat.reduceEqDiff, Int.reduceNeg, Int.reduceLT, Int.reduceLE, Int.reduceEq, Int.reduceNe, Int.reduceAdd, Int.reduceSub, Int.reduceMul, Int.reduceToNat, Int.reduceBEq, Int.reduceBNe, df61, TSp, thereG, memF_eq H, thereM, setM_self H, hh, c2, H.ha, H.hb, H.ha', H.hb', MB, MW, put, wc_set, Int.toNat_natCast, c4, set_hit H.ha]
      refine cast (congrArg (K _) ?_) hS
      simp only [setM, MW, MB, M.tick, M.put, List.length_set, uw_of hv, Int.toNat_natCast]
    | false =>
      have hS := hS.2 hh
      simp (config := { maxSteps := 10000000 }) only [EV1, EV2, EV3, EV4, EV5, EV6, addT, istep, lenR_sl, lenR_ns, lenR_es, pickR, putD, bin1R, un1R, slcR, bnd, capsOf, fillP, S_plain, V_plain, V.cells, S_known, V_known, C.v, blk, setL, setH, eqS, eq1, cmpS, cmp1, isNil, popTo, killT, setT, leT, V.below, C.below, S_below, R.below, V.val, C.val, S_val, R.val, R.takes, vals, shows, List.any_cons, List.any_nil, unnamed, V.kill, V.names, C.names, S_names, R.names, List.set, List.replicate, ↓q_cond_t, ↓q_cond_f, if_true, if_false, reduceCtorEq, rvals, rvC, result, C_known, V.noL, C.noL, S_noL, R.noL, Option.map, true_and, and_true, ge_iff_le, gt_iff_lt, implies_true, q_ite_t, q_ite_f, beq_iff_eq, bne_iff_ne, q_ne, Nat.reduceAdd, Nat.reducePow, Int.reducePow, Nat.reduceMul, Nat.reduceSub, Nat.reduceLeDiff, Nat.reduceLT, Nat.reduceEqDiff, Int.reduceNeg, Int.reduceLT, Int.reduceLE, Int.reduceEq, Int.reduceNe, Int.reduceAdd, Int.reduceSub, Int.reduceMul, Int.reduceToNat, Int.reduceBEq, Int.reduceBNe, df61, TSp, thereG, memF_eq H, thereM, setM_self H, hh]
      exact hS
  · exact hS.elim
end Go.Proofs.Yteeeidldknlblaa

/- The machine's memory: what is read behind a write. -/
namespace Go.Proofs.Yteeeidldknlblaa
open Go.D
set_option linter.all false
set_option maxRecDepth 100000
set_option maxHeartbeats 4000000

theorem nth_set {α : Type} {d : α} : ∀ (l : List α) (i j : Nat) (x : α), nth d (l.set i x) j = if i = j ∧ i < l.length then x else nth d l j
  | [], i, j, x => by simp [nth]
  | y :: l, 0, 0, x => by simp [nth]
  | y :: l, 0, j + 1, x => by simp [nth]
  | y :: l, i + 1, 0, x => by simp [nth]
  | y :: l, i + 1, j + 1, x => by simp [nth, nth_set l i j x]
theorem nth_replicate {α : Type} {d : α} {n i : Nat} : nth d (List.replicate n d) i = d := by
  induction n generalizing i with
  | zero => rfl
  | succ n ih => cases i with
    | zero => rfl
    | succ i => exact ih
theorem M.at_put (m : M) (i : Nat) (x : Int) (j : Int) : (m.put i x).at j = if i = j.toNat ∧ i < m.w.length then uw x else m.at j := by
  simp only [M.at, M.put, nth_set]
theorem M.at_tick (m : M) (k j : Int) : (m.tick k).at j = m.at j := rfl
theorem M.at_zero (k : Nat) (j : Int) : (M.zero k).at j = 0 := by simp only [M.at, M.zero, nth_replicate]
theorem M.at_fill (m : M) (a : Nat) (x : Int) (j : Int) : ∀ k : Nat, (m.fill a x k).at j = if a ≤ j.toNat ∧ j.toNat < a + k ∧ j.toNat < m.w.length then uw x else m.at j
  | 0 => by rw [M.fill, if_neg (by omega)]
  | k + 1 => by
    rw [M.fill, M.at_put, M.fill_len, M.at_fill m a x j k]
    split
    · rw [if_pos (by omega)]
    · split
      · rw [if_pos (by omega)]
      · rw [if_neg (by omega)]
/-- Two memories of the same words and steps are the same. -/
theorem M.ext_at {m k : M} (hl : m.w.length = k.w.length) (hn : m.n = k.n) (h : ∀ i : Nat, i < m.w.length → m.at i = k.at i) : m = k := by
  refine M.ext' (List.ext_getElem hl fun i h1 h2 => ?_) hn
  have := h i h1
  simp only [M.at, Int.toNat_natCast, nth_eq h1, nth_eq h2] at this
  exact this
theorem M.has_of {m : M} {a k : Int} (h : 0 ≤ a ∧ 0 ≤ k ∧ a + k ≤ m.w.length) : m.has a k = true := by rw [M.has_iff]; omega
theorem M.has_no {m : M} {a k : Int} (h : ¬ (0 ≤ a ∧ 0 ≤ k ∧ a + k ≤ m.w.length)) : m.has a k = false := by
  rw [Bool.eq_false_iff]
  intro e
  rw [M.has_iff] at e
  omega
end Go.Proofs.Yteeeidldknlblaa

/- Slices of elements, as they lie in a block. -/
namespace Go.Proofs.Yteeeidldknlblaa
open Go.D
set_option linter.all false
set_option maxRecDepth 100000

/-- A slice of elements, as an argument. -/
def IsArr {α : Type} (c : α → List S) (h : List Blk) (s : S) (L : List α) : Prop :=
  ((s = .ns ∨ ∃ a c', s = .es a c') ∧ L = []) ∨ ∃ j c' st room, s = .sl (.g j) 0 L.length c' ∧ h[j]? = some ⟨st, arr c L, room⟩ ∧ (L.length ≠ 0 → st ≠ .dead)
theorem arr_inj {α : Type} {c : α → List S} {k : Nat} (hk : ∀ x, (c x).length = k) (hc : ∀ x y, c x = c y → x = y) : ∀ (L M : List α), L.length = M.length → arr c L = arr c M → L = M
  | [], [], _, _ => rfl
  | x :: L, y :: M, hl, e => by
    simp only [arr] at e
    obtain ⟨e1, e2⟩ := List.append_inj e (by rw [hk, hk])
    rw [hc x y e1, arr_inj hk hc L M (by simpa using hl) e2]
  | [], _ :: _, hl, _ => by simp at hl
  | _ :: _, [], hl, _ => by simp at hl
/-- Elements that can be told apart by their cells. -/
class Cells {α : Type} (c : α → List S) : Prop where
  len : ∃ k, ∀ x, (c x).length = k
  inj : ∀ x y, c x = c y → x = y
theorem IsArr.uniq {α : Type} {c : α → List S} [C : Cells c] {h : List Blk} {s : S} {L M : List α} (H : IsArr c h s L) (H' : IsArr c h s M) : L = M := by
  rcases H with ⟨e0, rfl⟩ | ⟨j, c1, st, room, rfl, e1, _⟩
  · rcases H' with ⟨_, rfl⟩ | ⟨_, _, _, _, e, _⟩
    · rfl
    · subst e; rcases e0 with e0 | ⟨_, _, e0⟩ <;> cases e0
  · rcases H' with ⟨e | ⟨_, _, e⟩, _⟩ | ⟨j', c1', st', room', e, e2, _⟩
    · cases e
    · cases e
    · simp only [S.sl.injEq, R.g.injEq, true_and] at e
      obtain ⟨rfl, hl, rfl⟩ := e
      rw [e1, Option.some.injEq, Blk.mk.injEq] at e2
      obtain ⟨k, hk⟩ := C.len
      exact arr_inj hk C.inj L M hl e2.2.1
open Classical in
noncomputable def arrOf {α : Type} (c : α → List S) (h : List Blk) (s : S) : Option (List α) := if hx : ∃ v, IsArr c h s v then some (Classical.choose hx) else none
theorem arrOf_eq {α : Type} {c : α → List S} [Cells c] {h : List Blk} {s : S} {v : List α} (H : IsArr c h s v) : arrOf c h s = some v := by
  have hx : ∃ v, IsArr c h s v := ⟨v, H⟩
  unfold arrOf
  rw [dif_pos hx, IsArr.uniq (Classical.choose_spec hx) H]
theorem arrOf_some {α : Type} {c : α → List S} {h : List Blk} {s : S} {v : List α} (e : arrOf c h s = some v) : IsArr c h s v := by
  unfold arrOf at e
  split at e
  · rename_i hx
    have := Classical.choose_spec hx
    rw [Option.some.injEq] at e
    rw [e] at this
    exact this
  · cases e
theorem IsArr.app {α : Type} {c : α → List S} {h X : List Blk} {s : S} {L : List α} (H : IsArr c h s L) : IsArr c (h ++ X) s L := by
  rcases H with ⟨e0, rfl⟩ | ⟨j, c', st, room, rfl, e1, e2⟩
  · exact .inl ⟨e0, rfl⟩
  · exact .inr ⟨j, c', st, room, rfl, by rw [List.getElem?_append_left (List.getElem?_eq_some_iff.1 e1).1]; exact e1, e2⟩
def In.c (n : Int) : List S := [.i .i64 n]
theorem In.c_len (n : Int) : (In.c n).length = 1 := rfl
instance : Cells In.c := ⟨⟨1, In.c_len⟩, fun x y e => by simpa [In.c] using e⟩

/-! ### a slice whose form is not looked at -/
/-- A slice of so many elements; of a block that was there. -/
def IsSl (q : Nat) (s : S) (n : Nat) : Prop := (s = .ns ∧ n = 0) ∨ (∃ a c, s = .es a c ∧ n = 0) ∨ ∃ j o c, s = .sl (.g j) o n c ∧ j < q
section
variable {q : Nat} {s : S} {n : Nat} (H : IsSl q s n)
include H
theorem IsSl.len {ls h : List Blk} : lenR (.s s) ls h = .ok (.s (.i .i64 n)) ls h := by
  rcases H with ⟨rfl, rfl⟩ | ⟨a, c, rfl, rfl⟩ | ⟨j, o, c, rfl, _⟩ <;> rfl
theorem IsSl.known : V.known (.s s) = true := by
  rcases H with ⟨rfl, rfl⟩ | ⟨a, c, rfl, rfl⟩ | ⟨j, o, c, rfl, _⟩ <;> rfl
theorem IsSl.plain : V.plain (.s s) = true := by
  rcases H with ⟨rfl, rfl⟩ | ⟨a, c, rfl, rfl⟩ | ⟨j, o, c, rfl, _⟩ <;> rfl
theorem IsSl.noL : s.noL = true := by
  rcases H with ⟨rfl, rfl⟩ | ⟨a, c, rfl, rfl⟩ | ⟨j, o, c, rfl, _⟩ <;> rfl
theorem IsSl.below (m : Nat) : s.below m = true := by
  rcases H with ⟨rfl, rfl⟩ | ⟨a, c, rfl, rfl⟩ | ⟨j, o, c, rfl, _⟩ <;> rfl
theorem IsSl.names (m : Nat) : s.names m = false := by
  rcases H with ⟨rfl, rfl⟩ | ⟨a, c, rfl, rfl⟩ | ⟨j, o, c, rfl, _⟩ <;> rfl
theorem IsSl.ren {ρ : R → R} (hρ : ∀ k, ρ (.g k) = .g k) : s.ren ρ = s := by
  rcases H with ⟨rfl, rfl⟩ | ⟨a, c, rfl, rfl⟩ | ⟨j, o, c, rfl, _⟩ <;> simp [S.ren, hρ]
theorem IsSl.lend (m : Nat) : s.ren (R.lend m) = s := H.ren fun _ => rfl
theorem IsSl.unlend {k : Nat} (hk : q ≤ k) : s.ren (R.unlend k) = s := by
  rcases H with ⟨rfl, rfl⟩ | ⟨a, c, rfl, rfl⟩ | ⟨j, o, c, rfl, hj⟩
  · rfl
  · rfl
  · simp only [S.ren, R.unlend]; rw [if_pos (by omega)]
theorem IsSl.pick (l : List Nat) : s.ren (R.pick l) = s := H.ren fun _ => rfl
theorem IsSl.val {k m : Nat} (hk : q ≤ k) : s.val k m = true := by
  rcases H with ⟨rfl, rfl⟩ | ⟨a, c, rfl, rfl⟩ | ⟨j, o, c, rfl, hj⟩
  · rfl
  · rfl
  · simp only [S.val, R.val, decide_eq_true_eq]; omega
end
theorem IsArr.sl {α : Type} {c : α → List S} {h : List Blk} {s : S} {L : List α} (H : IsArr c h s L) : IsSl h.length s L.length := by
  rcases H with ⟨e0 | ⟨a, c', e0⟩, rfl⟩ | ⟨j, c', st, room, rfl, e, _⟩
  · exact .inl ⟨e0, rfl⟩
  · exact .inr (.inl ⟨a, c', e0, rfl⟩)
  · exact .inr (.inr ⟨j, 0, c', rfl, (List.getElem?_eq_some_iff.1 e).1⟩)
/-- Where there is an element the slice is a block's. -/
theorem IsArr.at {α : Type} {c : α → List S} {h : List Blk} {s : S} {L : List α} (H : IsArr c h s L) {i : Nat} (hi : i < L.length) : ∃ j c' st room, s = .sl (.g j) 0 L.length c' ∧ h[j]? = some ⟨st, arr c L, room⟩ ∧ st ≠ .dead := by
  rcases H with ⟨_, rfl⟩ | ⟨j, c', st, room, e, e1, e2⟩
  · simp at hi
  · exact ⟨j, c', st, room, e, e1, e2 (by omega)⟩
end Go.Proofs.Yteeeidldknlblaa

/- Lists of words: Dump, Load, Same. -/
namespace Go.Proofs.Yteeeidldknlblaa
open Go.D
set_option linter.all false
set_option maxRecDepth 100000
set_option maxHeartbeats 4000000

/-- A list of words, as a slice. -/
def IsList (h : List Blk) (s : S) (vs : List Int) : Prop :=
  ((s = .ns ∨ ∃ a c, s = .es a c) ∧ vs = []) ∨ (∃ j o c B, s = .sl (.g j) o 0 c ∧ h[j]? = some B ∧ vs = []) ∨ ∃ j o c B, s = .sl (.g j) o vs.length c ∧ h[j]? = some B ∧ B.st ≠ .dead ∧ o + vs.length ≤ B.cells.length ∧ sub B.cells o vs.length = wc vs
theorem IsList.uniq {h : List Blk} {s : S} {v w : List Int} (H : IsList h s v) (H' : IsList h s w) : v = w := by
  rcases H with ⟨e0, rfl⟩ | ⟨j, o, c, B, rfl, e1, rfl⟩ | ⟨j, o, c, B, rfl, e1, _, _, e2⟩
  · rcases H' with ⟨_, rfl⟩ | ⟨_, _, _, _, e, _⟩ | ⟨j, o, c, B, e, _⟩
    · rfl
    · subst e; rcases e0 with e0 | ⟨_, _, e0⟩ <;> cases e0
    · subst e; rcases e0 with e0 | ⟨_, _, e0⟩ <;> cases e0
  · rcases H' with ⟨e | ⟨_, _, e⟩, _⟩ | ⟨_, _, _, _, _, _, rfl⟩ | ⟨j', o', c', B', e, _⟩
    · cases e
    · cases e
    · rfl
    · simp only [S.sl.injEq] at e
      exact (List.eq_nil_of_length_eq_zero e.2.2.1.symm).symm
  · rcases H' with ⟨e | ⟨_, _, e⟩, _⟩ | ⟨_, _, _, _, e, _, rfl⟩ | ⟨j', o', c', B', e, e3, _, _, e4⟩
    · cases e
    · cases e
    · simp only [S.sl.injEq] at e
      exact List.eq_nil_of_length_eq_zero e.2.2.1
    · simp only [S.sl.injEq, R.g.injEq] at e
      obtain ⟨rfl, rfl, e5, rfl⟩ := e
      rw [e1, Option.some.injEq] at e3
      subst e3
      rw [← e5, e2] at e4
      exact wc_inj e4
theorem IsList.sl {h : List Blk} {s : S} {vs : List Int} (H : IsList h s vs) : IsSl h.length s vs.length := by
  rcases H with ⟨e0 | ⟨a, c', e0⟩, rfl⟩ | ⟨j, o, c, B, rfl, e1, rfl⟩ | ⟨j, o, c, B, rfl, e1, _, _, e2⟩
  · exact .inl ⟨e0, rfl⟩
  · exact .inr (.inl ⟨a, c', e0, rfl⟩)
  · exact .inr (.inr ⟨j, o, c, rfl, (List.getElem?_eq_some_iff.1 e1).1⟩)
  · exact .inr (.inr ⟨j, o, c, rfl, (List.getElem?_eq_some_iff.1 e1).1⟩)
theorem IsList.shows {h : List Blk} {s : S} {vs : List Int} (H : IsList h s vs) (ls : List Blk) : shows ls h 1 s = some (vs.length, wc vs) := by
  rcases H with ⟨rfl | ⟨a, c', rfl⟩, rfl⟩ | ⟨j, o, c, B, rfl, e1, rfl⟩ | ⟨j, o, c, B, rfl, e1, hd, hl, e2⟩
  · rfl
  · rfl
  · simp only [D.shows, blk, e1]
    split
    · simp [wc]
    · simp [sub, wc]
  · simp only [D.shows, blk, e1, Nat.mul_one]
    rw [if_neg (by rintro (x | x); exact hd x; omega), e2]
/-- Where there is a word the slice is a block's. -/
theorem IsList.at {h : List Blk} {s : S} {vs : List Int} (H : IsList h s vs) {i : Nat} (hi : i < vs.length) : ∃ j o c B, s = .sl (.g j) o vs.length c ∧ h[j]? = some B ∧ B.st ≠ .dead ∧ o + vs.length ≤ B.cells.length ∧ sub B.cells o vs.length = wc vs := by
  rcases H with ⟨_, rfl⟩ | ⟨_, _, _, _, _, _, rfl⟩ | h
  · simp at hi
  · simp at hi
  · exact h
open Classical in
noncomputable def listOf (h : List Blk) (s : S) : Option (List Int) := if hx : ∃ v, IsList h s v then some (Classical.choose hx) else none
theorem listOf_eq {h : List Blk} {s : S} {v : List Int} (H : IsList h s v) : listOf h s = some v := by
  have hx : ∃ v, IsList h s v := ⟨v, H⟩
  unfold listOf
  rw [dif_pos hx, IsList.uniq (Classical.choose_spec hx) H]
theorem listOf_some {h : List Blk} {s : S} {v : List Int} (e : listOf h s = some v) : IsList h s v := by
  unfold listOf at e
  split at e
  · rename_i hx
    have := Classical.choose_spec hx
    rw [Option.some.injEq] at e
    rw [e] at this
    exact this
  · cases e
theorem IsList.get {o n : Nat} {cells : List S} {vs : List Int} (e : sub cells o n = wc vs) {i : Nat} (h : i < vs.length) (hn : vs.length = n) : cells[o + i]? = some (.i .u64 (nth 0 vs i)) := by
  have h1 := congrArg (fun l => l[i]?) e
  simp only [sub, wc_get h] at h1
  rw [List.getElem?_take, if_pos (by omega), List.getElem?_drop] at h1
  exact h1
/-- A whole block. -/
theorem IsList.whole {h : List Blk} {j c room : Nat} {st : BK} {vs : List Int} (hj : h[j]? = some ⟨st, wc vs, room⟩) (hs : st ≠ .dead) : IsList h (.sl (.g j) 0 vs.length c) vs := by
  refine .inr (.inr ⟨j, 0, c, _, rfl, hj, hs, ?_, ?_⟩)
  · simp [wc_len]
  · rw [wc_sub, List.drop_zero, List.take_length]
theorem IsList.app {h X : List Blk} {s : S} {v : List Int} (H : IsList h s v) : IsList (h ++ X) s v := by
  rcases H with ⟨e0, rfl⟩ | ⟨j, o, c, B, rfl, e1, e2⟩ | ⟨j, o, c, B, rfl, e1, e2⟩
  · exact .inl ⟨e0, rfl⟩
  · exact .inr (.inl ⟨j, o, c, B, rfl, by rw [List.getElem?_append_left (List.getElem?_eq_some_iff.1 e1).1]; exact e1, e2⟩)
  · exact .inr (.inr ⟨j, o, c, B, rfl, by rw [List.getElem?_append_left (List.getElem?_eq_some_iff.1 e1).1]; exact e1, e2⟩)

theorem wc_val (n k : Nat) (w : List Int) : (wc w).all (S.val n k) = true := wc_all (fun _ => rfl) w
noncomputable def cloneG : List V → List Blk → Res
  | [.s .ns], h => .ok (.s .ns) [] h
  | [.s (.sl r o n c)], h => match listOf h (.sl r o n c) with
    | some vs => .ob (vs.length ≤ 8796093022208) (.all vs.length fun c => .ok (.s (.sl (.g h.length) 0 vs.length c)) [] (h ++ [⟨.rw, wc vs, c⟩]))
    | none => .bad
  | _, _ => .bad
theorem clone_snd : Snd Try.prog 60 (FSpec.of cloneG) := snd_run (noT_snd _) mixed Try.func60 dc60 100 fun args h K hc hS => by
  unfold cloneG at hS
  split at hS
  · simp only [spec_ok] at hS
    simp (config := { maxSteps := 10000000 }) only [EV1, EV2, EV3, EV4, EV5, EV6, addT, istep, lenR_sl, lenR_ns, lenR_es, pickR, putD, bin1R, un1R, slcR, bnd, capsOf, fillP, S_plain, V_plain, V.cells, S_known, V_known, C.v, blk, setL, setH, eqS, eq1, cmpS, cmp1, isNil, popTo, killT, setT, leT, V.below, C.below, S_below, R.below, V.val, C.val, S_val, R.val, R.takes, vals, shows, List.any_cons, List.any_nil, unnamed, V.kill, V.names, C.names, S_names, R.names, List.set, List.replicate, ↓q_cond_t, ↓q_cond_f, if_true, if_false, reduceCtorEq, rvals, rvC, result, C_known, V.noL, C.noL, S_noL, R.noL, Option.map, true_and, and_true, ge_iff_le, gt_iff_lt, implies_true, q_ite_t, q_ite_f, beq_iff_eq, bne_iff_ne, q_ne, Nat.reduceAdd, Nat.reducePow, Int.reducePow, Nat.reduceMul, Nat.reduceSub, Nat.reduceLeDiff, Nat.reduceLT, Nat.reduceEqDiff, Int.reduceNeg, Int.reduceLT, Int.reduceLE, Int.reduceEq, Int.reduceNe, Int.reduceAdd, Int.reduceSub, Int.reduceMul, Int.reduceToNat, Int.reduceBEq, Int.reduceBNe, df60]
    exact hS
  · rename_i r o n c
    split at hS
    · rename_i vs hv
      obtain ⟨hl, hS⟩ := hS
      rcases listOf_some hv with ⟨e | ⟨_, _, e⟩, _⟩ | ⟨j, o', c', B, e, hj, rfl⟩ | ⟨j, o', c', B, e, hj, hd, hle, hs⟩
      · cases e
      · cases e
      · simp only [S.sl.injEq] at e
        obtain ⟨rfl, rfl, rfl, rfl⟩ := e
        simp only [spec_all, spec_ok] at hS
        simp (config := { maxSteps := 10000000 }) only [EV1, EV2, EV3, EV4, EV5, EV6, addT, istep, lenR_sl, lenR_ns, lenR_es, pickR, putD, bin1R, un1R, slcR, bnd, capsOf, fillP, S_plain, V_plain, V.cells, S_known, V_known, C.v, blk, setL, setH, eqS, eq1, cmpS, cmp1, isNil, popTo, killT, setT, leT, V.below, C.below, S_below, R.below, V.val, C.val, S_val, R.val, R.takes, vals, shows, List.any_cons, List.any_nil, unnamed, V.kill, V.names, C.names, S_names, R.names, List.set, List.replicate, ↓q_cond_t, ↓q_cond_f, if_true, if_false, reduceCtorEq, rvals, rvC, result, C_known, V.noL, C.noL, S_noL, R.noL, Option.map, true_and, and_true, ge_iff_le, gt_iff_lt, implies_true, q_ite_t, q_ite_f, beq_iff_eq, bne_iff_ne, q_ne, Nat.reduceAdd, Nat.reducePow, Int.reducePow, Nat.reduceMul, Nat.reduceSub, Nat.reduceLeDiff, Nat.reduceLT, Nat.reduceEqDiff, Int.reduceNeg, Int.reduceLT, Int.reduceLE, Int.reduceEq, Int.reduceNe, Int.reduceAdd, Int.reduceSub, Int.reduceMul, Int.reduceToNat, Int.reduceBEq, Int.reduceBNe, df60, fillP, hj, sub, List.take_zero, ite_self]
        intro c hc1
        refine ⟨[0], by simp, rfl, ?_⟩
        simp only [getAll, List.getElem?_cons_zero]
        refine ⟨rfl, ?_⟩
        have := hS c hc1
        refine cast (congrArg (K _) ?_) this
        simp [Blk.ren, wc]
      · simp only [S.sl.injEq] at e
        obtain ⟨rfl, rfl, rfl, rfl⟩ := e
        have c1 : ¬ (B.st = .dead ∨ B.cells.length < o + vs.length) := by rintro (x | x); exact hd x; omega
        have c2 : vs.length * 8 ≤ 140737488355328 := by omega
        have c3 : vals h.length 1 (wc vs) = true := wc_vals _ _ _
        have c4 : (wc vs).all (fun s => !S.names 0 s) = true := wc_names 0 vs
        have c5 : ¬ B.cells.length < o + vs.length := by omega
        simp only [spec_all, spec_ok] at hS
        simp (config := { maxSteps := 10000000 }) only [EV1, EV2, EV3, EV4, EV5, EV6, addT, istep, lenR_sl, lenR_ns, lenR_es, pickR, putD, bin1R, un1R, slcR, bnd, capsOf, fillP, S_plain, V_plain, V.cells, S_known, V_known, C.v, blk, setL, setH, eqS, eq1, cmpS, cmp1, isNil, popTo, killT, setT, leT, V.below, C.below, S_below, R.below, V.val, C.val, S_val, R.val, R.takes, vals, shows, List.any_cons, List.any_nil, unnamed, V.kill, V.names, C.names, S_names, R.names, List.set, List.replicate, ↓q_cond_t, ↓q_cond_f, if_true, if_false, reduceCtorEq, rvals, rvC, result, C_known, V.noL, C.noL, S_noL, R.noL, Option.map, true_and, and_true, ge_iff_le, gt_iff_lt, implies_true, q_ite_t, q_ite_f, beq_iff_eq, bne_iff_ne, q_ne, Nat.reduceAdd, Nat.reducePow, Int.reducePow, Nat.reduceMul, Nat.reduceSub, Nat.reduceLeDiff, Nat.reduceLT, Nat.reduceEqDiff, Int.reduceNeg, Int.reduceLT, Int.reduceLE, Int.reduceEq, Int.reduceNe, Int.reduceAdd, Int.reduceSub, Int.reduceMul, Int.reduceToNat, Int.reduceBEq, Int.reduceBNe, df60, fillP, hj, hd, c1, c5, hs, wc_known, c2, wc_val, wc_all]
        intro c hc1
        refine ⟨[0], by simp, rfl, ?_⟩
        simp only [getAll, List.getElem?_cons_zero]
        refine ⟨?_, ?_⟩
        · simp [wc_kept]
        · have := hS c hc1
          refine cast (congrArg (K _) ?_) this
          simp [Blk.ren, wc_ren]
    · exact hS.elim
  · exact hS.elim

noncomputable def dumpM (b : Nat) (m : M) (st : M → List Blk) : List V → Res
  | [.s (.i .i64 x), .s (.i .i64 k)] => .br (m.has x k) (.all k.toNat fun c => .ok (.tup [.s (.sl (.g (st m).length) 0 k.toNat c), .s (.i .i64 0)]) [] (st m ++ [⟨.rw, wc ((m.w.drop x.toNat).take k.toNat), c⟩]))
      (.ok (.tup [.s .ns, .s (.i .i64 20)]) [] (st m))
  | _ => .bad
noncomputable def dumpG := memF dumpM
noncomputable def TDu : Tab := addT 59 spanG (addT 60 cloneG noT)
theorem TDu_snd : TDu.Snd Try.prog := addT_snd ok59 span_snd (addT_snd ok60 clone_snd (noT_snd _))
theorem mdump_snd : Snd Try.prog 26 (FSpec.of dumpG) := snd_run TDu_snd mixed Try.func26 dc26 100 fun args h K hc hS => by
  obtain ⟨a, b, m, rest, rfl, H, hS1⟩ := memF_spec hS
  clear hS
  have hS := hS1
  clear hS1
  unfold dumpM at hS
  split at hS
  · rename_i x k
    simp only [spec_ok, spec_br, spec_all, setM_self H] at hS
    have hl := m.l
    cases hh : m.has x k with
    | true =>
      have hS := hS.1 hh
      obtain ⟨i, j, rfl, rfl, hij⟩ := M.has_nat hh
      simp only [Int.toNat_natCast] at hS
      have hvl : ((m.w.drop i).take j).length = j := by simp; omega
      have hL : IsList h (.sl (.g b) (if m.w.length = i then 0 else i) j (m.w.length - i)) ((m.w.drop i).take j) := by
        refine .inr (.inr ⟨b, _, _, MW m, by rw [hvl], H.hb, fun x => BK.noConfusion x, ?_, ?_⟩)
        · rw [hvl]; simp only [MW, wc_len]; split <;> omega
        · rw [hvl]; simp only [MW]; rw [wc_sub]
          split
          · have : j = 0 := by omega
            subst this; simp
          · rfl
      have hB : j ≤ 8796093022208 := by omega
      simp (config := { maxSteps := 10000000 }) only [EV1, EV2, EV3, EV4, EV5, EV6, addT, istep, lenR_sl, lenR_ns, lenR_es, pickR, putD, bin1R, un1R, slcR, bnd, capsOf, fillP, S_plain, V_plain, V.cells, S_known, V_known, C.v, blk, setL, setH, eqS, eq1, cmpS, cmp1, isNil, popTo, killT, setT, leT, V.below, C.below, S_below, R.below, V.val, C.val, S_val, R.val, R.takes, vals, shows, List.any_cons, List.any_nil, unnamed, V.kill, V.names, C.names, S_names, R.names, List.set, List.replicate, ↓q_cond_t, ↓q_cond_f, if_true, if_false, reduceCtorEq, rvals, rvC, result, C_known, V.noL, C.noL, S_noL, R.noL, Option.map, true_and, and_true, ge_iff_le, gt_iff_lt, implies_true, q_ite_t, q_ite_f, beq_iff_eq, bne_iff_ne, q_ne, Nat.reduceAdd, Nat.reducePow, Int.reducePow, Nat.reduceMul, Nat.reduceSub, Nat.reduceLeDiff, Nat.reduceLT, Nat.reduceEqDiff, Int.reduceNeg, Int.reduceLT, Int.reduceLE, Int.reduceEq, Int.reduceNe, Int.reduceAdd, Int.reduceSub, Int.reduceMul, Int.reduceToNat, Int.reduceBEq, Int.reduceBNe, df26, TDu, spanG, memF_eq H, spanM, setM_self H, hh, cloneG, listOf_eq hL, hvl, hB, Int.toNat_natCast]
      exact hS
    | false =>
      have hS := hS.2 hh
      simp (config := { maxSteps := 10000000 }) only [EV1, EV2, EV3, EV4, EV5, EV6, addT, istep, lenR_sl, lenR_ns, lenR_es, pickR, putD, bin1R, un1R, slcR, bnd, capsOf, fillP, S_plain, V_plain, V.cells, S_known, V_known, C.v, blk, setL, setH, eqS, eq1, cmpS, cmp1, isNil, popTo, killT, setT, leT, V.below, C.below, S_below, R.below, V.val, C.val, S_val, R.val, R.takes, vals, shows, List.any_cons, List.any_nil, unnamed, V.kill, V.names, C.names, S_names, R.names, List.set, List.replicate, ↓q_cond_t, ↓q_cond_f, if_true, if_false, reduceCtorEq, rvals, rvC, result, C_known, V.noL, C.noL, S_noL, R.noL, Option.map, true_and, and_true, ge_iff_le, gt_iff_lt, implies_true, q_ite_t, q_ite_f, beq_iff_eq, bne_iff_ne, q_ne, Nat.reduceAdd, Nat.reducePow, Int.reducePow, Nat.reduceMul, Nat.reduceSub, Nat.reduceLeDiff, Nat.reduceLT, Nat.reduceEqDiff, Int.reduceNeg, Int.reduceLT, Int.reduceLE, Int.reduceEq, Int.reduceNe, Int.reduceAdd, Int.reduceSub, Int.reduceMul, Int.reduceToNat, Int.reduceBEq, Int.reduceBNe, df26, TDu, spanG, memF_eq H, spanM, setM_self H, hh]
      exact hS
  · exact hS.elim

/-- The slice is none of the memory's words. -/
def apartS (b : Nat) : S → Prop
  | .sl (.g j) _ _ _ => j ≠ b
  | _ => True
noncomputable def loadG : List V → List Blk → Res
  | [.s (.p (.g a) 0), .s (.i .i64 x), .s s], h => match memOf h a, listOf h s with
    | some (b, m), some vs => .ob (apartS b s ∧ ∀ v, v ∈ vs → u64 v) (.br (m.has x vs.length) (.ok (.s (.i .i64 0)) [] (setM h a b (m.lay x.toNat vs))) (.ok (.s (.i .i64 20)) [] h))
    | _, _ => .bad
  | _, _ => .bad
theorem loadG_spec {args : List V} {h : List Blk} {K : V → List Blk → Prop} (hS : (loadG args h).spec K) : ∃ a x s b m vs, args = [.s (.p (.g a) 0), .s (.i .i64 x), .s s] ∧ IsMem h a b m ∧ IsList h s vs ∧ apartS b s ∧ (∀ v, v ∈ vs → u64 v) ∧
    (m.has x vs.length = true → K (.s (.i .i64 0)) (setM h a b (m.lay x.toNat vs))) ∧ (m.has x vs.length = false → K (.s (.i .i64 20)) h) := by
  unfold loadG at hS
  split at hS
  · split at hS
    · rename_i e1 e2
      exact ⟨_, _, _, _, _, _, rfl, memOf_some e1, listOf_some e2, hS.1.1, hS.1.2, hS.2.1, hS.2.2⟩
    · exact hS.elim
  · exact hS.elim
theorem put_none {xs : List S} {o : Nat} : put xs o [] = xs := rfl
theorem mload_snd : Snd Try.prog 27 (FSpec.of loadG) := snd_run TSp_snd mixed Try.func27 dc27 100 fun args h K hc hS => by
  obtain ⟨a, x, s, b, m, vs, rfl, H, HL, hap, hu, q1, q2⟩ := loadG_spec hS
  clear hS
  have hl := m.l
  have hlen := fun ls h' => HL.sl.len (ls := ls) (h := h')
  have hsh := fun ls => HL.shows ls
  cases hh : m.has x vs.length with
  | true =>
    have hS := q1 hh
    obtain ⟨i, n, rfl, e, hij⟩ := M.has_nat hh
    have e : vs.length = n := by omega
    simp only [Int.toNat_natCast] at hS
    have hcl : (wc m.w).length = m.w.length := wc_len _
    obtain ⟨o', ho, hoi⟩ : ∃ o' : Nat, (if m.w.length = i then 0 else i) = o' ∧ (i < m.w.length → o' = i) := ⟨_, rfl, fun hlt => if_neg (by omega)⟩
    have c2 : o' + vs.length ≤ m.w.length := by rw [← ho]; split <;> omega
    have hsub : sub (wc vs) 0 vs.length = wc vs := by rw [wc_sub, List.drop_zero, List.take_length]
    have hmin : min vs.length vs.length = vs.length := Nat.min_self _
    have hlay : D.put (wc m.w) o' (wc vs) = wc (m.lay i vs).w := by
      rcases Nat.eq_zero_or_pos vs.length with h0 | h0
      · have : vs = [] := List.eq_nil_of_length_eq_zero h0
        subst this; rfl
      · rw [hoi (by omega)]; exact M.lay_w vs m i hu
    have hset := setM_words H (M.lay_len vs m i) (M.lay_n vs m i)
    rw [← hset] at hS
    simp only [MW, M.lay_len] at hS
    have ht : (wc vs).all (R.takes (R.g b) h.length 0) = true := wc_takes _ _ _ _
    simp (config := { maxSteps := 10000000 }) only [EV1, EV2, EV3, EV4, EV5, EV6, addT, istep, lenR_sl, lenR_ns, lenR_es, pickR, putD, bin1R, un1R, slcR, bnd, capsOf, fillP, S_plain, V_plain, V.cells, S_known, V_known, C.v, blk, setL, setH, eqS, eq1, cmpS, cmp1, isNil, popTo, killT, setT, leT, V.below, C.below, S_below, R.below, V.val, C.val, S_val, R.val, R.takes, vals, shows, List.any_cons, List.any_nil, unnamed, V.kill, V.names, C.names, S_names, R.names, List.set, List.replicate, ↓q_cond_t, ↓q_cond_f, if_true, if_false, reduceCtorEq, rvals, rvC, result, C_known, V.noL, C.noL, S_noL, R.noL, Option.map, true_and, and_true, ge_iff_le, gt_iff_lt, implies_true, q_ite_t, q_ite_f, beq_iff_eq, bne_iff_ne, q_ne, Nat.reduceAdd, Nat.reducePow, Int.reducePow, Nat.reduceMul, Nat.reduceSub, Nat.reduceLeDiff, Nat.reduceLT, Nat.reduceEqDiff, Int.reduceNeg, Int.reduceLT, Int.reduceLE, Int.reduceEq, Int.reduceNe, Int.reduceAdd, Int.reduceSub, Int.reduceMul, Int.reduceToNat, Int.reduceBEq, Int.reduceBNe, df27, ↓hlen, ↓hsh, TSp, spanG, memF_eq H, spanM, setM_self H, hh, H.hb, MW, hcl, ho, c2, hsub, hmin, hlay, wc_known, wc_takes, wc_all, Int.toNat_natCast]
    exact hS
  | false =>
    have hS := q2 hh
    simp (config := { maxSteps := 10000000 }) only [EV1, EV2, EV3, EV4, EV5, EV6, addT, istep, lenR_sl, lenR_ns, lenR_es, pickR, putD, bin1R, un1R, slcR, bnd, capsOf, fillP, S_plain, V_plain, V.cells, S_known, V_known, C.v, blk, setL, setH, eqS, eq1, cmpS, cmp1, isNil, popTo, killT, setT, leT, V.below, C.below, S_below, R.below, V.val, C.val, S_val, R.val, R.takes, vals, shows, List.any_cons, List.any_nil, unnamed, V.kill, V.names, C.names, S_names, R.names, List.set, List.replicate, ↓q_cond_t, ↓q_cond_f, if_true, if_false, reduceCtorEq, rvals, rvC, result, C_known, V.noL, C.noL, S_noL, R.noL, Option.map, true_and, and_true, ge_iff_le, gt_iff_lt, implies_true, q_ite_t, q_ite_f, beq_iff_eq, bne_iff_ne, q_ne, Nat.reduceAdd, Nat.reducePow, Int.reducePow, Nat.reduceMul, Nat.reduceSub, Nat.reduceLeDiff, Nat.reduceLT, Nat.reduceEqDiff, Int.reduceNeg, Int.reduceLT, Int.reduceLE, Int.reduceEq, Int.reduceNe, Int.reduceAdd, Int.reduceSub, Int.reduceMul, Int.reduceToNat, Int.reduceBEq, Int.reduceBNe, df27, ↓hlen, TSp, spanG, memF_eq H, spanM, setM_self H, hh]
    exact hS
end Go.Proofs.Yteeeidldknlblaa

/- Lists of words: the document's Load, Same. -/
namespace Go.Proofs.Yteeeidldknlblaa
open Go.D
set_option linter.all false
set_option maxRecDepth 100000
set_option maxHeartbeats 4000000

theorem take_snoc {vs : List Int} {q : Nat} (h : q < vs.length) : vs.take (q + 1) = vs.take q ++ [nth 0 vs q] := by
  rw [List.take_succ_eq_append_getElem h, nth_eq h]
theorem rload_snd : Snd Try.prog 65 (FSpec.of loadG) := snd_run TSp_snd mixed Try.func65 dc65 100 fun args h K hc hS => by
  obtain ⟨a, x, s, b, m, vs, rfl, H, HL, hap, hu, q1, q2⟩ := loadG_spec hS
  clear hS
  have hl := m.l
  have hlen := fun ls h' => HL.sl.len (ls := ls) (h := h')
  cases hh : m.has x vs.length with
  | true =>
    have hS := q1 hh
    obtain ⟨i, n, rfl, e, hij⟩ := M.has_nat hh
    have e : vs.length = n := by omega
    simp only [Int.toNat_natCast] at hS
    simp (config := { maxSteps := 10000000 }) only [EV1, EV2, EV3, EV4, EV5, EV6, addT, istep, lenR_sl, lenR_ns, lenR_es, pickR, putD, bin1R, un1R, slcR, bnd, capsOf, fillP, S_plain, V_plain, V.cells, S_known, V_known, C.v, blk, setL, setH, eqS, eq1, cmpS, cmp1, isNil, popTo, killT, setT, leT, V.below, C.below, S_below, R.below, V.val, C.val, S_val, R.val, R.takes, vals, shows, List.any_cons, List.any_nil, unnamed, V.kill, V.names, C.names, S_names, R.names, List.set, List.replicate, ↓q_cond_t, ↓q_cond_f, if_true, if_false, reduceCtorEq, rvals, rvC, result, C_known, V.noL, C.noL, S_noL, R.noL, Option.map, true_and, and_true, ge_iff_le, gt_iff_lt, implies_true, q_ite_t, q_ite_f, beq_iff_eq, bne_iff_ne, q_ne, Nat.reduceAdd, Nat.reducePow, Int.reducePow, Nat.reduceMul, Nat.reduceSub, Nat.reduceLeDiff, Nat.reduceLT, Nat.reduceEqDiff, Int.reduceNeg, Int.reduceLT, Int.reduceLE, Int.reduceEq, Int.reduceNe, Int.reduceAdd, Int.reduceSub, Int.reduceMul, Int.reduceToNat, Int.reduceBEq, Int.reduceBNe, df65, ↓hlen, TSp, thereG, memF_eq H, thereM, setM_self H, hh]
    refine loop_rule (α := Nat) [8, 16, 17, 18, 19, 20, 21, 22, 23, 24, 25, 26, 27, 28, 29, 30, 31, 32, 33] (fun q => [(8, .s (.i .i64 q))]) (fun _ => []) (fun q => h.set b ⟨.rw, wc (m.lay i (vs.take q)).w, m.w.length⟩) (fun q => q ≤ vs.length) (fun q => vs.length - q) 0 (by omega) ?_ ?_
    · simp only [List.take_zero, M.lay]
      rw [show (⟨.rw, wc m.w, m.w.length⟩ : Blk) = MW m from rfl, set_self H.hb]
      refine Wk.less ?_
      simp (config := { maxSteps := 10000000 }) only [EV1, EV2, EV3, EV4, EV5, EV6, addT, istep, lenR_sl, lenR_ns, lenR_es, pickR, putD, bin1R, un1R, slcR, bnd, capsOf, fillP, S_plain, V_plain, V.cells, S_known, V_known, C.v, blk, setL, setH, eqS, eq1, cmpS, cmp1, isNil, popTo, killT, setT, leT, V.below, C.below, S_below, R.below, V.val, C.val, S_val, R.val, R.takes, vals, shows, List.any_cons, List.any_nil, unnamed, V.kill, V.names, C.names, S_names, R.names, List.set, List.replicate, ↓q_cond_t, ↓q_cond_f, if_true, if_false, reduceCtorEq, rvals, rvC, result, C_known, V.noL, C.noL, S_noL, R.noL, Option.map, true_and, and_true, ge_iff_le, gt_iff_lt, implies_true, q_ite_t, q_ite_f, beq_iff_eq, bne_iff_ne, q_ne, Nat.reduceAdd, Nat.reducePow, Int.reducePow, Nat.reduceMul, Nat.reduceSub, Nat.reduceLeDiff, Nat.reduceLT, Nat.reduceEqDiff, Int.reduceNeg, Int.reduceLT, Int.reduceLE, Int.reduceEq, Int.reduceNe, Int.reduceAdd, Int.reduceSub, Int.reduceMul, Int.reduceToNat, Int.reduceBEq, Int.reduceBNe, q_cast, Int.natCast_zero]
    · intro X q hq IH
      rcases Nat.lt_or_ge q vs.length with h1 | h1
      · obtain ⟨j, o, c, B, rfl, hj, hd, hle, hs⟩ := HL.at h1
        have hap : j ≠ b := hap
        obtain ⟨d1, d2, d3, d4⟩ := idx h1 (by omega)
        have c3 : (h.set b ⟨BK.rw, wc (m.lay i (vs.take q)).w, m.w.length⟩)[b]? = some ⟨BK.rw, wc (m.lay i (vs.take q)).w, m.w.length⟩ := set_hit H.hb
        have c4 : i + q + 1 ≤ (wc (m.lay i (vs.take q)).w).length := by rw [wc_len, M.lay_len]; omega
        have g := IsList.get hs h1 rfl
        have hv : u64 (nth 0 vs q) := hu _ (nth_mem h1)
        have c5 : ((wc (m.lay i (vs.take q)).w).set (i + q) (S.i .u64 (nth 0 vs q))) = wc (m.lay i (vs.take (q + 1))).w := by
          rw [wc_set, take_snoc h1, M.lay_snoc, show (vs.take q).length = q by simp; omega]; simp only [M.put, uw_of hv]
        have hjm : (h.set b ⟨BK.rw, wc (m.lay i (vs.take q)).w, m.w.length⟩)[j]? = some B := by rw [set_miss (Ne.symm hap)]; exact hj
        have ha := H.ha'
        have w1 : IntKind.i64.wrap ((i : Int) + q) = ((i + q : Nat) : Int) := by rw [wrap64] <;> omega
        have d5 : ((i + q : Nat) : Int) < m.w.length := by omega
        have d6 : (0 : Int) ≤ ((i + q : Nat) : Int) := by omega
        refine run_sound (Tab.ok_Γ _) 100 _ _ _ _ ?_
        simp (config := { maxSteps := 10000000 }) only [EV1, EV2, EV3, EV4, EV5, EV6, addT, istep, lenR_sl, lenR_ns, lenR_es, pickR, putD, bin1R, un1R, slcR, bnd, capsOf, fillP, S_plain, V_plain, V.cells, S_known, V_known, C.v, blk, setL, setH, eqS, eq1, cmpS, cmp1, isNil, popTo, killT, setT, leT, V.below, C.below, S_below, R.below, V.val, C.val, S_val, R.val, R.takes, vals, shows, List.any_cons, List.any_nil, unnamed, V.kill, V.names, C.names, S_names, R.names, List.set, List.replicate, ↓q_cond_t, ↓q_cond_f, if_true, if_false, reduceCtorEq, rvals, rvC, result, C_known, V.noL, C.noL, S_noL, R.noL, Option.map, true_and, and_true, ge_iff_le, gt_iff_lt, implies_true, q_ite_t, q_ite_f, beq_iff_eq, bne_iff_ne, q_ne, Nat.reduceAdd, Nat.reducePow, Int.reducePow, Nat.reduceMul, Nat.reduceSub, Nat.reduceLeDiff, Nat.reduceLT, Nat.reduceEqDiff, Int.reduceNeg, Int.reduceLT, Int.reduceLE, Int.reduceEq, Int.reduceNe, Int.reduceAdd, Int.reduceSub, Int.reduceMul, Int.reduceToNat, Int.reduceBEq, Int.reduceBNe, d1, d2, d3, d4, d5, d6, w1, c3, ha, MB, hjm, hd, g, c4, Int.toNat_natCast, put, c5, List.set_set]
        exact IH (q + 1) _ (by omega) (by omega) (Wk.same rfl rfl (by simp (config := { maxSteps := 10000000 }) only [EV1, EV2, EV3, EV4, EV5, EV6, addT, istep, lenR_sl, lenR_ns, lenR_es, pickR, putD, bin1R, un1R, slcR, bnd, capsOf, fillP, S_plain, V_plain, V.cells, S_known, V_known, C.v, blk, setL, setH, eqS, eq1, cmpS, cmp1, isNil, popTo, killT, setT, leT, V.below, C.below, S_below, R.below, V.val, C.val, S_val, R.val, R.takes, vals, shows, List.any_cons, List.any_nil, unnamed, V.kill, V.names, C.names, S_names, R.names, List.set, List.replicate, ↓q_cond_t, ↓q_cond_f, if_true, if_false, reduceCtorEq, rvals, rvC, result, C_known, V.noL, C.noL, S_noL, R.noL, Option.map, true_and, and_true, ge_iff_le, gt_iff_lt, implies_true, q_ite_t, q_ite_f, beq_iff_eq, bne_iff_ne, q_ne, Nat.reduceAdd, Nat.reducePow, Int.reducePow, Nat.reduceMul, Nat.reduceSub, Nat.reduceLeDiff, Nat.reduceLT, Nat.reduceEqDiff, Int.reduceNeg, Int.reduceLT, Int.reduceLE, Int.reduceEq, Int.reduceNe, Int.reduceAdd, Int.reduceSub, Int.reduceMul, Int.reduceToNat, Int.reduceBEq, Int.reduceBNe]))
      · have : q = vs.length := by omega
        subst this
        refine run_sound (Tab.ok_Γ _) 100 _ _ _ _ ?_
        simp (config := { maxSteps := 10000000 }) only [EV1, EV2, EV3, EV4, EV5, EV6, addT, istep, lenR_sl, lenR_ns, lenR_es, pickR, putD, bin1R, un1R, slcR, bnd, capsOf, fillP, S_plain, V_plain, V.cells, S_known, V_known, C.v, blk, setL, setH, eqS, eq1, cmpS, cmp1, isNil, popTo, killT, setT, leT, V.below, C.below, S_below, R.below, V.val, C.val, S_val, R.val, R.takes, vals, shows, List.any_cons, List.any_nil, unnamed, V.kill, V.names, C.names, S_names, R.names, List.set, List.replicate, ↓q_cond_t, ↓q_cond_f, if_true, if_false, reduceCtorEq, rvals, rvC, result, C_known, V.noL, C.noL, S_noL, R.noL, Option.map, true_and, and_true, ge_iff_le, gt_iff_lt, implies_true, q_ite_t, q_ite_f, beq_iff_eq, bne_iff_ne, q_ne, Nat.reduceAdd, Nat.reducePow, Int.reducePow, Nat.reduceMul, Nat.reduceSub, Nat.reduceLeDiff, Nat.reduceLT, Nat.reduceEqDiff, Int.reduceNeg, Int.reduceLT, Int.reduceLE, Int.reduceEq, Int.reduceNe, Int.reduceAdd, Int.reduceSub, Int.reduceMul, Int.reduceToNat, Int.reduceBEq, Int.reduceBNe, ↓hlen, Int.lt_irrefl]
        refine cast (congrArg (K _) ?_) hS
        rw [List.take_length, ← setM_words H (M.lay_len vs m i) (M.lay_n vs m i)]
        simp only [MW, M.lay_len]
  | false =>
    have hS := q2 hh
    simp (config := { maxSteps := 10000000 }) only [EV1, EV2, EV3, EV4, EV5, EV6, addT, istep, lenR_sl, lenR_ns, lenR_es, pickR, putD, bin1R, un1R, slcR, bnd, capsOf, fillP, S_plain, V_plain, V.cells, S_known, V_known, C.v, blk, setL, setH, eqS, eq1, cmpS, cmp1, isNil, popTo, killT, setT, leT, V.below, C.below, S_below, R.below, V.val, C.val, S_val, R.val, R.takes, vals, shows, List.any_cons, List.any_nil, unnamed, V.kill, V.names, C.names, S_names, R.names, List.set, List.replicate, ↓q_cond_t, ↓q_cond_f, if_true, if_false, reduceCtorEq, rvals, rvC, result, C_known, V.noL, C.noL, S_noL, R.noL, Option.map, true_and, and_true, ge_iff_le, gt_iff_lt, implies_true, q_ite_t, q_ite_f, beq_iff_eq, bne_iff_ne, q_ne, Nat.reduceAdd, Nat.reducePow, Int.reducePow, Nat.reduceMul, Nat.reduceSub, Nat.reduceLeDiff, Nat.reduceLT, Nat.reduceEqDiff, Int.reduceNeg, Int.reduceLT, Int.reduceLE, Int.reduceEq, Int.reduceNe, Int.reduceAdd, Int.reduceSub, Int.reduceMul, Int.reduceToNat, Int.reduceBEq, Int.reduceBNe, df65, ↓hlen, TSp, thereG, memF_eq H, thereM, setM_self H, hh]
    exact hS

noncomputable def sameWG : List V → List Blk → Res
  | [.s x, .s y], h => match listOf h x, listOf h y with
    | some v, some w => .ob (v.length ≤ 8796093022208 ∧ w.length ≤ 8796093022208) (.ok (.s (.b (decide (v = w)))) [] h)
    | _, _ => .bad
  | _, _ => .bad
theorem sameWG_spec {args : List V} {h : List Blk} {K : V → List Blk → Prop} (hS : (sameWG args h).spec K) : ∃ x y v w, args = [.s x, .s y] ∧ IsList h x v ∧ IsList h y w ∧ v.length ≤ 8796093022208 ∧ w.length ≤ 8796093022208 ∧ K (.s (.b (decide (v = w)))) h := by
  unfold sameWG at hS
  split at hS
  · split at hS
    · rename_i e1 e2
      exact ⟨_, _, _, _, rfl, listOf_some e1, listOf_some e2, hS.1.1, hS.1.2, hS.2⟩
    · exact hS.elim
  · exact hS.elim
theorem nil_of {v : List Int} (h : v.length = 0) : v = [] := List.eq_nil_of_length_eq_zero h
theorem take_ne {v w : List Int} {q : Nat} (h : q < v.length) (h' : q < w.length) (e : ¬ nth 0 v q = nth 0 w q) : v ≠ w := fun x => by subst x; exact e rfl
theorem eq_of_nth {v w : List Int} (hl : v.length = w.length) (h : ∀ i, i < v.length → nth 0 v i = nth 0 w i) : v = w :=
  List.ext_getElem hl fun i h1 h2 => by have := h i h1; rwa [nth_eq h1, nth_eq h2] at this
theorem sameW_snd : Snd Try.prog 31 (FSpec.of sameWG) := snd_run (noT_snd _) mixed Try.func31 dc31 100 fun args h K hc hS => by
  obtain ⟨x, y, v, w, rfl, Hx, Hy, lx, ly, hK⟩ := sameWG_spec hS
  clear hS
  have hlx := fun ls h' => Hx.sl.len (ls := ls) (h := h')
  have hly := fun ls h' => Hy.sl.len (ls := ls) (h := h')
  by_cases hn : v.length = w.length
  · have e2 : ((v.length : Int) != (w.length : Int)) = false := by rw [hn]; simp
    simp (config := { maxSteps := 10000000 }) only [EV1, EV2, EV3, EV4, EV5, EV6, addT, istep, lenR_sl, lenR_ns, lenR_es, pickR, putD, bin1R, un1R, slcR, bnd, capsOf, fillP, S_plain, V_plain, V.cells, S_known, V_known, C.v, blk, setL, setH, eqS, eq1, cmpS, cmp1, isNil, popTo, killT, setT, leT, V.below, C.below, S_below, R.below, V.val, C.val, S_val, R.val, R.takes, vals, shows, List.any_cons, List.any_nil, unnamed, V.kill, V.names, C.names, S_names, R.names, List.set, List.replicate, ↓q_cond_t, ↓q_cond_f, if_true, if_false, reduceCtorEq, rvals, rvC, result, C_known, V.noL, C.noL, S_noL, R.noL, Option.map, true_and, and_true, ge_iff_le, gt_iff_lt, implies_true, q_ite_t, q_ite_f, beq_iff_eq, bne_iff_ne, q_ne, Nat.reduceAdd, Nat.reducePow, Int.reducePow, Nat.reduceMul, Nat.reduceSub, Nat.reduceLeDiff, Nat.reduceLT, Nat.reduceEqDiff, Int.reduceNeg, Int.reduceLT, Int.reduceLE, Int.reduceEq, Int.reduceNe, Int.reduceAdd, Int.reduceSub, Int.reduceMul, Int.reduceToNat, Int.reduceBEq, Int.reduceBNe, df31, ↓hlx, ↓hly, e2]
    refine loop_rule (α := Nat) [4, 5, 11, 12, 13, 14, 15, 16, 17, 18, 19, 20, 21, 22, 23, 24, 25] (fun q => [(5, .s (.i .i64 q))]) (fun _ => []) (fun q => h) (fun q => q ≤ v.length ∧ ∀ i, i < q → nth 0 v i = nth 0 w i) (fun q => v.length - q) 0 ⟨by omega, fun i hi => by omega⟩ ?_ ?_
    · refine Wk.less ?_
      simp (config := { maxSteps := 10000000 }) only [EV1, EV2, EV3, EV4, EV5, EV6, addT, istep, lenR_sl, lenR_ns, lenR_es, pickR, putD, bin1R, un1R, slcR, bnd, capsOf, fillP, S_plain, V_plain, V.cells, S_known, V_known, C.v, blk, setL, setH, eqS, eq1, cmpS, cmp1, isNil, popTo, killT, setT, leT, V.below, C.below, S_below, R.below, V.val, C.val, S_val, R.val, R.takes, vals, shows, List.any_cons, List.any_nil, unnamed, V.kill, V.names, C.names, S_names, R.names, List.set, List.replicate, ↓q_cond_t, ↓q_cond_f, if_true, if_false, reduceCtorEq, rvals, rvC, result, C_known, V.noL, C.noL, S_noL, R.noL, Option.map, true_and, and_true, ge_iff_le, gt_iff_lt, implies_true, q_ite_t, q_ite_f, beq_iff_eq, bne_iff_ne, q_ne, Nat.reduceAdd, Nat.reducePow, Int.reducePow, Nat.reduceMul, Nat.reduceSub, Nat.reduceLeDiff, Nat.reduceLT, Nat.reduceEqDiff, Int.reduceNeg, Int.reduceLT, Int.reduceLE, Int.reduceEq, Int.reduceNe, Int.reduceAdd, Int.reduceSub, Int.reduceMul, Int.reduceToNat, Int.reduceBEq, Int.reduceBNe, q_cast, Int.natCast_zero]
    · rintro X q ⟨hq, hpre⟩ IH
      rcases Nat.lt_or_ge q v.length with h1 | h1
      · obtain ⟨j, o, c, B, rfl, hj, hd, hle, hs⟩ := Hx.at h1
        obtain ⟨j2, o2, c2, B2, rfl, hj2, hd2, hle2, hs2⟩ := Hy.at (i := q) (by omega)
        obtain ⟨d1, d2, d3, d4⟩ := idx h1 (by omega)
        have d5 : (q : Int) < w.length := by omega
        have g1 := IsList.get hs h1 rfl
        have g2 := IsList.get hs2 (i := q) (by omega) rfl
        by_cases hx : nth 0 v q = nth 0 w q
        · have f1 : (nth 0 v q != nth 0 w q) = false := by simpa using hx
          refine run_sound (Tab.ok_Γ _) 100 _ _ _ _ ?_
          simp (config := { maxSteps := 10000000 }) only [EV1, EV2, EV3, EV4, EV5, EV6, addT, istep, lenR_sl, lenR_ns, lenR_es, pickR, putD, bin1R, un1R, slcR, bnd, capsOf, fillP, S_plain, V_plain, V.cells, S_known, V_known, C.v, blk, setL, setH, eqS, eq1, cmpS, cmp1, isNil, popTo, killT, setT, leT, V.below, C.below, S_below, R.below, V.val, C.val, S_val, R.val, R.takes, vals, shows, List.any_cons, List.any_nil, unnamed, V.kill, V.names, C.names, S_names, R.names, List.set, List.replicate, ↓q_cond_t, ↓q_cond_f, if_true, if_false, reduceCtorEq, rvals, rvC, result, C_known, V.noL, C.noL, S_noL, R.noL, Option.map, true_and, and_true, ge_iff_le, gt_iff_lt, implies_true, q_ite_t, q_ite_f, beq_iff_eq, bne_iff_ne, q_ne, Nat.reduceAdd, Nat.reducePow, Int.reducePow, Nat.reduceMul, Nat.reduceSub, Nat.reduceLeDiff, Nat.reduceLT, Nat.reduceEqDiff, Int.reduceNeg, Int.reduceLT, Int.reduceLE, Int.reduceEq, Int.reduceNe, Int.reduceAdd, Int.reduceSub, Int.reduceMul, Int.reduceToNat, Int.reduceBEq, Int.reduceBNe, d1, d2, d3, d4, d5, g1, g2, hj, hj2, hd, hd2, f1, hx, Int.toNat_natCast]
          exact IH (q + 1) _ (by omega) ⟨by omega, fun i hi => by
            rcases Nat.lt_or_ge i q with h2 | h2
            · exact hpre i h2
            · have : i = q := by omega
              subst this; exact hx⟩ (Wk.same rfl rfl (by simp (config := { maxSteps := 10000000 }) only [EV1, EV2, EV3, EV4, EV5, EV6, addT, istep, lenR_sl, lenR_ns, lenR_es, pickR, putD, bin1R, un1R, slcR, bnd, capsOf, fillP, S_plain, V_plain, V.cells, S_known, V_known, C.v, blk, setL, setH, eqS, eq1, cmpS, cmp1, isNil, popTo, killT, setT, leT, V.below, C.below, S_below, R.below, V.val, C.val, S_val, R.val, R.takes, vals, shows, List.any_cons, List.any_nil, unnamed, V.kill, V.names, C.names, S_names, R.names, List.set, List.replicate, ↓q_cond_t, ↓q_cond_f, if_true, if_false, reduceCtorEq, rvals, rvC, result, C_known, V.noL, C.noL, S_noL, R.noL, Option.map, true_and, and_true, ge_iff_le, gt_iff_lt, implies_true, q_ite_t, q_ite_f, beq_iff_eq, bne_iff_ne, q_ne, Nat.reduceAdd, Nat.reducePow, Int.reducePow, Nat.reduceMul, Nat.reduceSub, Nat.reduceLeDiff, Nat.reduceLT, Nat.reduceEqDiff, Int.reduceNeg, Int.reduceLT, Int.reduceLE, Int.reduceEq, Int.reduceNe, Int.reduceAdd, Int.reduceSub, Int.reduceMul, Int.reduceToNat, Int.reduceBEq, Int.reduceBNe]))
        · have f1 : (nth 0 v q != nth 0 w q) = true := by simpa using hx
          have e1 := take_ne h1 (by omega) hx
          simp only [e1, decide_false] at hK
          refine run_sound (Tab.ok_Γ _) 100 _ _ _ _ ?_
          simp (config := { maxSteps := 10000000 }) only [EV1, EV2, EV3, EV4, EV5, EV6, addT, istep, lenR_sl, lenR_ns, lenR_es, pickR, putD, bin1R, un1R, slcR, bnd, capsOf, fillP, S_plain, V_plain, V.cells, S_known, V_known, C.v, blk, setL, setH, eqS, eq1, cmpS, cmp1, isNil, popTo, killT, setT, leT, V.below, C.below, S_below, R.below, V.val, C.val, S_val, R.val, R.takes, vals, shows, List.any_cons, List.any_nil, unnamed, V.kill, V.names, C.names, S_names, R.names, List.set, List.replicate, ↓q_cond_t, ↓q_cond_f, if_true, if_false, reduceCtorEq, rvals, rvC, result, C_known, V.noL, C.noL, S_noL, R.noL, Option.map, true_and, and_true, ge_iff_le, gt_iff_lt, implies_true, q_ite_t, q_ite_f, beq_iff_eq, bne_iff_ne, q_ne, Nat.reduceAdd, Nat.reducePow, Int.reducePow, Nat.reduceMul, Nat.reduceSub, Nat.reduceLeDiff, Nat.reduceLT, Nat.reduceEqDiff, Int.reduceNeg, Int.reduceLT, Int.reduceLE, Int.reduceEq, Int.reduceNe, Int.reduceAdd, Int.reduceSub, Int.reduceMul, Int.reduceToNat, Int.reduceBEq, Int.reduceBNe, d1, d2, d3, d4, d5, g1, g2, hj, hj2, hd, hd2, f1, hx, Int.toNat_natCast]
          exact hK
      · have : q = v.length := by omega
        subst this
        have e1 := eq_of_nth hn hpre
        simp only [e1, decide_true] at hK
        refine run_sound (Tab.ok_Γ _) 100 _ _ _ _ ?_
        simp (config := { maxSteps := 10000000 }) only [EV1, EV2, EV3, EV4, EV5, EV6, addT, istep, lenR_sl, lenR_ns, lenR_es, pickR, putD, bin1R, un1R, slcR, bnd, capsOf, fillP, S_plain, V_plain, V.cells, S_known, V_known, C.v, blk, setL, setH, eqS, eq1, cmpS, cmp1, isNil, popTo, killT, setT, leT, V.below, C.below, S_below, R.below, V.val, C.val, S_val, R.val, R.takes, vals, shows, List.any_cons, List.any_nil, unnamed, V.kill, V.names, C.names, S_names, R.names, List.set, List.replicate, ↓q_cond_t, ↓q_cond_f, if_true, if_false, reduceCtorEq, rvals, rvC, result, C_known, V.noL, C.noL, S_noL, R.noL, Option.map, true_and, and_true, ge_iff_le, gt_iff_lt, implies_true, q_ite_t, q_ite_f, beq_iff_eq, bne_iff_ne, q_ne, Nat.reduceAdd, Nat.reducePow, Int.reducePow, Nat.reduceMul, Nat.reduceSub, Nat.reduceLeDiff, Nat.reduceLT, Nat.reduceEqDiff, Int.reduceNeg, Int.reduceLT, Int.reduceLE, Int.reduceEq, Int.reduceNe, Int.reduceAdd, Int.reduceSub, Int.reduceMul, Int.reduceToNat, Int.reduceBEq, Int.reduceBNe, ↓hlx, Int.lt_irrefl]
        exact hK
  · have e1 : ¬ (v = w) := fun e => hn (by rw [e])
    have e2 : ((v.length : Int) != (w.length : Int)) = true := by rw [bne_iff_ne]; omega
    have e3 : ¬ ((v.length : Int) = (w.length : Int)) := by omega
    simp only [e1, decide_false] at hK
    simp (config := { maxSteps := 10000000 }) only [EV1, EV2, EV3, EV4, EV5, EV6, addT, istep, lenR_sl, lenR_ns, lenR_es, pickR, putD, bin1R, un1R, slcR, bnd, capsOf, fillP, S_plain, V_plain, V.cells, S_known, V_known, C.v, blk, setL, setH, eqS, eq1, cmpS, cmp1, isNil, popTo, killT, setT, leT, V.below, C.below, S_below, R.below, V.val, C.val, S_val, R.val, R.takes, vals, shows, List.any_cons, List.any_nil, unnamed, V.kill, V.names, C.names, S_names, R.names, List.set, List.replicate, ↓q_cond_t, ↓q_cond_f, if_true, if_false, reduceCtorEq, rvals, rvC, result, C_known, V.noL, C.noL, S_noL, R.noL, Option.map, true_and, and_true, ge_iff_le, gt_iff_lt, implies_true, q_ite_t, q_ite_f, beq_iff_eq, bne_iff_ne, q_ne, Nat.reduceAdd, Nat.reducePow, Int.reducePow, Nat.reduceMul, Nat.reduceSub, Nat.reduceLeDiff, Nat.reduceLT, Nat.reduceEqDiff, Int.reduceNeg, Int.reduceLT, Int.reduceLE, Int.reduceEq, Int.reduceNe, Int.reduceAdd, Int.reduceSub, Int.reduceMul, Int.reduceToNat, Int.reduceBEq, Int.reduceBNe, df31, ↓hlx, ↓hly, e2, e3]
    exact hK
end Go.Proofs.Yteeeidldknlblaa

/- The machine's memory: Copy; the document's Fill, Copy, Dump. -/
namespace Go.Proofs.Yteeeidldknlblaa
open Go.D
set_option linter.all false
set_option maxRecDepth 100000
set_option maxHeartbeats 4000000

/-- A part of the words. -/
def M.part (m : M) (x k : Nat) : List Int := (m.w.drop x).take k
theorem M.part_len {m : M} {x k : Nat} (h : x + k ≤ m.w.length) : (m.part x k).length = k := by simp [M.part]; omega
theorem M.part_u {m : M} {x k : Nat} : ∀ v, v ∈ m.part x k → u64 v := fun v hv => m.u v (List.mem_of_mem_drop (List.mem_of_mem_take hv))
theorem nth_part {m : M} {x k i : Nat} (h : i < k) : nth 0 (m.part x k) i = nth 0 m.w (x + i) := by
  unfold M.part
  generalize m.w = l
  induction x generalizing l with
  | zero =>
    simp only [List.drop_zero, Nat.zero_add]
    induction k generalizing l i with
    | zero => omega
    | succ k ih =>
      cases l with
      | nil => rfl
      | cons x l =>
        cases i with
        | zero => rfl
        | succ i => exact ih (l := l) (by omega)
  | succ a ih =>
    cases l with
    | nil => simp [nth]
    | cons x l =>
      rw [List.drop_succ_cons, ih, show a + 1 + i = (a + i) + 1 by omega]; rfl
def M.copy (m : M) (x y k : Nat) : M := (m.lay y (m.part x k)).tick (2 * k)
def copyM (b : Nat) (m : M) (st : M → List Blk) : List V → Res
  | [.s (.i .i64 x), .s (.i .i64 y), .s (.i .i64 k)] => .br (m.has x k && m.has y k) (.ok (.s (.i .i64 0)) [] (st (m.copy x.toNat y.toNat k.toNat))) (.ok (.s (.i .i64 20)) [] (st m))
  | _ => .bad
noncomputable def copyG := memF copyM
theorem mcopy_snd : Snd Try.prog 28 (FSpec.of copyG) := snd_run TSp_snd mixed Try.func28 dc28 100 fun args h K hc hS => by
  obtain ⟨a, b, m, rest, rfl, H, hS1⟩ := memF_spec hS
  clear hS
  have hS := hS1
  clear hS1
  unfold copyM at hS
  split at hS
  · rename_i x y k
    simp only [spec_ok, spec_br, setM_self H] at hS
    have hl := m.l
    cases hx : m.has x k with
    | false =>
      have hS := hS.2 (by rw [hx]; rfl)
      cases hy : m.has y k <;> simp (config := { maxSteps := 10000000 }) only [EV1, EV2, EV3, EV4, EV5, EV6, addT, istep, lenR_sl, lenR_ns, lenR_es, pickR, putD, bin1R, un1R, slcR, bnd, capsOf, fillP, S_plain, V_plain, V.cells, S_known, V_known, C.v, blk, setL, setH, eqS, eq1, cmpS, cmp1, isNil, popTo, killT, setT, leT, V.below, C.below, S_below, R.below, V.val, C.val, S_val, R.val, R.takes, vals, shows, List.any_cons, List.any_nil, unnamed, V.kill, V.names, C.names, S_names, R.names, List.set, List.replicate, ↓q_cond_t, ↓q_cond_f, if_true, if_false, reduceCtorEq, rvals, rvC, result, C_known, V.noL, C.noL, S_noL, R.noL, Option.map, true_and, and_true, ge_iff_le, gt_iff_lt, implies_true, q_ite_t, q_ite_f, beq_iff_eq, bne_iff_ne, q_ne, Nat.reduceAdd, Nat.reducePow, Int.reducePow, Nat.reduceMul, Nat.reduceSub, Nat.reduceLeDiff, Nat.reduceLT, Nat.reduceEqDiff, Int.reduceNeg, Int.reduceLT, Int.reduceLE, Int.reduceEq, Int.reduceNe, Int.reduceAdd, Int.reduceSub, Int.reduceMul, Int.reduceToNat, Int.reduceBEq, Int.reduceBNe, df28, TSp, spanG, memF_eq H, spanM, setM_self H, hx, hy]
      all_goals exact hS
    | true =>
      cases hy : m.has y k with
      | false =>
        have hS := hS.2 (by rw [hx, hy]; rfl)
        simp (config := { maxSteps := 10000000 }) only [EV1, EV2, EV3, EV4, EV5, EV6, addT, istep, lenR_sl, lenR_ns, lenR_es, pickR, putD, bin1R, un1R, slcR, bnd, capsOf, fillP, S_plain, V_plain, V.cells, S_known, V_known, C.v, blk, setL, setH, eqS, eq1, cmpS, cmp1, isNil, popTo, killT, setT, leT, V.below, C.below, S_below, R.below, V.val, C.val, S_val, R.val, R.takes, vals, shows, List.any_cons, List.any_nil, unnamed, V.kill, V.names, C.names, S_names, R.names, List.set, List.replicate, ↓q_cond_t, ↓q_cond_f, if_true, if_false, reduceCtorEq, rvals, rvC, result, C_known, V.noL, C.noL, S_noL, R.noL, Option.map, true_and, and_true, ge_iff_le, gt_iff_lt, implies_true, q_ite_t, q_ite_f, beq_iff_eq, bne_iff_ne, q_ne, Nat.reduceAdd, Nat.reducePow, Int.reducePow, Nat.reduceMul, Nat.reduceSub, Nat.reduceLeDiff, Nat.reduceLT, Nat.reduceEqDiff, Int.reduceNeg, Int.reduceLT, Int.reduceLE, Int.reduceEq, Int.reduceNe, Int.reduceAdd, Int.reduceSub, Int.reduceMul, Int.reduceToNat, Int.reduceBEq, Int.reduceBNe, df28, TSp, spanG, memF_eq H, spanM, setM_self H, hx, hy]
        exact hS
      | true =>
        have hS := hS.1 (by rw [hx, hy]; rfl)
        obtain ⟨i, n, rfl, rfl, hin⟩ := M.has_nat hx
        obtain ⟨j, n', rfl, e, hjn⟩ := M.has_nat hy
        have e : n = n' := by omega
        subst e
        simp only [Int.toNat_natCast] at hS
        obtain ⟨o, ho, hoi⟩ : ∃ o : Nat, (if m.w.length = i then 0 else i) = o ∧ (i < m.w.length → o = i) := ⟨_, rfl, fun hlt => if_neg (by omega)⟩
        obtain ⟨p, hp, hpj⟩ : ∃ p : Nat, (if m.w.length = j then 0 else j) = p ∧ (j < m.w.length → p = j) := ⟨_, rfl, fun hlt => if_neg (by omega)⟩
        have ho2 : o + n ≤ m.w.length := by rw [← ho]; split <;> omega
        have hp2 : p + n ≤ m.w.length := by rw [← hp]; split <;> omega
        have hcl : (wc m.w).length = m.w.length := wc_len _
        have c5 : ¬ (wc m.w).length < o + n := by omega
        have c6 : ¬ m.w.length < o + n := by omega
        have hpart : sub (wc m.w) o n = wc (m.part i n) := by
          rcases Nat.eq_zero_or_pos n with h0 | h0
          · subst h0; simp [sub, M.part, wc]
          · rw [hoi (by omega), wc_sub]; rfl
        have hpl := M.part_len hin
        have hsub : sub (wc (m.part i n)) 0 n = wc (m.part i n) := by
          rw [wc_sub, List.drop_zero, List.take_of_length_le (by omega)]
        have hmin : min n n = n := Nat.min_self _
        have hlay : D.put (wc m.w) p (wc (m.part i n)) = wc (m.lay j (m.part i n)).w := by
          rcases Nat.eq_zero_or_pos n with h0 | h0
          · have : m.part i n = [] := List.eq_nil_of_length_eq_zero (by omega)
            rw [this]; rfl
          · rw [hpj (by omega)]; exact M.lay_w _ m j M.part_u
        have w1 : IntKind.i64.wrap (2 * (n : Int)) = 2 * (n : Int) := wrap64 (by omega) (by omega)
        have hpu : (wc (m.part i n)).all (S.val h.length 0) = true := wc_val _ _ _
        simp (config := { maxSteps := 10000000 }) only [EV1, EV2, EV3, EV4, EV5, EV6, addT, istep, lenR_sl, lenR_ns, lenR_es, pickR, putD, bin1R, un1R, slcR, bnd, capsOf, fillP, S_plain, V_plain, V.cells, S_known, V_known, C.v, blk, setL, setH, eqS, eq1, cmpS, cmp1, isNil, popTo, killT, setT, leT, V.below, C.below, S_below, R.below, V.val, C.val, S_val, R.val, R.takes, vals, shows, List.any_cons, List.any_nil, unnamed, V.kill, V.names, C.names, S_names, R.names, List.set, List.replicate, ↓q_cond_t, ↓q_cond_f, if_true, if_false, reduceCtorEq, rvals, rvC, result, C_known, V.noL, C.noL, S_noL, R.noL, Option.map, true_and, and_true, ge_iff_le, gt_iff_lt, implies_true, q_ite_t, q_ite_f, beq_iff_eq, bne_iff_ne, q_ne, Nat.reduceAdd, Nat.reducePow, Int.reducePow, Nat.reduceMul, Nat.reduceSub, Nat.reduceLeDiff, Nat.reduceLT, Nat.reduceEqDiff, Int.reduceNeg, Int.reduceLT, Int.reduceLE, Int.reduceEq, Int.reduceNe, Int.reduceAdd, Int.reduceSub, Int.reduceMul, Int.reduceToNat, Int.reduceBEq, Int.reduceBNe, df28, TSp, spanG, memF_eq H, spanM, setM_self H, hx, hy, H.ha, H.hb, H.ha', H.hb', MW, MB, hcl, ho, hp, c5, c6, hpart, hsub, hmin, hlay, wc_known, wc_takes, wc_all, w1, Int.toNat_natCast, put, ho2, hp2]
        refine cast (congrArg (K _) ?_) hS
        simp only [setM, MW, MB, M.copy, M.tick, M.lay_len, M.lay_n]
        try rw [List.set_comm _ _ H.ne]
  · exact hS.elim

theorem rfill_snd : Snd Try.prog 62 (FSpec.of fillG) := snd_run TSp_snd mixed Try.func62 dc62 100 fun args h K hc hS => by
  obtain ⟨a, b, m, rest, rfl, H, hS1⟩ := memF_spec hS
  clear hS
  have hS := hS1
  clear hS1
  unfold fillM at hS
  split at hS
  · rename_i x k v
    simp only [spec_ob, spec_ok, spec_br, setM_self H] at hS
    obtain ⟨hv, hS⟩ := hS
    cases hh : m.has x k with
    | true =>
      have hS := hS.1 hh
      obtain ⟨i, j, rfl, rfl, hij⟩ := M.has_nat hh
      simp only [Int.toNat_natCast] at hS
      have hl := m.l
      simp (config := { maxSteps := 10000000 }) only [EV1, EV2, EV3, EV4, EV5, EV6, addT, istep, lenR_sl, lenR_ns, lenR_es, pickR, putD, bin1R, un1R, slcR, bnd, capsOf, fillP, S_plain, V_plain, V.cells, S_known, V_known, C.v, blk, setL, setH, eqS, eq1, cmpS, cmp1, isNil, popTo, killT, setT, leT, V.below, C.below, S_below, R.below, V.val, C.val, S_val, R.val, R.takes, vals, shows, List.any_cons, List.any_nil, unnamed, V.kill, V.names, C.names, S_names, R.names, List.set, List.replicate, ↓q_cond_t, ↓q_cond_f, if_true, if_false, reduceCtorEq, rvals, rvC, result, C_known, V.noL, C.noL, S_noL, R.noL, Option.map, true_and, and_true, ge_iff_le, gt_iff_lt, implies_true, q_ite_t, q_ite_f, beq_iff_eq, bne_iff_ne, q_ne, Nat.reduceAdd, Nat.reducePow, Int.reducePow, Nat.reduceMul, Nat.reduceSub, Nat.reduceLeDiff, Nat.reduceLT, Nat.reduceEqDiff, Int.reduceNeg, Int.reduceLT, Int.reduceLE, Int.reduceEq, Int.reduceNe, Int.reduceAdd, Int.reduceSub, Int.reduceMul, Int.reduceToNat, Int.reduceBEq, Int.reduceBNe, df62, TSp, thereG, memF_eq H, thereM, setM_self H, hh, Int.toNat_natCast]
      refine loop_rule (α := Nat) [10, 17, 18, 19, 20, 21, 22, 23, 24, 25, 26, 27, 28, 29, 30] (fun q => [(10, .s (.i .i64 q))]) (fun _ => []) (fun q => h.set b ⟨.rw, wc (m.fill i v q).w, m.w.length⟩) (fun q => q ≤ j) (fun q => j - q) 0 (by omega) ?_ ?_
      · simp only [M.fill]
        rw [show (⟨.rw, wc m.w, m.w.length⟩ : Blk) = MW m from rfl, set_self H.hb]
        refine Wk.less ?_
        simp (config := { maxSteps := 10000000 }) only [EV1, EV2, EV3, EV4, EV5, EV6, addT, istep, lenR_sl, lenR_ns, lenR_es, pickR, putD, bin1R, un1R, slcR, bnd, capsOf, fillP, S_plain, V_plain, V.cells, S_known, V_known, C.v, blk, setL, setH, eqS, eq1, cmpS, cmp1, isNil, popTo, killT, setT, leT, V.below, C.below, S_below, R.below, V.val, C.val, S_val, R.val, R.takes, vals, shows, List.any_cons, List.any_nil, unnamed, V.kill, V.names, C.names, S_names, R.names, List.set, List.replicate, ↓q_cond_t, ↓q_cond_f, if_true, if_false, reduceCtorEq, rvals, rvC, result, C_known, V.noL, C.noL, S_noL, R.noL, Option.map, true_and, and_true, ge_iff_le, gt_iff_lt, implies_true, q_ite_t, q_ite_f, beq_iff_eq, bne_iff_ne, q_ne, Nat.reduceAdd, Nat.reducePow, Int.reducePow, Nat.reduceMul, Nat.reduceSub, Nat.reduceLeDiff, Nat.reduceLT, Nat.reduceEqDiff, Int.reduceNeg, Int.reduceLT, Int.reduceLE, Int.reduceEq, Int.reduceNe, Int.reduceAdd, Int.reduceSub, Int.reduceMul, Int.reduceToNat, Int.reduceBEq, Int.reduceBNe, q_cast, Int.natCast_zero]
      · rintro X q hq IH
        have ha := H.ha'
        rcases Nat.lt_or_ge q j with h1 | h1
        · obtain ⟨d1, d2, d3, d4⟩ := idx h1 (by omega)
          have c3 : (h.set b ⟨BK.rw, wc (m.fill i v q).w, m.w.length⟩)[b]? = some ⟨BK.rw, wc (m.fill i v q).w, m.w.length⟩ := set_hit H.hb
          have c4 : i + q + 1 ≤ (wc (m.fill i v q).w).length := by rw [wc_len, M.fill_len]; omega
          have c5 : ((wc (m.fill i v q).w).set (i + q) (S.i .u64 v)) = wc (m.fill i v (q + 1)).w := by rw [wc_set]; simp only [M.fill, M.put, uw_of hv]
          have w1 : IntKind.i64.wrap ((i : Int) + q) = ((i + q : Nat) : Int) := by rw [wrap64] <;> omega
          have d5 : ((i + q : Nat) : Int) < m.w.length := by omega
          have d6 : (0 : Int) ≤ ((i + q : Nat) : Int) := by omega
          refine run_sound (Tab.ok_Γ _) 100 _ _ _ _ ?_
          simp (config := { maxSteps := 10000000 }) only [EV1, EV2, EV3, EV4, EV5, EV6, addT, istep, lenR_sl, lenR_ns, lenR_es, pickR, putD, bin1R, un1R, slcR, bnd, capsOf, fillP, S_plain, V_plain, V.cells, S_known, V_known, C.v, blk, setL, setH, eqS, eq1, cmpS, cmp1, isNil, popTo, killT, setT, leT, V.below, C.below, S_below, R.below, V.val, C.val, S_val, R.val, R.takes, vals, shows, List.any_cons, List.any_nil, unnamed, V.kill, V.names, C.names, S_names, R.names, List.set, List.replicate, ↓q_cond_t, ↓q_cond_f, if_true, if_false, reduceCtorEq, rvals, rvC, result, C_known, V.noL, C.noL, S_noL, R.noL, Option.map, true_and, and_true, ge_iff_le, gt_iff_lt, implies_true, q_ite_t, q_ite_f, beq_iff_eq, bne_iff_ne, q_ne, Nat.reduceAdd, Nat.reducePow, Int.reducePow, Nat.reduceMul, Nat.reduceSub, Nat.reduceLeDiff, Nat.reduceLT, Nat.reduceEqDiff, Int.reduceNeg, Int.reduceLT, Int.reduceLE, Int.reduceEq, Int.reduceNe, Int.reduceAdd, Int.reduceSub, Int.reduceMul, Int.reduceToNat, Int.reduceBEq, Int.reduceBNe, d1, d2, d3, d4, d5, d6, w1, c3, ha, MB, MW, c4, Int.toNat_natCast, put, c5, List.set_set]
          exact IH (q + 1) _ (by omega) (by omega) (Wk.same rfl rfl (by simp (config := { maxSteps := 10000000 }) only [EV1, EV2, EV3, EV4, EV5, EV6, addT, istep, lenR_sl, lenR_ns, lenR_es, pickR, putD, bin1R, un1R, slcR, bnd, capsOf, fillP, S_plain, V_plain, V.cells, S_known, V_known, C.v, blk, setL, setH, eqS, eq1, cmpS, cmp1, isNil, popTo, killT, setT, leT, V.below, C.below, S_below, R.below, V.val, C.val, S_val, R.val, R.takes, vals, shows, List.any_cons, List.any_nil, unnamed, V.kill, V.names, C.names, S_names, R.names, List.set, List.replicate, ↓q_cond_t, ↓q_cond_f, if_true, if_false, reduceCtorEq, rvals, rvC, result, C_known, V.noL, C.noL, S_noL, R.noL, Option.map, true_and, and_true, ge_iff_le, gt_iff_lt, implies_true, q_ite_t, q_ite_f, beq_iff_eq, bne_iff_ne, q_ne, Nat.reduceAdd, Nat.reducePow, Int.reducePow, Nat.reduceMul, Nat.reduceSub, Nat.reduceLeDiff, Nat.reduceLT, Nat.reduceEqDiff, Int.reduceNeg, Int.reduceLT, Int.reduceLE, Int.reduceEq, Int.reduceNe, Int.reduceAdd, Int.reduceSub, Int.reduceMul, Int.reduceToNat, Int.reduceBEq, Int.reduceBNe]))
        · have : q = j := by omega
          subst this
          refine run_sound (Tab.ok_Γ _) 100 _ _ _ _ ?_
          simp (config := { maxSteps := 10000000 }) only [EV1, EV2, EV3, EV4, EV5, EV6, addT, istep, lenR_sl, lenR_ns, lenR_es, pickR, putD, bin1R, un1R, slcR, bnd, capsOf, fillP, S_plain, V_plain, V.cells, S_known, V_known, C.v, blk, setL, setH, eqS, eq1, cmpS, cmp1, isNil, popTo, killT, setT, leT, V.below, C.below, S_below, R.below, V.val, C.val, S_val, R.val, R.takes, vals, shows, List.any_cons, List.any_nil, unnamed, V.kill, V.names, C.names, S_names, R.names, List.set, List.replicate, ↓q_cond_t, ↓q_cond_f, if_true, if_false, reduceCtorEq, rvals, rvC, result, C_known, V.noL, C.noL, S_noL, R.noL, Option.map, true_and, and_true, ge_iff_le, gt_iff_lt, implies_true, q_ite_t, q_ite_f, beq_iff_eq, bne_iff_ne, q_ne, Nat.reduceAdd, Nat.reducePow, Int.reducePow, Nat.reduceMul, Nat.reduceSub, Nat.reduceLeDiff, Nat.reduceLT, Nat.reduceEqDiff, Int.reduceNeg, Int.reduceLT, Int.reduceLE, Int.reduceEq, Int.reduceNe, Int.reduceAdd, Int.reduceSub, Int.reduceMul, Int.reduceToNat, Int.reduceBEq, Int.reduceBNe, Int.lt_irrefl, ha, MB]
          refine cast (congrArg (K _) ?_) hS
          simp only [setM]
          rw [List.set_comm _ _ H.ne]
          simp only [MW, MB, M.tick, M.fill_len, M.fill_n]
    | false =>
      have hS := hS.2 hh
      simp (config := { maxSteps := 10000000 }) only [EV1, EV2, EV3, EV4, EV5, EV6, addT, istep, lenR_sl, lenR_ns, lenR_es, pickR, putD, bin1R, un1R, slcR, bnd, capsOf, fillP, S_plain, V_plain, V.cells, S_known, V_known, C.v, blk, setL, setH, eqS, eq1, cmpS, cmp1, isNil, popTo, killT, setT, leT, V.below, C.below, S_below, R.below, V.val, C.val, S_val, R.val, R.takes, vals, shows, List.any_cons, List.any_nil, unnamed, V.kill, V.names, C.names, S_names, R.names, List.set, List.replicate, ↓q_cond_t, ↓q_cond_f, if_true, if_false, reduceCtorEq, rvals, rvC, result, C_known, V.noL, C.noL, S_noL, R.noL, Option.map, true_and, and_true, ge_iff_le, gt_iff_lt, implies_true, q_ite_t, q_ite_f, beq_iff_eq, bne_iff_ne, q_ne, Nat.reduceAdd, Nat.reducePow, Int.reducePow, Nat.reduceMul, Nat.reduceSub, Nat.reduceLeDiff, Nat.reduceLT, Nat.reduceEqDiff, Int.reduceNeg, Int.reduceLT, Int.reduceLE, Int.reduceEq, Int.reduceNe, Int.reduceAdd, Int.reduceSub, Int.reduceMul, Int.reduceToNat, Int.reduceBEq, Int.reduceBNe, df62, TSp, thereG, memF_eq H, thereM, setM_self H, hh]
      exact hS
  · exact hS.elim
end Go.Proofs.Yteeeidldknlblaa

/- The machine's memory: plain facts of what is laid, filled, copied. -/
namespace Go.Proofs.Yteeeidldknlblaa
open Go.D
set_option linter.all false
set_option maxRecDepth 100000
set_option maxHeartbeats 4000000

theorem M.at_lay : ∀ (vs : List Int) (m : M) (o : Nat) (j : Int), (∀ v, v ∈ vs → u64 v) → (m.lay o vs).at j = if o ≤ j.toNat ∧ j.toNat < o + vs.length ∧ j.toNat < m.w.length then nth 0 vs (j.toNat - o) else m.at j
  | [], m, o, j, _ => by rw [M.lay, if_neg (by simp only [List.length_nil]; omega)]
  | v :: vs, m, o, j, hu => by
    rw [M.lay, M.at_lay vs (m.put o v) (o + 1) j (fun x hx => hu x (List.mem_cons_of_mem _ hx)), M.at_put, M.put_len, List.length_cons]
    by_cases h1 : o + 1 ≤ j.toNat ∧ j.toNat < o + 1 + vs.length ∧ j.toNat < m.w.length
    · rw [if_pos h1, if_pos (by omega), show j.toNat - o = (j.toNat - (o + 1)) + 1 by omega]; rfl
    · rw [if_neg h1]
      by_cases h2 : o = j.toNat ∧ o < m.w.length
      · rw [if_pos h2, if_pos (by omega), show j.toNat - o = 0 by omega]
        exact uw_of (hu v (by simp))
      · rw [if_neg h2, if_neg (by omega)]
theorem M.at_part {m : M} {x k i : Nat} (h : i < k) : nth 0 (m.part x k) i = m.at ((x + i : Nat) : Int) := by
  rw [nth_part h]; simp only [M.at, Int.toNat_natCast]
theorem M.at_copy (m : M) (x y k : Nat) (j : Int) (hx : x + k ≤ m.w.length) (hy : y + k ≤ m.w.length) : (m.copy x y k).at j = if y ≤ j.toNat ∧ j.toNat < y + k then m.at ((x + (j.toNat - y) : Nat) : Int) else m.at j := by
  rw [M.copy, M.at_tick, M.at_lay _ _ _ _ M.part_u, M.part_len hx]
  by_cases h : y ≤ j.toNat ∧ j.toNat < y + k
  · rw [if_pos (by omega), if_pos h, M.at_part (by omega)]
  · rw [if_neg (by omega), if_neg h]
theorem M.copy_len (m : M) (x y k : Nat) : (m.copy x y k).w.length = m.w.length := by rw [M.copy, M.tick_len, M.lay_len]
theorem M.copy_n (m : M) (x y k : Nat) : (m.copy x y k).n = IntKind.i64.wrap (m.n + 2 * (k : Int)) := by rw [M.copy]; simp only [M.tick, M.lay_n]
theorem M.fill_at (m : M) (a : Nat) (x : Int) (j : Int) (k : Nat) (h : a + k ≤ m.w.length) : (m.fill a x k).at j = if a ≤ j.toNat ∧ j.toNat < a + k then uw x else m.at j := by
  rw [M.at_fill]
  by_cases h1 : a ≤ j.toNat ∧ j.toNat < a + k
  · rw [if_pos (by omega), if_pos h1]
  · rw [if_neg (by omega), if_neg h1]
theorem M.tick_wrap (m : M) (j k : Int) : (m.tick j).n = IntKind.i64.wrap (m.n + j) := rfl
theorem wrap_add (a b c : Int) : IntKind.i64.wrap (IntKind.i64.wrap (a + b) + c) = IntKind.i64.wrap (a + (b + c)) := by
  rw [IntKind.wrap_i64, IntKind.wrap_i64, IntKind.wrap_i64]; omega
/-- Words alone. -/
theorem M.w_ext {m k : M} (hl : m.w.length = k.w.length) (h : ∀ i : Nat, i < m.w.length → m.at i = k.at i) : m.w = k.w := by
  refine List.ext_getElem hl fun i h1 h2 => ?_
  have := h i h1
  simp only [M.at, Int.toNat_natCast, nth_eq h1, nth_eq h2] at this
  exact this
/-- Halves. -/
theorem M.fill_halves {m : M} {a c k : Nat} {x : Int} (hk : c ≤ k) (h : a + k ≤ m.w.length) : ((((m.fill a x c).tick c).fill (a + c) x (k - c)).tick ((k - c : Nat) : Int)).w = ((m.fill a x k).tick k).w ∧ ((((m.fill a x c).tick c).fill (a + c) x (k - c)).tick ((k - c : Nat) : Int)).n = ((m.fill a x k).tick k).n := by
  refine ⟨M.w_ext (by simp only [M.tick_len, M.fill_len]) fun i hi => ?_, ?_⟩
  · simp only [M.tick_len, M.fill_len] at hi
    rw [M.at_tick, M.at_tick, M.fill_at _ _ _ _ _ (by rw [M.tick_len, M.fill_len]; omega), M.at_tick, M.fill_at _ _ _ _ _ (by omega), M.fill_at _ _ _ _ _ h]
    simp only [Int.toNat_natCast]
    by_cases h1 : a + c ≤ i ∧ i < a + c + (k - c)
    · rw [if_pos h1, if_pos (by omega)]
    · rw [if_neg h1]
      by_cases h2 : a ≤ i ∧ i < a + c
      · rw [if_pos h2, if_pos (by omega)]
      · rw [if_neg h2, if_neg (by omega)]
  · simp only [M.tick, M.fill_n]
    rw [wrap_add]
    congr 1; omega
theorem M.copy_halves {m : M} {x y c k : Nat} (hk : c ≤ k) (hx : x + k ≤ m.w.length) (hy : y + k ≤ m.w.length) (ha : y + k ≤ x ∨ x + k ≤ y) :
    ((m.copy x y c).copy (x + c) (y + c) (k - c)).w = (m.copy x y k).w ∧ ((m.copy x y c).copy (x + c) (y + c) (k - c)).n = (m.copy x y k).n := by
  refine ⟨M.w_ext (by simp only [M.copy_len]) fun i hi => ?_, ?_⟩
  · rw [M.at_copy _ _ _ _ _ (by rw [M.copy_len]; omega) (by rw [M.copy_len]; omega), M.at_copy _ _ _ _ _ (by omega) (by omega), M.at_copy _ _ _ _ _ (by omega) (by omega), M.at_copy _ _ _ _ _ hx hy]
    simp only [Int.toNat_natCast]
    by_cases h1 : y + c ≤ i ∧ i < y + c + (k - c)
    · rw [if_pos h1, if_neg (by omega), if_pos (by omega)]
      congr 2; omega
    · rw [if_neg h1]
      by_cases h2 : y ≤ i ∧ i < y + c
      · rw [if_pos h2, if_pos (by omega)]
      · rw [if_neg h2, if_neg (by omega)]
  · rw [M.copy_n, M.copy_n, M.copy_n, wrap_add]
    congr 1; omega

/-! ### the specs without choices -/
def M.copyE (m : M) (x y k : Int) : Int := if m.has x k && m.has y k then 0 else 20
def M.copyX (m : M) (x y k : Int) : M := if m.has x k && m.has y k then m.copy x.toNat y.toNat k.toNat else m
def M.fillE (m : M) (x k : Int) : Int := if m.has x k then 0 else 20
def M.fillX (m : M) (x k v : Int) : M := if m.has x k then (m.fill x.toNat v k.toNat).tick k else m
def M.readE (m : M) (x : Int) : Int := if m.has x 1 then 0 else 20
def M.readV (m : M) (x : Int) : Int := if m.has x 1 then m.at x else 0
def M.readX (m : M) (x : Int) : M := if m.has x 1 then m.tick 1 else m
def M.writeX (m : M) (x v : Int) : M := if m.has x 1 then (m.put x.toNat v).tick 1 else m
def copy2M (b : Nat) (m : M) (st : M → List Blk) : List V → Res
  | [.s (.i .i64 x), .s (.i .i64 y), .s (.i .i64 k)] => .ok (.s (.i .i64 (m.copyE x y k))) [] (st (m.copyX x y k))
  | _ => .bad
noncomputable def copy2G := memF copy2M
def fill2M (b : Nat) (m : M) (st : M → List Blk) : List V → Res
  | [.s (.i .i64 x), .s (.i .i64 k), .s (.i .u64 v)] => .ob (u64 v) (.ok (.s (.i .i64 (m.fillE x k))) [] (st (m.fillX x k v)))
  | _ => .bad
noncomputable def fill2G := memF fill2M
def read2M (b : Nat) (m : M) (st : M → List Blk) : List V → Res
  | [.s (.i .i64 x)] => .ok (.tup [.s (.i .u64 (m.readV x)), .s (.i .i64 (m.readE x))]) [] (st (m.readX x))
  | _ => .bad
noncomputable def read2G := memF read2M
def write2M (b : Nat) (m : M) (st : M → List Blk) : List V → Res
  | [.s (.i .i64 x), .s (.i .u64 v)] => .ob (u64 v) (.ok (.s (.i .i64 (m.readE x))) [] (st (m.writeX x v)))
  | _ => .bad
noncomputable def write2G := memF write2M
theorem copy2_snd : Snd Try.prog 28 (FSpec.of copy2G) := mcopy_snd.weaken fun args h K hc hS => by
  obtain ⟨a, b, m, rest, rfl, H, hS1⟩ := memF_spec hS
  unfold copy2M at hS1
  split at hS1
  · simp only [spec_ok, M.copyE, M.copyX] at hS1
    show Res.spec K (copyG _ h)
    rw [copyG, memF_eq H]
    simp only [copyM, spec_br, spec_ok]
    exact ⟨fun e => by simpa only [e, if_true] using hS1, fun e => by simpa only [e, Bool.false_eq_true, if_false] using hS1⟩
  · exact hS1.elim
theorem fill2_snd : Snd Try.prog 29 (FSpec.of fill2G) := mfill_snd.weaken fun args h K hc hS => by
  obtain ⟨a, b, m, rest, rfl, H, hS1⟩ := memF_spec hS
  unfold fill2M at hS1
  split at hS1
  · obtain ⟨hv, hS1⟩ := hS1
    simp only [spec_ok, M.fillE, M.fillX] at hS1
    show Res.spec K (fillG _ h)
    rw [fillG, memF_eq H]
    simp only [fillM, spec_ob, spec_br, spec_ok]
    exact ⟨hv, fun e => by simpa only [e, if_true] using hS1, fun e => by simpa only [e, Bool.false_eq_true, if_false] using hS1⟩
  · exact hS1.elim
theorem rfill2_snd : Snd Try.prog 62 (FSpec.of fill2G) := rfill_snd.weaken fun args h K hc hS => by
  obtain ⟨a, b, m, rest, rfl, H, hS1⟩ := memF_spec hS
  unfold fill2M at hS1
  split at hS1
  · obtain ⟨hv, hS1⟩ := hS1
    simp only [spec_ok, M.fillE, M.fillX] at hS1
    show Res.spec K (fillG _ h)
    rw [fillG, memF_eq H]
    simp only [fillM, spec_ob, spec_br, spec_ok]
    exact ⟨hv, fun e => by simpa only [e, if_true] using hS1, fun e => by simpa only [e, Bool.false_eq_true, if_false] using hS1⟩
  · exact hS1.elim
theorem read2_snd : Snd Try.prog 30 (FSpec.of read2G) := mread_snd.weaken fun args h K hc hS => by
  obtain ⟨a, b, m, rest, rfl, H, hS1⟩ := memF_spec hS
  unfold read2M at hS1
  split at hS1
  · simp only [spec_ok, M.readE, M.readX, M.readV] at hS1
    show Res.spec K (readG _ h)
    rw [readG, memF_eq H]
    simp only [readM, spec_br, spec_ok]
    exact ⟨fun e => by simpa only [e, if_true] using hS1, fun e => by simpa only [e, Bool.false_eq_true, if_false] using hS1⟩
  · exact hS1.elim
theorem rread2_snd : Snd Try.prog 44 (FSpec.of read2G) := rread_snd.weaken fun args h K hc hS => by
  obtain ⟨a, b, m, rest, rfl, H, hS1⟩ := memF_spec hS
  unfold read2M at hS1
  split at hS1
  · simp only [spec_ok, M.readE, M.readX, M.readV] at hS1
    show Res.spec K (readG _ h)
    rw [readG, memF_eq H]
    simp only [readM, spec_br, spec_ok]
    exact ⟨fun e => by simpa only [e, if_true] using hS1, fun e => by simpa only [e, Bool.false_eq_true, if_false] using hS1⟩
  · exact hS1.elim
theorem write2_snd : Snd Try.prog 24 (FSpec.of write2G) := mwrite_snd.weaken fun args h K hc hS => by
  obtain ⟨a, b, m, rest, rfl, H, hS1⟩ := memF_spec hS
  unfold write2M at hS1
  split at hS1
  · obtain ⟨hv, hS1⟩ := hS1
    simp only [spec_ok, M.readE, M.writeX] at hS1
    show Res.spec K (writeG _ h)
    rw [writeG, memF_eq H]
    simp only [writeM, spec_ob, spec_br, spec_ok]
    exact ⟨hv, fun e => by simpa only [e, if_true] using hS1, fun e => by simpa only [e, Bool.false_eq_true, if_false] using hS1⟩
  · exact hS1.elim
theorem rwrite2_snd : Snd Try.prog 61 (FSpec.of write2G) := rwrite_snd.weaken fun args h K hc hS => by
  obtain ⟨a, b, m, rest, rfl, H, hS1⟩ := memF_spec hS
  unfold write2M at hS1
  split at hS1
  · obtain ⟨hv, hS1⟩ := hS1
    simp only [spec_ok, M.readE, M.writeX] at hS1
    show Res.spec K (writeG _ h)
    rw [writeG, memF_eq H]
    simp only [writeM, spec_ob, spec_br, spec_ok]
    exact ⟨hv, fun e => by simpa only [e, if_true] using hS1, fun e => by simpa only [e, Bool.false_eq_true, if_false] using hS1⟩
  · exact hS1.elim
end Go.Proofs.Yteeeidldknlblaa

/- The machine's memory: more facts for use: new memories among the blocks, Load without choices. -/
namespace Go.Proofs.Yteeeidldknlblaa
open Go.D
set_option linter.all false
set_option maxRecDepth 100000
set_option maxHeartbeats 4000000

theorem memF_newA {f : Nat → M → (M → List Blk) → List V → Res} {h X : List Blk} {m : M} {rest : List V} : memF f (.s (.p (.g h.length) 0) :: rest) (memH h m ++ X) = f (h.length + 1) m (fun m => memH h m ++ X) rest := by
  rw [memF_app0 (memH_is h m), memH_fun]
theorem memF_new1A {f : Nat → M → (M → List Blk) → List V → Res} {h X : List Blk} {m k : M} {rest : List V} : memF f (.s (.p (.g h.length) 0) :: rest) (memH (memH h m) k ++ X) = f (h.length + 1) m (fun m => memH (memH h m) k ++ X) rest := by
  rw [memF_app0 (memH_is1 h m k), show setM (memH (memH h m) k) h.length (h.length + 1) = fun m => memH (memH h m) k from funext (memH_set1 h m k)]
theorem memF_new2A {f : Nat → M → (M → List Blk) → List V → Res} {h X : List Blk} {m k : M} {rest : List V} : memF f (.s (.p (.g (h.length + 2)) 0) :: rest) (memH (memH h m) k ++ X) = f (h.length + 3) k (fun k => memH (memH h m) k ++ X) rest := by
  rw [memF_app0 (memH_is2 h m k), show setM (memH (memH h m) k) (h.length + 2) (h.length + 3) = memH (memH h m) from funext (memH_set2 h m k)]

section
variable {h X : List Blk} {m : M} {k : Nat}
theorem mg0 : (memH h m ++ X)[h.length + 2]? = X[0]? := by rw [List.getElem?_append_right (by rw [memH_len]; omega), memH_len, Nat.sub_self]
theorem mg1 : (memH h m ++ X)[h.length + 2 + k]? = X[k]? := by rw [List.getElem?_append_right (by rw [memH_len]; omega), memH_len, Nat.add_sub_cancel_left]
theorem mg2 : (memH h m ++ X)[h.length + 2 + 1 + k]? = X[k + 1]? := by
  rw [List.getElem?_append_right (by rw [memH_len]; omega), memH_len]
  congr 1; omega
theorem mt1 : (memH h m ++ X).take (h.length + 2 + k) = memH h m ++ X.take k := by
  have := app_taken (h := memH h m) (r := X) (n := k)
  rwa [memH_len] at this
theorem md1 : (memH h m ++ X).drop (h.length + 2 + k) = X.drop k := by
  have := app_dropn (h := memH h m) (r := X) (n := k)
  rwa [memH_len] at this
theorem memH_clean (hc : clean h.length h = true) : clean (h.length + 2) (memH h m) = true := by
  refine clean_app hc (by omega) ?_
  simp only [clean, List.all_cons, List.all_nil, Bool.and_true, Bool.and_eq_true, MB, MW, wc_vals]
  simp [vals, S.val, R.val]
theorem memH_cleanA {n : Nat} (hc : clean h.length h = true) (hn : h.length + 2 ≤ n) (hX : clean n X = true) : clean n (memH h m ++ X) = true := clean_app (memH_clean hc) hn hX
theorem listOf_at {H : List Blk} {j c room : Nat} {st : BK} {vs : List Int} {n : Nat} (hj : H[j]? = some ⟨st, wc vs, room⟩) (hs : st ≠ .dead) (hn : vs.length = n) : listOf H (.sl (.g j) 0 n c) = some vs := by
  subst hn; exact listOf_eq (IsList.whole hj hs)
end

theorem take_all {l : List Int} {n : Nat} (h : l.length = n) : l.take n = l := List.take_of_length_le (by omega)
theorem mh2_len {h : List Blk} {m k : M} {X : List Blk} : (memH (memH h m) k ++ X).length = h.length + 2 + 2 + X.length := by rw [List.length_append, memH_len, memH_len]
section
variable {h X : List Blk} {m n : M} {k : Nat}
theorem nh0 : (memH (memH h m) n ++ X)[h.length + 2 + 2]? = X[0]? := by
  have := mg0 (h := memH h m) (m := n) (X := X); rwa [memH_len] at this
theorem nh1 : (memH (memH h m) n ++ X)[h.length + 2 + 2 + k]? = X[k]? := by
  have := mg1 (h := memH h m) (m := n) (X := X) (k := k); rwa [memH_len] at this
theorem nt1 : (memH (memH h m) n ++ X).take (h.length + 2 + 2 + k) = memH (memH h m) n ++ X.take k := by
  have := mt1 (h := memH h m) (m := n) (X := X) (k := k); rwa [memH_len] at this
theorem nd1 : (memH (memH h m) n ++ X).drop (h.length + 2 + 2 + k) = X.drop k := by
  have := md1 (h := memH h m) (m := n) (X := X) (k := k); rwa [memH_len] at this
theorem memH2_app : memH (memH h m) n ++ X = h ++ ([MB (h.length + 1) m, MW m] ++ ([MB (h.length + 2 + 1) n, MW n] ++ X)) := by
  show h ++ [_, _] ++ [MB ((h ++ [_, _]).length + 1) n, _] ++ X = _
  simp
end

section
variable {h X : List Blk} {m n m' n' : M} {k : Nat} {B : Blk}
theorem nh2 : (memH (memH h m) n ++ (B :: X))[h.length + 2 + 2 + 1 + k]? = X[k]? := by
  rw [List.getElem?_append_right (by rw [memH_len, memH_len]; omega), memH_len, memH_len]
  rw [show h.length + 2 + 2 + 1 + k - (h.length + 2 + 2) = k + 1 by omega]; rfl
theorem nhl {j : Nat} (hj : j < h.length) : (memH (memH h m) n ++ X)[j]? = h[j]? := by rw [memH2_app, List.getElem?_append_left hj]
theorem memOf_1 : memOf (memH (memH h m) n ++ X) h.length = some (h.length + 1, m) := memOf_eq (memH_is1 h m n).app
theorem memOf_2 : memOf (memH (memH h m) n ++ X) (h.length + 2) = some (h.length + 3, n) := memOf_eq (memH_is2 h m n).app
theorem setM_1 : setM (memH (memH h m) n ++ X) h.length (h.length + 1) m' = memH (memH h m') n ++ X := by rw [setM_app (memH_is1 h m n), memH_set1]
theorem setM_2 : setM (memH (memH h m) n ++ X) (h.length + 2) (h.length + 3) n' = memH (memH h m) n' ++ X := by rw [setM_app (memH_is2 h m n), memH_set2]
theorem clean_both {c : Nat} (hc : clean c (memH (memH h m) n ++ X) = true) (hl : h.length + 4 ≤ c) : clean c (memH (memH h m') n' ++ X) = true := by
  rw [memH2_app] at hc ⊢
  simp only [clean, List.all_append, List.all_cons, List.all_nil, Bool.and_eq_true, Bool.and_true] at hc ⊢
  obtain ⟨h1, _, _, h2⟩ := hc
  refine ⟨h1, ⟨?_, wc_vals _ _ _⟩, ⟨?_, wc_vals _ _ _⟩, h2⟩
  · simp [MB, vals, S.val, R.val]; omega
  · simp [MB, vals, S.val, R.val]; omega
end

def M.loadE (m : M) (x : Int) (vs : List Int) : Int := if m.has x vs.length then 0 else 20
def M.loadX (m : M) (x : Int) (vs : List Int) : M := if m.has x vs.length then m.lay x.toNat vs else m
noncomputable def load2G : List V → List Blk → Res
  | [.s (.p (.g a) 0), .s (.i .i64 x), .s s], h => match memOf h a, listOf h s with
    | some (b, m), some vs => .ob (apartS b s ∧ ∀ v, v ∈ vs → u64 v) (.ok (.s (.i .i64 (m.loadE x vs))) [] (setM h a b (m.loadX x vs)))
    | _, _ => .bad
  | _, _ => .bad

theorem load2_snd : Snd Try.prog 27 (FSpec.of load2G) := mload_snd.weaken fun args h K hc hS => by
  have hS : (load2G args h).spec K := hS
  unfold load2G at hS
  split at hS
  · rename_i a x s
    split at hS
    · rename_i b m vs e1 e2
      obtain ⟨hp, hS⟩ := hS
      simp only [spec_ok, M.loadE, M.loadX] at hS
      show Res.spec K (loadG _ h)
      simp only [loadG, e1, e2, spec_ob, spec_br, spec_ok]
      refine ⟨hp, fun e => ?_, fun e => ?_⟩
      · simpa only [e, if_true] using hS
      · have := setM_self (memOf_some e1)
        simpa only [e, Bool.false_eq_true, if_false, this] using hS
    · exact hS.elim
  · exact hS.elim
theorem rload2_snd : Snd Try.prog 65 (FSpec.of load2G) := rload_snd.weaken fun args h K hc hS => by
  have hS : (load2G args h).spec K := hS
  unfold load2G at hS
  split at hS
  · rename_i a x s
    split at hS
    · rename_i b m vs e1 e2
      obtain ⟨hp, hS⟩ := hS
      simp only [spec_ok, M.loadE, M.loadX] at hS
      show Res.spec K (loadG _ h)
      simp only [loadG, e1, e2, spec_ob, spec_br, spec_ok]
      refine ⟨hp, fun e => ?_, fun e => ?_⟩
      · simpa only [e, if_true] using hS
      · have := setM_self (memOf_some e1)
        simpa only [e, Bool.false_eq_true, if_false, this] using hS
    · exact hS.elim
  · exact hS.elim

theorem M.loadX_len (m : M) (x : Int) (vs : List Int) : (m.loadX x vs).w.length = m.w.length := by
  unfold M.loadX; split
  · exact M.lay_len _ _ _
  · rfl
end Go.Proofs.Yteeeidldknlblaa

/- Package walk: entries, indices. -/
namespace Go.Proofs.Yteeeidldknlblaa
open Go.D
set_option linter.all false
set_option maxRecDepth 100000
set_option maxHeartbeats 4000000

structure En where
  v : Bool
  l : Bool
  a : Int
  r : Int
def En.c (e : En) : List S := [.b e.v, .b e.l, .i .i64 e.a, .i .i64 e.r]
theorem En.c_len (e : En) : e.c.length = 4 := rfl
def enZ : En := ⟨false, false, 0, 0⟩
theorem En.ext' {e f : En} (h1 : e.v = f.v) (h2 : e.l = f.l) (h3 : e.a = f.a) (h4 : e.r = f.r) : e = f := by
  cases e; cases f; simp only at h1 h2 h3 h4; subst h1; subst h2; subst h3; subst h4; rfl
theorem en_eta (e : En) : (⟨e.v, e.l, e.a, e.r⟩ : En) = e := rfl
/-- May it be? -/
def En.may (e : En) : Bool :=
  match e.v, e.l with
  | false, l => !l && (e.a == 0 && e.r == 0)
  | true, true => decide (16 ≤ e.a ∧ e.a ≤ 65520 ∧ e.a % 16 = 0 ∧ 0 ≤ e.r ∧ e.r ≤ 3)
  | true, false => decide (8 ≤ e.a ∧ e.a ≤ 65528 ∧ e.a % 8 = 0 ∧ e.r = 0)
def bI (b : Bool) : Int := if b then 1 else 0
def En.w (e : En) : Int := e.a * 65536 + e.r * 4 + (bI e.v + 2 * bI e.l)
/-- What a word says. -/
def enOf (w : Int) : En := ⟨decide (w % 2 = 1), decide (w / 2 % 2 = 1), w / 65536 % 65536, w / 4 % 4⟩
def enB (w : Int) : Bool := (enOf w).may && decide ((enOf w).w = w)
theorem En.w_uu {e : En} (h : e.may = true) : u64 e.w ∧ 0 ≤ e.a ∧ e.a ≤ 65528 ∧ 0 ≤ e.r ∧ e.r ≤ 3 := by
  obtain ⟨v, l, a, r⟩ := e
  cases v <;> cases l <;> simp [En.may, En.w, bI, u64] at h ⊢ <;> omega
theorem En.back {e : En} (h : e.may = true) : enOf e.w = e := by
  obtain ⟨v, l, a, r⟩ := e
  cases v <;> cases l <;> simp [En.may] at h
  all_goals refine En.ext' ?_ ?_ ?_ ?_ <;> simp [enOf, En.w, bI] <;> omega
theorem En.backB {e : En} (h : e.may = true) : enB e.w = true := by
  simp only [enB, En.back h, h, decide_true, Bool.and_self]

/-! ### bits -/
theorem u64_and_mask {w : Int} (hw : u64 w) {k : Nat} (hk : k ≤ 64) {m : Int} (hm : m = ((2 ^ k - 1 : Nat) : Int)) : bits .and .u64 w m = w % (2 ^ k : Nat) := by
  obtain ⟨n, rfl, hn⟩ := hw.nat
  have hp : 2 ^ k ≤ 18446744073709551616 := by have := pow_le64 (k := 0) (n := k) (by omega); simpa using this
  rw [hm, bits_and_u64_nat n _ hn (by have := Nat.two_pow_pos k; omega), Nat.and_two_pow_sub_one_eq_mod, Int.natCast_emod]
theorem and1 {w : Int} (hw : u64 w) : bits .and .u64 w 1 = w % 2 := u64_and_mask hw (k := 1) (by omega) rfl
theorem and3 {w : Int} (hw : u64 w) : bits .and .u64 w 3 = w % 4 := u64_and_mask hw (k := 2) (by omega) rfl
theorem and7 {w : Int} (hw : u64 w) : bits .and .u64 w 7 = w % 8 := u64_and_mask hw (k := 3) (by omega) rfl
theorem and16 {w : Int} (hw : u64 w) : bits .and .u64 w 65535 = w % 65536 := u64_and_mask hw (k := 16) (by omega) rfl
theorem and2 {w : Int} (hw : u64 w) : bits .and .u64 w 2 = w / 2 % 2 * 2 := by
  obtain ⟨n, rfl, hn⟩ := hw.nat
  have := bits_and_u64_nat n 2 hn (by omega)
  rw [show ((2 : Nat) : Int) = 2 from rfl] at this
  rw [this]
  have h2 := nat_and_field n 1 1
  simp only [Nat.reducePow, Nat.reduceSub, Nat.reduceMul] at h2
  rw [h2]; omega
/-- Bits that are apart are added. -/
theorem u64_or_add {a b : Int} {k : Nat} (ha : u64 a) (hb : 0 ≤ b) (hk : b < (2 ^ k : Nat)) (hd : a % (2 ^ k : Nat) = 0) (hk64 : k ≤ 64) : bits .or .u64 a b = a + b := by
  obtain ⟨n, rfl, hn⟩ := ha.nat
  obtain ⟨m, rfl⟩ : ∃ m : Nat, b = m := ⟨b.toNat, by omega⟩
  have hm : m < 2 ^ k := by omega
  have hp : 2 ^ k ≤ 18446744073709551616 := by have := pow_le64 (k := 0) (n := k) (by omega); simpa using this
  rw [bits_or_u64_nat n m hn (by omega)]
  obtain ⟨q, hq⟩ : ∃ q, n = 2 ^ k * q := ⟨n / 2 ^ k, by
    have h1 : n % 2 ^ k = 0 := by exact_mod_cast hd
    have := Nat.div_add_mod n (2 ^ k); omega⟩
  rw [hq, ← Nat.two_pow_add_eq_or_of_lt hm]
  simp
theorem or_leaf {a : Int} (ha : u64 a) (h : a % 4 = 1) : bits .or .u64 a 2 = a + 2 := by
  obtain ⟨n, rfl, hn⟩ := ha.nat
  have := bits_or_u64_nat n 2 hn (by omega)
  rw [show ((2 : Nat) : Int) = 2 from rfl] at this
  rw [this]
  have h1 : n % 4 = 1 := by omega
  have e : n = 2 ^ 2 * (n / 4) + 1 := by omega
  have e1 : n ||| 2 = 2 ^ 2 * (n / 4) + 3 := by
    have h2 := Nat.two_pow_add_eq_or_of_lt (i := 2) (b := 1) (by omega) (n / 4)
    have h3 := Nat.two_pow_add_eq_or_of_lt (i := 2) (b := 3) (by omega) (n / 4)
    rw [h3]
    conv => lhs; rw [e, h2, Nat.or_assoc]
    rfl
  rw [e1]; omega

/-! ### package walk -/
def wInG : List V → List Blk → Res
  | [.s (.i .i64 n), .s (.i .i64 a), .s (.i .i64 b), .s (.i .i64 k)], h => .ob (k ≠ 0) (.ok (.s (.b (decide (a ≤ n) && (decide (n ≤ b) && n.tmod k == 0)))) [] h)
  | _, _ => .bad
theorem wIn_snd : Snd Try.prog 70 (FSpec.of wInG) := snd_run (noT_snd _) mixed Try.func70 dc70 100 fun args h K hc hS => by
  unfold wInG at hS
  split at hS
  · simp only [spec_ob, spec_ok] at hS
    obtain ⟨h0, hS⟩ := hS
    simp (config := { maxSteps := 10000000 }) only [EV1, EV2, EV3, EV4, EV5, EV6, addT, istep, lenR_sl, lenR_ns, lenR_es, pickR, putD, bin1R, un1R, slcR, bnd, capsOf, fillP, S_plain, V_plain, V.cells, S_known, V_known, C.v, blk, setL, setH, eqS, eq1, cmpS, cmp1, isNil, popTo, killT, setT, leT, V.below, C.below, S_below, R.below, V.val, C.val, S_val, R.val, R.takes, vals, shows, List.any_cons, List.any_nil, unnamed, V.kill, V.names, C.names, S_names, R.names, List.set, List.replicate, ↓q_cond_t, ↓q_cond_f, if_true, if_false, reduceCtorEq, rvals, rvC, result, C_known, V.noL, C.noL, S_noL, R.noL, Option.map, true_and, and_true, ge_iff_le, gt_iff_lt, implies_true, q_ite_t, q_ite_f, beq_iff_eq, bne_iff_ne, q_ne, Nat.reduceAdd, Nat.reducePow, Int.reducePow, Nat.reduceMul, Nat.reduceSub, Nat.reduceLeDiff, Nat.reduceLT, Nat.reduceEqDiff, Int.reduceNeg, Int.reduceLT, Int.reduceLE, Int.reduceEq, Int.reduceNe, Int.reduceAdd, Int.reduceSub, Int.reduceMul, Int.reduceToNat, Int.reduceBEq, Int.reduceBNe, df70, h0, Bool.and_assoc]
    exact hS
  · exact hS.elim
def TwI : Tab := addT 70 wInG noT
theorem TwI_snd : TwI.Snd Try.prog := addT_snd ok70 wIn_snd (noT_snd _)

def enF (f : En → Res) : List V → Res
  | [.agg [.b v, .b l, .i .i64 a, .i .i64 r]] => f ⟨v, l, a, r⟩
  | _ => .bad
theorem enF_spec {f : En → Res} {args : List V} {K : V → List Blk → Prop} (h : (enF f args).spec K) : ∃ e : En, args = [.agg e.c] ∧ (f e).spec K := by
  unfold enF at h
  split at h
  · exact ⟨_, rfl, h⟩
  · exact h.elim
def wMayG (args : List V) (h : List Blk) : Res := enF (fun e => .ok (.s (.b e.may)) [] h) args
theorem tmod1 (n : Int) : n.tmod 1 = 0 := by simp
theorem tmod_0 {a : Int} {k : Int} (h : 0 ≤ a) : (a.tmod k = 0) = (a % k = 0) := by rw [Int.tmod_eq_emod_of_nonneg h]
theorem may_leaf (a r : Int) : (decide (16 ≤ a) && (decide (a ≤ 65520) && a.tmod 16 == 0) && (decide (0 ≤ r) && decide (r ≤ 3))) = decide (16 ≤ a ∧ a ≤ 65520 ∧ a % 16 = 0 ∧ 0 ≤ r ∧ r ≤ 3) := by
  rw [Bool.eq_iff_iff]
  simp only [Bool.and_eq_true, decide_eq_true_eq, beq_iff_eq]
  by_cases h : 0 ≤ a
  · rw [tmod_0 h]; omega
  · omega
theorem may_table (a r : Int) : (decide (8 ≤ a) && (decide (a ≤ 65528) && a.tmod 8 == 0) && r == 0) = decide (8 ≤ a ∧ a ≤ 65528 ∧ a % 8 = 0 ∧ r = 0) := by
  rw [Bool.eq_iff_iff]
  simp only [Bool.and_eq_true, decide_eq_true_eq, beq_iff_eq]
  by_cases h : 0 ≤ a
  · rw [tmod_0 h]; omega
  · omega
theorem wMay_snd : Snd Try.prog 67 (FSpec.of wMayG) := snd_run TwI_snd mixed Try.func67 dc67 200 fun args h K hc hS => by
  obtain ⟨⟨v, l, a, r⟩, rfl, hR⟩ := enF_spec hS
  clear hS
  simp only [spec_ok] at hR
  simp only [En.c]
  cases v <;> cases l
  all_goals simp only [En.may, ← may_leaf, ← may_table, Bool.not_false, Bool.not_true, Bool.true_and, Bool.false_and] at hR
  all_goals simp (config := { maxSteps := 10000000 }) only [EV1, EV2, EV3, EV4, EV5, EV6, addT, istep, lenR_sl, lenR_ns, lenR_es, pickR, putD, bin1R, un1R, slcR, bnd, capsOf, fillP, S_plain, V_plain, V.cells, S_known, V_known, C.v, blk, setL, setH, eqS, eq1, cmpS, cmp1, isNil, popTo, killT, setT, leT, V.below, C.below, S_below, R.below, V.val, C.val, S_val, R.val, R.takes, vals, shows, List.any_cons, List.any_nil, unnamed, V.kill, V.names, C.names, S_names, R.names, List.set, List.replicate, ↓q_cond_t, ↓q_cond_f, if_true, if_false, reduceCtorEq, rvals, rvC, result, C_known, V.noL, C.noL, S_noL, R.noL, Option.map, true_and, and_true, ge_iff_le, gt_iff_lt, implies_true, q_ite_t, q_ite_f, beq_iff_eq, bne_iff_ne, q_ne, Nat.reduceAdd, Nat.reducePow, Int.reducePow, Nat.reduceMul, Nat.reduceSub, Nat.reduceLeDiff, Nat.reduceLT, Nat.reduceEqDiff, Int.reduceNeg, Int.reduceLT, Int.reduceLE, Int.reduceEq, Int.reduceNe, Int.reduceAdd, Int.reduceSub, Int.reduceMul, Int.reduceToNat, Int.reduceBEq, Int.reduceBNe, df67, TwI, wInG, tmod1, Bool.and_assoc, put, fillP]
  all_goals first | exact hR | (simpa [Bool.and_assoc] using hR)
end Go.Proofs.Yteeeidldknlblaa

/- Package walk, and the document's: Encode, Decode, Index. -/
namespace Go.Proofs.Yteeeidldknlblaa
open Go.D
set_option linter.all false
set_option maxRecDepth 100000
set_option maxHeartbeats 4000000

theorem min2u : min 2 IntKind.u64.bits = 2 := rfl
theorem min16u : min 16 IntKind.u64.bits = 16 := rfl
theorem or00 : bits .or .u64 0 0 = 0 := by decide
def encEG (args : List V) (h : List Blk) : Res := enF (fun e => .br e.may (.ok (.tup [.s (.i .u64 e.w), .s (.i .i64 0)]) [] h) (.ok (.tup [.s (.i .u64 0), .s (.i .i64 10)]) [] h)) args
def TwM : Tab := addT 67 wMayG noT
theorem TwM_snd : TwM.Snd Try.prog := addT_snd ok67 wMay_snd (noT_snd _)
theorem encE_snd : Snd Try.prog 36 (FSpec.of encEG) := snd_run TwM_snd mixed Try.func36 dc36 200 fun args h K hc hS => by
  obtain ⟨⟨v, l, a, r⟩, rfl, hR⟩ := enF_spec hS
  clear hS
  simp only [spec_br, spec_ok] at hR
  simp only [En.c]
  cases hm : (En.mk v l a r).may with
  | false =>
    have hR := hR.2 hm
    simp (config := { maxSteps := 10000000 }) only [EV1, EV2, EV3, EV4, EV5, EV6, addT, istep, lenR_sl, lenR_ns, lenR_es, pickR, putD, bin1R, un1R, slcR, bnd, capsOf, fillP, S_plain, V_plain, V.cells, S_known, V_known, C.v, blk, setL, setH, eqS, eq1, cmpS, cmp1, isNil, popTo, killT, setT, leT, V.below, C.below, S_below, R.below, V.val, C.val, S_val, R.val, R.takes, vals, shows, List.any_cons, List.any_nil, unnamed, V.kill, V.names, C.names, S_names, R.names, List.set, List.replicate, ↓q_cond_t, ↓q_cond_f, if_true, if_false, reduceCtorEq, rvals, rvC, result, C_known, V.noL, C.noL, S_noL, R.noL, Option.map, true_and, and_true, ge_iff_le, gt_iff_lt, implies_true, q_ite_t, q_ite_f, beq_iff_eq, bne_iff_ne, q_ne, Nat.reduceAdd, Nat.reducePow, Int.reducePow, Nat.reduceMul, Nat.reduceSub, Nat.reduceLeDiff, Nat.reduceLT, Nat.reduceEqDiff, Int.reduceNeg, Int.reduceLT, Int.reduceLE, Int.reduceEq, Int.reduceNe, Int.reduceAdd, Int.reduceSub, Int.reduceMul, Int.reduceToNat, Int.reduceBEq, Int.reduceBNe, df36, TwM, wMayG, enF, hm]
    exact hR
  | true =>
    have hR := hR.1 hm
    obtain ⟨_, a1, a2, r1, r2⟩ := En.w_uu hm
    simp only at a1 a2 r1 r2
    have x1 : IntKind.u64.wrap a = a := wrapu a1 (by omega)
    have x2 : IntKind.u64.wrap (a * 65536) = a * 65536 := wrapu (by omega) (by omega)
    have x3 : IntKind.u64.wrap r = r := wrapu r1 (by omega)
    have x4 : IntKind.u64.wrap (r * 4) = r * 4 := wrapu (by omega) (by omega)
    have o1 : bits .or .u64 (a * 65536) (r * 4) = a * 65536 + r * 4 := u64_or_add (k := 16) ⟨by omega, by omega⟩ (by omega) (by omega) (by omega) (by omega)
    have o2 : bits .or .u64 (a * 65536 + r * 4) 1 = a * 65536 + r * 4 + 1 := u64_or_add (k := 2) ⟨by omega, by omega⟩ (by omega) (by omega) (by omega) (by omega)
    have o3 : bits .or .u64 (a * 65536 + r * 4 + 1) 2 = a * 65536 + r * 4 + 1 + 2 := or_leaf ⟨by omega, by omega⟩ (by omega)
    cases v <;> cases l
    · simp (config := { maxSteps := 10000000 }) only [EV1, EV2, EV3, EV4, EV5, EV6, addT, istep, lenR_sl, lenR_ns, lenR_es, pickR, putD, bin1R, un1R, slcR, bnd, capsOf, fillP, S_plain, V_plain, V.cells, S_known, V_known, C.v, blk, setL, setH, eqS, eq1, cmpS, cmp1, isNil, popTo, killT, setT, leT, V.below, C.below, S_below, R.below, V.val, C.val, S_val, R.val, R.takes, vals, shows, List.any_cons, List.any_nil, unnamed, V.kill, V.names, C.names, S_names, R.names, List.set, List.replicate, ↓q_cond_t, ↓q_cond_f, if_true, if_false, reduceCtorEq, rvals, rvC, result, C_known, V.noL, C.noL, S_noL, R.noL, Option.map, true_and, and_true, ge_iff_le, gt_iff_lt, implies_true, q_ite_t, q_ite_f, beq_iff_eq, bne_iff_ne, q_ne, Nat.reduceAdd, Nat.reducePow, Int.reducePow, Nat.reduceMul, Nat.reduceSub, Nat.reduceLeDiff, Nat.reduceLT, Nat.reduceEqDiff, Int.reduceNeg, Int.reduceLT, Int.reduceLE, Int.reduceEq, Int.reduceNe, Int.reduceAdd, Int.reduceSub, Int.reduceMul, Int.reduceToNat, Int.reduceBEq, Int.reduceBNe, df36, TwM, wMayG, enF, hm, x1, x2, x3, x4, o1, o2, o3, min2u, min16u]
      simpa [En.w, bI] using hR
    · simp [En.may] at hm
    · simp (config := { maxSteps := 10000000 }) only [EV1, EV2, EV3, EV4, EV5, EV6, addT, istep, lenR_sl, lenR_ns, lenR_es, pickR, putD, bin1R, un1R, slcR, bnd, capsOf, fillP, S_plain, V_plain, V.cells, S_known, V_known, C.v, blk, setL, setH, eqS, eq1, cmpS, cmp1, isNil, popTo, killT, setT, leT, V.below, C.below, S_below, R.below, V.val, C.val, S_val, R.val, R.takes, vals, shows, List.any_cons, List.any_nil, unnamed, V.kill, V.names, C.names, S_names, R.names, List.set, List.replicate, ↓q_cond_t, ↓q_cond_f, if_true, if_false, reduceCtorEq, rvals, rvC, result, C_known, V.noL, C.noL, S_noL, R.noL, Option.map, true_and, and_true, ge_iff_le, gt_iff_lt, implies_true, q_ite_t, q_ite_f, beq_iff_eq, bne_iff_ne, q_ne, Nat.reduceAdd, Nat.reducePow, Int.reducePow, Nat.reduceMul, Nat.reduceSub, Nat.reduceLeDiff, Nat.reduceLT, Nat.reduceEqDiff, Int.reduceNeg, Int.reduceLT, Int.reduceLE, Int.reduceEq, Int.reduceNe, Int.reduceAdd, Int.reduceSub, Int.reduceMul, Int.reduceToNat, Int.reduceBEq, Int.reduceBNe, df36, TwM, wMayG, enF, hm, x1, x2, x3, x4, o1, o2, o3, min2u, min16u]
      simpa [En.w, bI] using hR
    · simp (config := { maxSteps := 10000000 }) only [EV1, EV2, EV3, EV4, EV5, EV6, addT, istep, lenR_sl, lenR_ns, lenR_es, pickR, putD, bin1R, un1R, slcR, bnd, capsOf, fillP, S_plain, V_plain, V.cells, S_known, V_known, C.v, blk, setL, setH, eqS, eq1, cmpS, cmp1, isNil, popTo, killT, setT, leT, V.below, C.below, S_below, R.below, V.val, C.val, S_val, R.val, R.takes, vals, shows, List.any_cons, List.any_nil, unnamed, V.kill, V.names, C.names, S_names, R.names, List.set, List.replicate, ↓q_cond_t, ↓q_cond_f, if_true, if_false, reduceCtorEq, rvals, rvC, result, C_known, V.noL, C.noL, S_noL, R.noL, Option.map, true_and, and_true, ge_iff_le, gt_iff_lt, implies_true, q_ite_t, q_ite_f, beq_iff_eq, bne_iff_ne, q_ne, Nat.reduceAdd, Nat.reducePow, Int.reducePow, Nat.reduceMul, Nat.reduceSub, Nat.reduceLeDiff, Nat.reduceLT, Nat.reduceEqDiff, Int.reduceNeg, Int.reduceLT, Int.reduceLE, Int.reduceEq, Int.reduceNe, Int.reduceAdd, Int.reduceSub, Int.reduceMul, Int.reduceToNat, Int.reduceBEq, Int.reduceBNe, df36, TwM, wMayG, enF, hm, x1, x2, x3, x4, o1, o2, o3, min2u, min16u]
      refine cast (congrArg (fun x => K (.tup [.s (.i .u64 x), .s (.i .i64 0)]) h) ?_) hR
      simp only [En.w, bI, if_true]; omega

def decEG : List V → List Blk → Res
  | [.s (.i .u64 w)], h => .ob (u64 w) (.br (enB w) (.ok (.tup [.agg (enOf w).c, .s (.i .i64 0)]) [] h) (.ok (.tup [.agg enZ.c, .s (.i .i64 10)]) [] h))
  | _, _ => .bad
def TwE : Tab := addT 36 encEG noT
theorem TwE_snd : TwE.Snd Try.prog := addT_snd ok36 encE_snd (noT_snd _)
theorem decE_snd : Snd Try.prog 38 (FSpec.of decEG) := snd_run TwE_snd mixed Try.func38 dc38 200 fun args h K hc hS => by
  unfold decEG at hS
  split at hS
  · rename_i w
    simp only [spec_ob, spec_br, spec_ok] at hS
    obtain ⟨hu, hS⟩ := hS
    have hu2 := hu
    obtain ⟨h0, h1⟩ := hu2
    have a1 := and1 hu
    have a2 := and2 hu
    have a3 : bits .and .u64 (w / 4) 3 = w / 4 % 4 := and3 ⟨by omega, by omega⟩
    have a4 : bits .and .u64 (w / 65536) 65535 = w / 65536 % 65536 := and16 ⟨by omega, by omega⟩
    have b1 : (w % 2 != 0) = decide (w % 2 = 1) := by rw [Bool.eq_iff_iff]; simp only [bne_iff_ne, decide_eq_true_eq]; omega
    have b2 : (w / 2 % 2 * 2 != 0) = decide (w / 2 % 2 = 1) := by rw [Bool.eq_iff_iff]; simp only [bne_iff_ne, decide_eq_true_eq]; omega
    have i1 : IntKind.i64.wrap (w / 4 % 4) = w / 4 % 4 := wrap64 (by omega) (by omega)
    have i2 : IntKind.i64.wrap (w / 65536 % 65536) = w / 65536 % 65536 := wrap64 (by omega) (by omega)
    simp only [enB, enOf, En.c] at hS
    obtain ⟨v, hv⟩ : ∃ v, decide (w % 2 = 1) = v := ⟨_, rfl⟩
    obtain ⟨l, hl⟩ : ∃ v, decide (w / 2 % 2 = 1) = v := ⟨_, rfl⟩
    obtain ⟨a, ha⟩ : ∃ v, w / 65536 % 65536 = v := ⟨_, rfl⟩
    obtain ⟨r, hr⟩ : ∃ v, w / 4 % 4 = v := ⟨_, rfl⟩
    rw [hr] at i1
    rw [ha] at i2
    simp only [hv, hl, ha, hr] at hS
    cases hm : (En.mk v l a r).may with
    | false =>
      have hS := hS.2 (by rw [hm]; rfl)
      simp (config := { maxSteps := 10000000 }) only [EV1, EV2, EV3, EV4, EV5, EV6, addT, istep, lenR_sl, lenR_ns, lenR_es, pickR, putD, bin1R, un1R, slcR, bnd, capsOf, fillP, S_plain, V_plain, V.cells, S_known, V_known, C.v, blk, setL, setH, eqS, eq1, cmpS, cmp1, isNil, popTo, killT, setT, leT, V.below, C.below, S_below, R.below, V.val, C.val, S_val, R.val, R.takes, vals, shows, List.any_cons, List.any_nil, unnamed, V.kill, V.names, C.names, S_names, R.names, List.set, List.replicate, ↓q_cond_t, ↓q_cond_f, if_true, if_false, reduceCtorEq, rvals, rvC, result, C_known, V.noL, C.noL, S_noL, R.noL, Option.map, true_and, and_true, ge_iff_le, gt_iff_lt, implies_true, q_ite_t, q_ite_f, beq_iff_eq, bne_iff_ne, q_ne, Nat.reduceAdd, Nat.reducePow, Int.reducePow, Nat.reduceMul, Nat.reduceSub, Nat.reduceLeDiff, Nat.reduceLT, Nat.reduceEqDiff, Int.reduceNeg, Int.reduceLT, Int.reduceLE, Int.reduceEq, Int.reduceNe, Int.reduceAdd, Int.reduceSub, Int.reduceMul, Int.reduceToNat, Int.reduceBEq, Int.reduceBNe, df38, TwE, encEG, enF, hm, a1, a2, a3, a4, b1, b2, i1, i2, min2u, min16u, hv, hl, ha, hr, put, fillP]
      exact hS
    | true =>
      by_cases he : (En.mk v l a r).w = w
      · have hS := hS.1 (by rw [hm]; simpa using he)
        have f1 : ((En.mk v l a r).w != w) = false := by simpa using he
        simp (config := { maxSteps := 10000000 }) only [EV1, EV2, EV3, EV4, EV5, EV6, addT, istep, lenR_sl, lenR_ns, lenR_es, pickR, putD, bin1R, un1R, slcR, bnd, capsOf, fillP, S_plain, V_plain, V.cells, S_known, V_known, C.v, blk, setL, setH, eqS, eq1, cmpS, cmp1, isNil, popTo, killT, setT, leT, V.below, C.below, S_below, R.below, V.val, C.val, S_val, R.val, R.takes, vals, shows, List.any_cons, List.any_nil, unnamed, V.kill, V.names, C.names, S_names, R.names, List.set, List.replicate, ↓q_cond_t, ↓q_cond_f, if_true, if_false, reduceCtorEq, rvals, rvC, result, C_known, V.noL, C.noL, S_noL, R.noL, Option.map, true_and, and_true, ge_iff_le, gt_iff_lt, implies_true, q_ite_t, q_ite_f, beq_iff_eq, bne_iff_ne, q_ne, Nat.reduceAdd, Nat.reducePow, Int.reducePow, Nat.reduceMul, Nat.reduceSub, Nat.reduceLeDiff, Nat.reduceLT, Nat.reduceEqDiff, Int.reduceNeg, Int.reduceLT, Int.reduceLE, Int.reduceEq, Int.reduceNe, Int.reduceAdd, Int.reduceSub, Int.reduceMul, Int.reduceToNat, Int.reduceBEq, Int.reduceBNe, df38, TwE, encEG, enF, hm, a1, a2, a3, a4, b1, b2, i1, i2, min2u, min16u, hv, hl, ha, hr, he, f1, put, fillP]
        exact hS
      · have hS := hS.2 (by rw [hm]; simpa using he)
        have f1 : ((En.mk v l a r).w != w) = true := by simpa using he
        simp (config := { maxSteps := 10000000 }) only [EV1, EV2, EV3, EV4, EV5, EV6, addT, istep, lenR_sl, lenR_ns, lenR_es, pickR, putD, bin1R, un1R, slcR, bnd, capsOf, fillP, S_plain, V_plain, V.cells, S_known, V_known, C.v, blk, setL, setH, eqS, eq1, cmpS, cmp1, isNil, popTo, killT, setT, leT, V.below, C.below, S_below, R.below, V.val, C.val, S_val, R.val, R.takes, vals, shows, List.any_cons, List.any_nil, unnamed, V.kill, V.names, C.names, S_names, R.names, List.set, List.replicate, ↓q_cond_t, ↓q_cond_f, if_true, if_false, reduceCtorEq, rvals, rvC, result, C_known, V.noL, C.noL, S_noL, R.noL, Option.map, true_and, and_true, ge_iff_le, gt_iff_lt, implies_true, q_ite_t, q_ite_f, beq_iff_eq, bne_iff_ne, q_ne, Nat.reduceAdd, Nat.reducePow, Int.reducePow, Nat.reduceMul, Nat.reduceSub, Nat.reduceLeDiff, Nat.reduceLT, Nat.reduceEqDiff, Int.reduceNeg, Int.reduceLT, Int.reduceLE, Int.reduceEq, Int.reduceNe, Int.reduceAdd, Int.reduceSub, Int.reduceMul, Int.reduceToNat, Int.reduceBEq, Int.reduceBNe, df38, TwE, encEG, enF, hm, a1, a2, a3, a4, b1, b2, i1, i2, min2u, min16u, hv, hl, ha, hr, he, f1, put, fillP]
        exact hS
  · exact hS.elim

/-! ### the document's -/
theorem rMay_snd : Snd Try.prog 68 (FSpec.of wMayG) := snd_run (noT_snd _) mixed Try.func68 dc68 200 fun args h K hc hS => by
  obtain ⟨⟨v, l, a, r⟩, rfl, hR⟩ := enF_spec hS
  clear hS
  simp only [spec_ok] at hR
  simp only [En.c]
  have hL : (decide (16 ≤ a) && (decide (a ≤ 65520) && (a.tmod 16 == 0 && (decide (0 ≤ r) && decide (r ≤ 3))))) = decide (16 ≤ a ∧ a ≤ 65520 ∧ a % 16 = 0 ∧ 0 ≤ r ∧ r ≤ 3) := by rw [← may_leaf]; simp only [Bool.and_assoc]
  have hT : (decide (8 ≤ a) && (decide (a ≤ 65528) && (a.tmod 8 == 0 && r == 0))) = decide (8 ≤ a ∧ a ≤ 65528 ∧ a % 8 = 0 ∧ r = 0) := by rw [← may_table]; simp only [Bool.and_assoc]
  cases v <;> cases l
  all_goals simp only [En.may, ← hL, ← hT, Bool.not_false, Bool.not_true, Bool.true_and, Bool.false_and] at hR
  all_goals simp (config := { maxSteps := 10000000 }) only [EV1, EV2, EV3, EV4, EV5, EV6, addT, istep, lenR_sl, lenR_ns, lenR_es, pickR, putD, bin1R, un1R, slcR, bnd, capsOf, fillP, S_plain, V_plain, V.cells, S_known, V_known, C.v, blk, setL, setH, eqS, eq1, cmpS, cmp1, isNil, popTo, killT, setT, leT, V.below, C.below, S_below, R.below, V.val, C.val, S_val, R.val, R.takes, vals, shows, List.any_cons, List.any_nil, unnamed, V.kill, V.names, C.names, S_names, R.names, List.set, List.replicate, ↓q_cond_t, ↓q_cond_f, if_true, if_false, reduceCtorEq, rvals, rvC, result, C_known, V.noL, C.noL, S_noL, R.noL, Option.map, true_and, and_true, ge_iff_le, gt_iff_lt, implies_true, q_ite_t, q_ite_f, beq_iff_eq, bne_iff_ne, q_ne, Nat.reduceAdd, Nat.reducePow, Int.reducePow, Nat.reduceMul, Nat.reduceSub, Nat.reduceLeDiff, Nat.reduceLT, Nat.reduceEqDiff, Int.reduceNeg, Int.reduceLT, Int.reduceLE, Int.reduceEq, Int.reduceNe, Int.reduceAdd, Int.reduceSub, Int.reduceMul, Int.reduceToNat, Int.reduceBEq, Int.reduceBNe, df68, Bool.and_assoc, put, fillP]
  all_goals first | exact hR | (simpa [Bool.and_assoc] using hR)
def TrM : Tab := addT 68 wMayG noT
theorem TrM_snd : TrM.Snd Try.prog := addT_snd ok68 rMay_snd (noT_snd _)
theorem rencE_snd : Snd Try.prog 37 (FSpec.of encEG) := snd_run TrM_snd mixed Try.func37 dc37 200 fun args h K hc hS => by
  obtain ⟨⟨v, l, a, r⟩, rfl, hR⟩ := enF_spec hS
  clear hS
  simp only [spec_br, spec_ok] at hR
  simp only [En.c]
  cases hm : (En.mk v l a r).may with
  | false =>
    have hR := hR.2 hm
    simp (config := { maxSteps := 10000000 }) only [EV1, EV2, EV3, EV4, EV5, EV6, addT, istep, lenR_sl, lenR_ns, lenR_es, pickR, putD, bin1R, un1R, slcR, bnd, capsOf, fillP, S_plain, V_plain, V.cells, S_known, V_known, C.v, blk, setL, setH, eqS, eq1, cmpS, cmp1, isNil, popTo, killT, setT, leT, V.below, C.below, S_below, R.below, V.val, C.val, S_val, R.val, R.takes, vals, shows, List.any_cons, List.any_nil, unnamed, V.kill, V.names, C.names, S_names, R.names, List.set, List.replicate, ↓q_cond_t, ↓q_cond_f, if_true, if_false, reduceCtorEq, rvals, rvC, result, C_known, V.noL, C.noL, S_noL, R.noL, Option.map, true_and, and_true, ge_iff_le, gt_iff_lt, implies_true, q_ite_t, q_ite_f, beq_iff_eq, bne_iff_ne, q_ne, Nat.reduceAdd, Nat.reducePow, Int.reducePow, Nat.reduceMul, Nat.reduceSub, Nat.reduceLeDiff, Nat.reduceLT, Nat.reduceEqDiff, Int.reduceNeg, Int.reduceLT, Int.reduceLE, Int.reduceEq, Int.reduceNe, Int.reduceAdd, Int.reduceSub, Int.reduceMul, Int.reduceToNat, Int.reduceBEq, Int.reduceBNe, df37, TrM, wMayG, enF, hm]
    exact hR
  | true =>
    have hR := hR.1 hm
    obtain ⟨_, a1, a2, r1, r2⟩ := En.w_uu hm
    simp only at a1 a2 r1 r2
    have x1 : IntKind.u64.wrap a = a := wrapu a1 (by omega)
    have x2 : IntKind.u64.wrap (a * 65536) = a * 65536 := wrapu (by omega) (by omega)
    have x3 : IntKind.u64.wrap r = r := wrapu r1 (by omega)
    have x4 : IntKind.u64.wrap (r * 4) = r * 4 := wrapu (by omega) (by omega)
    have x5 : IntKind.u64.wrap (a * 65536 + r * 4) = a * 65536 + r * 4 := wrapu (by omega) (by omega)
    have x6 : IntKind.u64.wrap (a * 65536 + r * 4 + 1) = a * 65536 + r * 4 + 1 := wrapu (by omega) (by omega)
    have x7 : IntKind.u64.wrap (a * 65536 + r * 4 + 1 + 2) = a * 65536 + r * 4 + 1 + 2 := wrapu (by omega) (by omega)
    cases v <;> cases l
    · simp (config := { maxSteps := 10000000 }) only [EV1, EV2, EV3, EV4, EV5, EV6, addT, istep, lenR_sl, lenR_ns, lenR_es, pickR, putD, bin1R, un1R, slcR, bnd, capsOf, fillP, S_plain, V_plain, V.cells, S_known, V_known, C.v, blk, setL, setH, eqS, eq1, cmpS, cmp1, isNil, popTo, killT, setT, leT, V.below, C.below, S_below, R.below, V.val, C.val, S_val, R.val, R.takes, vals, shows, List.any_cons, List.any_nil, unnamed, V.kill, V.names, C.names, S_names, R.names, List.set, List.replicate, ↓q_cond_t, ↓q_cond_f, if_true, if_false, reduceCtorEq, rvals, rvC, result, C_known, V.noL, C.noL, S_noL, R.noL, Option.map, true_and, and_true, ge_iff_le, gt_iff_lt, implies_true, q_ite_t, q_ite_f, beq_iff_eq, bne_iff_ne, q_ne, Nat.reduceAdd, Nat.reducePow, Int.reducePow, Nat.reduceMul, Nat.reduceSub, Nat.reduceLeDiff, Nat.reduceLT, Nat.reduceEqDiff, Int.reduceNeg, Int.reduceLT, Int.reduceLE, Int.reduceEq, Int.reduceNe, Int.reduceAdd, Int.reduceSub, Int.reduceMul, Int.reduceToNat, Int.reduceBEq, Int.reduceBNe, df37, TrM, wMayG, enF, hm, x1, x2, x3, x4, x5]
      simpa [En.w, bI] using hR
    · simp [En.may] at hm
    · simp (config := { maxSteps := 10000000 }) only [EV1, EV2, EV3, EV4, EV5, EV6, addT, istep, lenR_sl, lenR_ns, lenR_es, pickR, putD, bin1R, un1R, slcR, bnd, capsOf, fillP, S_plain, V_plain, V.cells, S_known, V_known, C.v, blk, setL, setH, eqS, eq1, cmpS, cmp1, isNil, popTo, killT, setT, leT, V.below, C.below, S_below, R.below, V.val, C.val, S_val, R.val, R.takes, vals, shows, List.any_cons, List.any_nil, unnamed, V.kill, V.names, C.names, S_names, R.names, List.set, List.replicate, ↓q_cond_t, ↓q_cond_f, if_true, if_false, reduceCtorEq, rvals, rvC, result, C_known, V.noL, C.noL, S_noL, R.noL, Option.map, true_and, and_true, ge_iff_le, gt_iff_lt, implies_true, q_ite_t, q_ite_f, beq_iff_eq, bne_iff_ne, q_ne, Nat.reduceAdd, Nat.reducePow, Int.reducePow, Nat.reduceMul, Nat.reduceSub, Nat.reduceLeDiff, Nat.reduceLT, Nat.reduceEqDiff, Int.reduceNeg, Int.reduceLT, Int.reduceLE, Int.reduceEq, Int.reduceNe, Int.reduceAdd, Int.reduceSub, Int.reduceMul, Int.reduceToNat, Int.reduceBEq, Int.reduceBNe, df37, TrM, wMayG, enF, hm, x1, x2, x3, x4, x5, x6]
      simpa [En.w, bI] using hR
    · simp (config := { maxSteps := 10000000 }) only [EV1, EV2, EV3, EV4, EV5, EV6, addT, istep, lenR_sl, lenR_ns, lenR_es, pickR, putD, bin1R, un1R, slcR, bnd, capsOf, fillP, S_plain, V_plain, V.cells, S_known, V_known, C.v, blk, setL, setH, eqS, eq1, cmpS, cmp1, isNil, popTo, killT, setT, leT, V.below, C.below, S_below, R.below, V.val, C.val, S_val, R.val, R.takes, vals, shows, List.any_cons, List.any_nil, unnamed, V.kill, V.names, C.names, S_names, R.names, List.set, List.replicate, ↓q_cond_t, ↓q_cond_f, if_true, if_false, reduceCtorEq, rvals, rvC, result, C_known, V.noL, C.noL, S_noL, R.noL, Option.map, true_and, and_true, ge_iff_le, gt_iff_lt, implies_true, q_ite_t, q_ite_f, beq_iff_eq, bne_iff_ne, q_ne, Nat.reduceAdd, Nat.reducePow, Int.reducePow, Nat.reduceMul, Nat.reduceSub, Nat.reduceLeDiff, Nat.reduceLT, Nat.reduceEqDiff, Int.reduceNeg, Int.reduceLT, Int.reduceLE, Int.reduceEq, Int.reduceNe, Int.reduceAdd, Int.reduceSub, Int.reduceMul, Int.reduceToNat, Int.reduceBEq, Int.reduceBNe, df37, TrM, wMayG, enF, hm, x1, x2, x3, x4, x5, x6, x7]
      refine cast (congrArg (fun x => K (.tup [.s (.i .u64 x), .s (.i .i64 0)]) h) ?_) hR
      simp only [En.w, bI, if_true]; omega
def TrE : Tab := addT 37 encEG noT
theorem TrE_snd : TrE.Snd Try.prog := addT_snd ok37 rencE_snd (noT_snd _)
theorem rdecE_snd : Snd Try.prog 39 (FSpec.of decEG) := snd_run TrE_snd mixed Try.func39 dc39 200 fun args h K hc hS => by
  unfold decEG at hS
  split at hS
  · rename_i w
    simp only [spec_ob, spec_br, spec_ok] at hS
    obtain ⟨hu, hS⟩ := hS
    have hu2 := hu
    obtain ⟨h0, h1⟩ := hu2
    have q1 : IntKind.u64.wrap (w.tdiv 2) = w / 2 := by rw [Int.tdiv_eq_ediv_of_nonneg h0]; exact wrapu (by omega) (by omega)
    have q2 : IntKind.u64.wrap (w.tdiv 4) = w / 4 := by rw [Int.tdiv_eq_ediv_of_nonneg h0]; exact wrapu (by omega) (by omega)
    have q3 : IntKind.u64.wrap (w.tdiv 65536) = w / 65536 := by rw [Int.tdiv_eq_ediv_of_nonneg h0]; exact wrapu (by omega) (by omega)
    have t1 : w.tmod 2 = w % 2 := Int.tmod_eq_emod_of_nonneg h0
    have t2 : (w / 2).tmod 2 = w / 2 % 2 := Int.tmod_eq_emod_of_nonneg (by omega)
    have t3 : (w / 4).tmod 4 = w / 4 % 4 := Int.tmod_eq_emod_of_nonneg (by omega)
    have t4 : (w / 65536).tmod 65536 = w / 65536 % 65536 := Int.tmod_eq_emod_of_nonneg (by omega)
    have b1 : (w % 2 == 1) = decide (w % 2 = 1) := by rw [Bool.eq_iff_iff]; simp only [beq_iff_eq, decide_eq_true_eq]
    have b2 : (w / 2 % 2 == 1) = decide (w / 2 % 2 = 1) := by rw [Bool.eq_iff_iff]; simp only [beq_iff_eq, decide_eq_true_eq]
    have i1 : IntKind.i64.wrap (w / 4 % 4) = w / 4 % 4 := wrap64 (by omega) (by omega)
    have i2 : IntKind.i64.wrap (w / 65536 % 65536) = w / 65536 % 65536 := wrap64 (by omega) (by omega)
    simp only [enB, enOf, En.c] at hS
    obtain ⟨v, hv⟩ : ∃ v, decide (w % 2 = 1) = v := ⟨_, rfl⟩
    obtain ⟨l, hl⟩ : ∃ v, decide (w / 2 % 2 = 1) = v := ⟨_, rfl⟩
    obtain ⟨a, ha⟩ : ∃ v, w / 65536 % 65536 = v := ⟨_, rfl⟩
    obtain ⟨r, hr⟩ : ∃ v, w / 4 % 4 = v := ⟨_, rfl⟩
    rw [hr] at i1
    rw [ha] at i2
    simp only [hv, hl, ha, hr] at hS
    cases hm : (En.mk v l a r).may with
    | false =>
      have hS := hS.2 (by rw [hm]; rfl)
      simp (config := { maxSteps := 10000000 }) only [EV1, EV2, EV3, EV4, EV5, EV6, addT, istep, lenR_sl, lenR_ns, lenR_es, pickR, putD, bin1R, un1R, slcR, bnd, capsOf, fillP, S_plain, V_plain, V.cells, S_known, V_known, C.v, blk, setL, setH, eqS, eq1, cmpS, cmp1, isNil, popTo, killT, setT, leT, V.below, C.below, S_below, R.below, V.val, C.val, S_val, R.val, R.takes, vals, shows, List.any_cons, List.any_nil, unnamed, V.kill, V.names, C.names, S_names, R.names, List.set, List.replicate, ↓q_cond_t, ↓q_cond_f, if_true, if_false, reduceCtorEq, rvals, rvC, result, C_known, V.noL, C.noL, S_noL, R.noL, Option.map, true_and, and_true, ge_iff_le, gt_iff_lt, implies_true, q_ite_t, q_ite_f, beq_iff_eq, bne_iff_ne, q_ne, Nat.reduceAdd, Nat.reducePow, Int.reducePow, Nat.reduceMul, Nat.reduceSub, Nat.reduceLeDiff, Nat.reduceLT, Nat.reduceEqDiff, Int.reduceNeg, Int.reduceLT, Int.reduceLE, Int.reduceEq, Int.reduceNe, Int.reduceAdd, Int.reduceSub, Int.reduceMul, Int.reduceToNat, Int.reduceBEq, Int.reduceBNe, df39, TrE, encEG, enF, hm, q1, q2, q3, t1, t2, t3, t4, b1, b2, i1, i2, hv, hl, ha, hr, put, fillP]
      exact hS
    | true =>
      by_cases he : (En.mk v l a r).w = w
      · have hS := hS.1 (by rw [hm]; simpa using he)
        have f1 : ((En.mk v l a r).w != w) = false := by simpa using he
        simp (config := { maxSteps := 10000000 }) only [EV1, EV2, EV3, EV4, EV5, EV6, addT, istep, lenR_sl, lenR_ns, lenR_es, pickR, putD, bin1R, un1R, slcR, bnd, capsOf, fillP, S_plain, V_plain, V.cells, S_known, V_known, C.v, blk, setL, setH, eqS, eq1, cmpS, cmp1, isNil, popTo, killT, setT, leT, V.below, C.below, S_below, R.below, V.val, C.val, S_val, R.val, R.takes, vals, shows, List.any_cons, List.any_nil, unnamed, V.kill, V.names, C.names, S_names, R.names, List.set, List.replicate, ↓q_cond_t, ↓q_cond_f, if_true, if_false, reduceCtorEq, rvals, rvC, result, C_known, V.noL, C.noL, S_noL, R.noL, Option.map, true_and, and_true, ge_iff_le, gt_iff_lt, implies_true, q_ite_t, q_ite_f, beq_iff_eq, bne_iff_ne, q_ne, Nat.reduceAdd, Nat.reducePow, Int.reducePow, Nat.reduceMul, Nat.reduceSub, Nat.reduceLeDiff, Nat.reduceLT, Nat.reduceEqDiff, Int.reduceNeg, Int.reduceLT, Int.reduceLE, Int.reduceEq, Int.reduceNe, Int.reduceAdd, Int.reduceSub, Int.reduceMul, Int.reduceToNat, Int.reduceBEq, Int.reduceBNe, df39, TrE, encEG, enF, hm, q1, q2, q3, t1, t2, t3, t4, b1, b2, i1, i2, hv, hl, ha, hr, he, f1, put, fillP]
        exact hS
      · have hS := hS.2 (by rw [hm]; simpa using he)
        have f1 : ((En.mk v l a r).w != w) = true := by simpa using he
        simp (config := { maxSteps := 10000000 }) only [EV1, EV2, EV3, EV4, EV5, EV6, addT, istep, lenR_sl, lenR_ns, lenR_es, pickR, putD, bin1R, un1R, slcR, bnd, capsOf, fillP, S_plain, V_plain, V.cells, S_known, V_known, C.v, blk, setL, setH, eqS, eq1, cmpS, cmp1, isNil, popTo, killT, setT, leT, V.below, C.below, S_below, R.below, V.val, C.val, S_val, R.val, R.takes, vals, shows, List.any_cons, List.any_nil, unnamed, V.kill, V.names, C.names, S_names, R.names, List.set, List.replicate, ↓q_cond_t, ↓q_cond_f, if_true, if_false, reduceCtorEq, rvals, rvC, result, C_known, V.noL, C.noL, S_noL, R.noL, Option.map, true_and, and_true, ge_iff_le, gt_iff_lt, implies_true, q_ite_t, q_ite_f, beq_iff_eq, bne_iff_ne, q_ne, Nat.reduceAdd, Nat.reducePow, Int.reducePow, Nat.reduceMul, Nat.reduceSub, Nat.reduceLeDiff, Nat.reduceLT, Nat.reduceEqDiff, Int.reduceNeg, Int.reduceLT, Int.reduceLE, Int.reduceEq, Int.reduceNe, Int.reduceAdd, Int.reduceSub, Int.reduceMul, Int.reduceToNat, Int.reduceBEq, Int.reduceBNe, df39, TrE, encEG, enF, hm, q1, q2, q3, t1, t2, t3, t4, b1, b2, i1, i2, hv, hl, ha, hr, he, f1, put, fillP]
        exact hS
  · exact hS.elim

/-! ### indices -/
def inIdx (v l : Int) : Bool := decide (0 ≤ v ∧ v ≤ 65535 ∧ 0 ≤ l ∧ l ≤ 3)
def idxV (v l : Int) : Int := if inIdx v l then v / (2 ^ (13 - 3 * l.toNat) : Nat) % 8 else 0
theorem idxV_bound (v l : Int) : 0 ≤ idxV v l ∧ idxV v l ≤ 7 := by
  unfold idxV; split <;> omega
def idxG : List V → List Blk → Res
  | [.s (.i .i64 v), .s (.i .i64 l)], h => .ok (.s (.i .i64 (idxV v l))) [] h
  | _, _ => .bad
theorem and7i {x : Int} (h : 0 ≤ x) (h2 : x < 9223372036854775808) : bits .and .i64 x 7 = x % 8 := by
  obtain ⟨n, rfl⟩ : ∃ n : Nat, x = n := ⟨x.toNat, by omega⟩
  have := bits_mask .i64 63 (by decide) (fun n h0 h1 => wrap64 (by omega) (by simpa using h1)) 3 (by omega) n (by omega)
  simpa using this (by omega)
end Go.Proofs.Yteeeidldknlblaa

/- The machine's memory: the document's Copy and Dump. -/
namespace Go.Proofs.Yteeeidldknlblaa
open Go.D
set_option linter.all false
set_option maxRecDepth 100000
set_option maxHeartbeats 4000000

/-- So many words of a part, then noughts. -/
def M.pz (m : M) (x q k : Nat) : List Int := m.part x q ++ List.replicate (k - q) 0
theorem M.pz_len {m : M} {x q k : Nat} (h : x + k ≤ m.w.length) (hq : q ≤ k) : (m.pz x q k).length = k := by
  rw [M.pz, List.length_append, M.part_len (by omega), List.length_replicate]; omega
theorem M.pz_0 (m : M) (x k : Nat) : m.pz x 0 k = List.replicate k 0 := by simp [M.pz, M.part]
theorem M.pz_all (m : M) (x k : Nat) : m.pz x k k = m.part x k := by simp [M.pz]
theorem M.part_snoc {m : M} {x q : Nat} (h : x + q < m.w.length) : m.part x (q + 1) = m.part x q ++ [m.at ((x + q : Nat) : Int)] := by
  unfold M.part
  rw [List.take_succ_eq_append_getElem (by simp; omega)]
  simp only [List.getElem_drop, M.at, Int.toNat_natCast, nth_eq h]
theorem M.pz_set {m : M} {x q k : Nat} (h : x + k ≤ m.w.length) (hq : q < k) : (wc (m.pz x q k)).set q (.i .u64 (m.at ((x + q : Nat) : Int))) = wc (m.pz x (q + 1) k) := by
  rw [wc_set]
  congr 1
  unfold M.pz
  have hl := M.part_len (m := m) (x := x) (k := q) (by omega)
  rw [List.set_append_right _ _ (by omega), hl, Nat.sub_self, M.part_snoc (by omega), show k - q = (k - (q + 1)) + 1 by omega, List.replicate_succ, List.set_cons_zero]
  simp

theorem rcopy_snd : Snd Try.prog 63 (FSpec.of copyG) := snd_run TSp_snd mixed Try.func63 dc63 100 fun args h K hc hS => by
  obtain ⟨a, b, m, rest, rfl, H, hS1⟩ := memF_spec hS
  clear hS
  have hS := hS1
  clear hS1
  unfold copyM at hS
  split at hS
  · rename_i x y k
    simp only [spec_ok, spec_br, setM_self H] at hS
    have hl := m.l
    cases hx : m.has x k with
    | false =>
      have hS := hS.2 (by rw [hx]; rfl)
      cases hy : m.has y k <;> simp (config := { maxSteps := 10000000 }) only [EV1, EV2, EV3, EV4, EV5, EV6, addT, istep, lenR_sl, lenR_ns, lenR_es, pickR, putD, bin1R, un1R, slcR, bnd, capsOf, fillP, S_plain, V_plain, V.cells, S_known, V_known, C.v, blk, setL, setH, eqS, eq1, cmpS, cmp1, isNil, popTo, killT, setT, leT, V.below, C.below, S_below, R.below, V.val, C.val, S_val, R.val, R.takes, vals, shows, List.any_cons, List.any_nil, unnamed, V.kill, V.names, C.names, S_names, R.names, List.set, List.replicate, ↓q_cond_t, ↓q_cond_f, if_true, if_false, reduceCtorEq, rvals, rvC, result, C_known, V.noL, C.noL, S_noL, R.noL, Option.map, true_and, and_true, ge_iff_le, gt_iff_lt, implies_true, q_ite_t, q_ite_f, beq_iff_eq, bne_iff_ne, q_ne, Nat.reduceAdd, Nat.reducePow, Int.reducePow, Nat.reduceMul, Nat.reduceSub, Nat.reduceLeDiff, Nat.reduceLT, Nat.reduceEqDiff, Int.reduceNeg, Int.reduceLT, Int.reduceLE, Int.reduceEq, Int.reduceNe, Int.reduceAdd, Int.reduceSub, Int.reduceMul, Int.reduceToNat, Int.reduceBEq, Int.reduceBNe, df63, TSp, thereG, memF_eq H, thereM, setM_self H, hx, hy]
      all_goals exact hS
    | true =>
      cases hy : m.has y k with
      | false =>
        have hS := hS.2 (by rw [hx, hy]; rfl)
        simp (config := { maxSteps := 10000000 }) only [EV1, EV2, EV3, EV4, EV5, EV6, addT, istep, lenR_sl, lenR_ns, lenR_es, pickR, putD, bin1R, un1R, slcR, bnd, capsOf, fillP, S_plain, V_plain, V.cells, S_known, V_known, C.v, blk, setL, setH, eqS, eq1, cmpS, cmp1, isNil, popTo, killT, setT, leT, V.below, C.below, S_below, R.below, V.val, C.val, S_val, R.val, R.takes, vals, shows, List.any_cons, List.any_nil, unnamed, V.kill, V.names, C.names, S_names, R.names, List.set, List.replicate, ↓q_cond_t, ↓q_cond_f, if_true, if_false, reduceCtorEq, rvals, rvC, result, C_known, V.noL, C.noL, S_noL, R.noL, Option.map, true_and, and_true, ge_iff_le, gt_iff_lt, implies_true, q_ite_t, q_ite_f, beq_iff_eq, bne_iff_ne, q_ne, Nat.reduceAdd, Nat.reducePow, Int.reducePow, Nat.reduceMul, Nat.reduceSub, Nat.reduceLeDiff, Nat.reduceLT, Nat.reduceEqDiff, Int.reduceNeg, Int.reduceLT, Int.reduceLE, Int.reduceEq, Int.reduceNe, Int.reduceAdd, Int.reduceSub, Int.reduceMul, Int.reduceToNat, Int.reduceBEq, Int.reduceBNe, df63, TSp, thereG, memF_eq H, thereM, setM_self H, hx, hy]
        exact hS
      | true =>
        have hS := hS.1 (by rw [hx, hy]; rfl)
        obtain ⟨i, n, rfl, rfl, hin⟩ := M.has_nat hx
        obtain ⟨j, n', rfl, e, hjn⟩ := M.has_nat hy
        have e : n = n' := by omega
        subst e
        simp only [Int.toNat_natCast] at hS
        have c3 : (0 : Int) ≤ n := by omega
        have c4 : (n : Int) ≤ 1099511627776 := by omega
        have c5 : (8 : Int) * (n : Int) ≤ 281474976710656 := by omega
        have hpl := M.part_len hin
        simp (config := { maxSteps := 10000000 }) only [EV1, EV2, EV3, EV4, EV5, EV6, addT, istep, lenR_sl, lenR_ns, lenR_es, pickR, putD, bin1R, un1R, slcR, bnd, capsOf, fillP, S_plain, V_plain, V.cells, S_known, V_known, C.v, blk, setL, setH, eqS, eq1, cmpS, cmp1, isNil, popTo, killT, setT, leT, V.below, C.below, S_below, R.below, V.val, C.val, S_val, R.val, R.takes, vals, shows, List.any_cons, List.any_nil, unnamed, V.kill, V.names, C.names, S_names, R.names, List.set, List.replicate, ↓q_cond_t, ↓q_cond_f, if_true, if_false, reduceCtorEq, rvals, rvC, result, C_known, V.noL, C.noL, S_noL, R.noL, Option.map, true_and, and_true, ge_iff_le, gt_iff_lt, implies_true, q_ite_t, q_ite_f, beq_iff_eq, bne_iff_ne, q_ne, Nat.reduceAdd, Nat.reducePow, Int.reducePow, Nat.reduceMul, Nat.reduceSub, Nat.reduceLeDiff, Nat.reduceLT, Nat.reduceEqDiff, Int.reduceNeg, Int.reduceLT, Int.reduceLE, Int.reduceEq, Int.reduceNe, Int.reduceAdd, Int.reduceSub, Int.reduceMul, Int.reduceToNat, Int.reduceBEq, Int.reduceBNe, df63, TSp, thereG, memF_eq H, thereM, setM_self H, hx, hy, c3, Int.le_refl, c4, c5, wc_zeros, Int.toNat_natCast]
        refine loop_rule (α := Nat) [12, 30, 31, 32, 33, 34, 35, 36, 37, 38, 39, 40, 41, 42, 43, 44, 45, 46] (fun q => [(12, .s (.i .i64 q))]) (fun q => [⟨.rw, wc (m.pz i q n), n⟩]) (fun q => h) (fun q => q ≤ n) (fun q => n - q) 0 (by omega) ?_ ?_
        · rw [M.pz_0]
          refine Wk.same (by simp [wc_len]) rfl ?_
          simp (config := { maxSteps := 10000000 }) only [EV1, EV2, EV3, EV4, EV5, EV6, addT, istep, lenR_sl, lenR_ns, lenR_es, pickR, putD, bin1R, un1R, slcR, bnd, capsOf, fillP, S_plain, V_plain, V.cells, S_known, V_known, C.v, blk, setL, setH, eqS, eq1, cmpS, cmp1, isNil, popTo, killT, setT, leT, V.below, C.below, S_below, R.below, V.val, C.val, S_val, R.val, R.takes, vals, shows, List.any_cons, List.any_nil, unnamed, V.kill, V.names, C.names, S_names, R.names, List.set, List.replicate, ↓q_cond_t, ↓q_cond_f, if_true, if_false, reduceCtorEq, rvals, rvC, result, C_known, V.noL, C.noL, S_noL, R.noL, Option.map, true_and, and_true, ge_iff_le, gt_iff_lt, implies_true, q_ite_t, q_ite_f, beq_iff_eq, bne_iff_ne, q_ne, Nat.reduceAdd, Nat.reducePow, Int.reducePow, Nat.reduceMul, Nat.reduceSub, Nat.reduceLeDiff, Nat.reduceLT, Nat.reduceEqDiff, Int.reduceNeg, Int.reduceLT, Int.reduceLE, Int.reduceEq, Int.reduceNe, Int.reduceAdd, Int.reduceSub, Int.reduceMul, Int.reduceToNat, Int.reduceBEq, Int.reduceBNe, q_cast, Int.natCast_zero]
        · rintro X q hq IH
          rcases Nat.lt_or_ge q n with h1 | h1
          · obtain ⟨d1, d2, d3, d4⟩ := idx h1 (by omega)
            have w1 : IntKind.i64.wrap ((i : Int) + q) = ((i + q : Nat) : Int) := by rw [wrap64] <;> omega
            have d5 : ((i + q : Nat) : Int) < m.w.length := by omega
            have d6 : (0 : Int) ≤ ((i + q : Nat) : Int) := by omega
            have g := wc_get (w := m.w) (i := i + q) (by omega)
            have g1 : nth 0 m.w (i + q) = m.at ((i + q : Nat) : Int) := by simp only [M.at, Int.toNat_natCast]
            have c6 : q + 1 ≤ (wc (m.pz i q n)).length := by rw [wc_len, M.pz_len hin hq]; omega
            have c7 := M.pz_set hin h1
            rw [g1] at g
            refine run_sound (Tab.ok_Γ _) 100 _ _ _ _ ?_
            simp (config := { maxSteps := 10000000 }) only [EV1, EV2, EV3, EV4, EV5, EV6, addT, istep, lenR_sl, lenR_ns, lenR_es, pickR, putD, bin1R, un1R, slcR, bnd, capsOf, fillP, S_plain, V_plain, V.cells, S_known, V_known, C.v, blk, setL, setH, eqS, eq1, cmpS, cmp1, isNil, popTo, killT, setT, leT, V.below, C.below, S_below, R.below, V.val, C.val, S_val, R.val, R.takes, vals, shows, List.any_cons, List.any_nil, unnamed, V.kill, V.names, C.names, S_names, R.names, List.set, List.replicate, ↓q_cond_t, ↓q_cond_f, if_true, if_false, reduceCtorEq, rvals, rvC, result, C_known, V.noL, C.noL, S_noL, R.noL, Option.map, true_and, and_true, ge_iff_le, gt_iff_lt, implies_true, q_ite_t, q_ite_f, beq_iff_eq, bne_iff_ne, q_ne, Nat.reduceAdd, Nat.reducePow, Int.reducePow, Nat.reduceMul, Nat.reduceSub, Nat.reduceLeDiff, Nat.reduceLT, Nat.reduceEqDiff, Int.reduceNeg, Int.reduceLT, Int.reduceLE, Int.reduceEq, Int.reduceNe, Int.reduceAdd, Int.reduceSub, Int.reduceMul, Int.reduceToNat, Int.reduceBEq, Int.reduceBNe, d1, d2, d3, d4, d5, d6, w1, H.ha, H.hb, MB, MW, g, c6, c7, Int.toNat_natCast, put]
            exact IH (q + 1) _ (by omega) (by omega) (Wk.same rfl rfl (by simp (config := { maxSteps := 10000000 }) only [EV1, EV2, EV3, EV4, EV5, EV6, addT, istep, lenR_sl, lenR_ns, lenR_es, pickR, putD, bin1R, un1R, slcR, bnd, capsOf, fillP, S_plain, V_plain, V.cells, S_known, V_known, C.v, blk, setL, setH, eqS, eq1, cmpS, cmp1, isNil, popTo, killT, setT, leT, V.below, C.below, S_below, R.below, V.val, C.val, S_val, R.val, R.takes, vals, shows, List.any_cons, List.any_nil, unnamed, V.kill, V.names, C.names, S_names, R.names, List.set, List.replicate, ↓q_cond_t, ↓q_cond_f, if_true, if_false, reduceCtorEq, rvals, rvC, result, C_known, V.noL, C.noL, S_noL, R.noL, Option.map, true_and, and_true, ge_iff_le, gt_iff_lt, implies_true, q_ite_t, q_ite_f, beq_iff_eq, bne_iff_ne, q_ne, Nat.reduceAdd, Nat.reducePow, Int.reducePow, Nat.reduceMul, Nat.reduceSub, Nat.reduceLeDiff, Nat.reduceLT, Nat.reduceEqDiff, Int.reduceNeg, Int.reduceLT, Int.reduceLE, Int.reduceEq, Int.reduceNe, Int.reduceAdd, Int.reduceSub, Int.reduceMul, Int.reduceToNat, Int.reduceBEq, Int.reduceBNe]))
          · have : q = n := by omega
            subst this
            refine run_sound (Tab.ok_Γ _) 100 _ _ _ _ ?_
            simp (config := { maxSteps := 10000000 }) only [EV1, EV2, EV3, EV4, EV5, EV6, addT, istep, lenR_sl, lenR_ns, lenR_es, pickR, putD, bin1R, un1R, slcR, bnd, capsOf, fillP, S_plain, V_plain, V.cells, S_known, V_known, C.v, blk, setL, setH, eqS, eq1, cmpS, cmp1, isNil, popTo, killT, setT, leT, V.below, C.below, S_below, R.below, V.val, C.val, S_val, R.val, R.takes, vals, shows, List.any_cons, List.any_nil, unnamed, V.kill, V.names, C.names, S_names, R.names, List.set, List.replicate, ↓q_cond_t, ↓q_cond_f, if_true, if_false, reduceCtorEq, rvals, rvC, result, C_known, V.noL, C.noL, S_noL, R.noL, Option.map, true_and, and_true, ge_iff_le, gt_iff_lt, implies_true, q_ite_t, q_ite_f, beq_iff_eq, bne_iff_ne, q_ne, Nat.reduceAdd, Nat.reducePow, Int.reducePow, Nat.reduceMul, Nat.reduceSub, Nat.reduceLeDiff, Nat.reduceLT, Nat.reduceEqDiff, Int.reduceNeg, Int.reduceLT, Int.reduceLE, Int.reduceEq, Int.reduceNe, Int.reduceAdd, Int.reduceSub, Int.reduceMul, Int.reduceToNat, Int.reduceBEq, Int.reduceBNe, Int.lt_irrefl]
            refine loop_rule (α := Nat) [13, 47, 48, 49, 50, 51, 52, 53, 54, 55, 56, 57, 58, 59, 60, 61, 62, 63] (fun p => [(13, .s (.i .i64 p))]) (fun p => [⟨.rw, wc (m.pz i q q), q⟩]) (fun p => h.set b ⟨.rw, wc (m.lay j ((m.part i q).take p)).w, m.w.length⟩) (fun p => p ≤ q) (fun p => q - p) 0 (by omega) ?_ ?_
            · simp only [List.take_zero, M.lay]
              rw [show (⟨.rw, wc m.w, m.w.length⟩ : Blk) = MW m from rfl, set_self H.hb]
              refine Wk.less ?_
              simp (config := { maxSteps := 10000000 }) only [EV1, EV2, EV3, EV4, EV5, EV6, addT, istep, lenR_sl, lenR_ns, lenR_es, pickR, putD, bin1R, un1R, slcR, bnd, capsOf, fillP, S_plain, V_plain, V.cells, S_known, V_known, C.v, blk, setL, setH, eqS, eq1, cmpS, cmp1, isNil, popTo, killT, setT, leT, V.below, C.below, S_below, R.below, V.val, C.val, S_val, R.val, R.takes, vals, shows, List.any_cons, List.any_nil, unnamed, V.kill, V.names, C.names, S_names, R.names, List.set, List.replicate, ↓q_cond_t, ↓q_cond_f, if_true, if_false, reduceCtorEq, rvals, rvC, result, C_known, V.noL, C.noL, S_noL, R.noL, Option.map, true_and, and_true, ge_iff_le, gt_iff_lt, implies_true, q_ite_t, q_ite_f, beq_iff_eq, bne_iff_ne, q_ne, Nat.reduceAdd, Nat.reducePow, Int.reducePow, Nat.reduceMul, Nat.reduceSub, Nat.reduceLeDiff, Nat.reduceLT, Nat.reduceEqDiff, Int.reduceNeg, Int.reduceLT, Int.reduceLE, Int.reduceEq, Int.reduceNe, Int.reduceAdd, Int.reduceSub, Int.reduceMul, Int.reduceToNat, Int.reduceBEq, Int.reduceBNe, q_cast, Int.natCast_zero]
            · intro Y p hp IH
              rcases Nat.lt_or_ge p q with h1 | h1
              · obtain ⟨d1, d2, d3, d4⟩ := idx h1 (by omega)
                have c3 : (h.set b ⟨BK.rw, wc (m.lay j ((m.part i q).take p)).w, m.w.length⟩)[b]? = some ⟨BK.rw, wc (m.lay j ((m.part i q).take p)).w, m.w.length⟩ := set_hit H.hb
                have c4 : j + p + 1 ≤ (wc (m.lay j ((m.part i q).take p)).w).length := by rw [wc_len, M.lay_len]; omega
                have hv : u64 (nth 0 (m.part i q) p) := M.part_u _ (nth_mem (by omega))
                have g : (wc (m.pz i q q))[p]? = some (.i .u64 (nth 0 (m.part i q) p)) := by rw [M.pz_all, wc_get (by omega)]
                have c5 : ((wc (m.lay j ((m.part i q).take p)).w).set (j + p) (S.i .u64 (nth 0 (m.part i q) p))) = wc (m.lay j ((m.part i q).take (p + 1))).w := by
                  rw [wc_set, take_snoc (by omega), M.lay_snoc, show ((m.part i q).take p).length = p by simp; omega]; simp only [M.put, uw_of hv]
                have ha := H.ha'
                have w1 : IntKind.i64.wrap ((j : Int) + p) = ((j + p : Nat) : Int) := by rw [wrap64] <;> omega
                have d5 : ((j + p : Nat) : Int) < m.w.length := by omega
                have d6 : (0 : Int) ≤ ((j + p : Nat) : Int) := by omega
                refine run_sound (Tab.ok_Γ _) 100 _ _ _ _ ?_
                simp (config := { maxSteps := 10000000 }) only [EV1, EV2, EV3, EV4, EV5, EV6, addT, istep, lenR_sl, lenR_ns, lenR_es, pickR, putD, bin1R, un1R, slcR, bnd, capsOf, fillP, S_plain, V_plain, V.cells, S_known, V_known, C.v, blk, setL, setH, eqS, eq1, cmpS, cmp1, isNil, popTo, killT, setT, leT, V.below, C.below, S_below, R.below, V.val, C.val, S_val, R.val, R.takes, vals, shows, List.any_cons, List.any_nil, unnamed, V.kill, V.names, C.names, S_names, R.names, List.set, List.replicate, ↓q_cond_t, ↓q_cond_f, if_true, if_false, reduceCtorEq, rvals, rvC, result, C_known, V.noL, C.noL, S_noL, R.noL, Option.map, true_and, and_true, ge_iff_le, gt_iff_lt, implies_true, q_ite_t, q_ite_f, beq_iff_eq, bne_iff_ne, q_ne, Nat.reduceAdd, Nat.reducePow, Int.reducePow, Nat.reduceMul, Nat.reduceSub, Nat.reduceLeDiff, Nat.reduceLT, Nat.reduceEqDiff, Int.reduceNeg, Int.reduceLT, Int.reduceLE, Int.reduceEq, Int.reduceNe, Int.reduceAdd, Int.reduceSub, Int.reduceMul, Int.reduceToNat, Int.reduceBEq, Int.reduceBNe, d1, d2, d3, d4, d5, d6, w1, c3, ha, MB, g, c4, Int.toNat_natCast, put, c5, List.set_set]
                exact IH (p + 1) _ (by omega) (by omega) (Wk.same rfl rfl (by simp (config := { maxSteps := 10000000 }) only [EV1, EV2, EV3, EV4, EV5, EV6, addT, istep, lenR_sl, lenR_ns, lenR_es, pickR, putD, bin1R, un1R, slcR, bnd, capsOf, fillP, S_plain, V_plain, V.cells, S_known, V_known, C.v, blk, setL, setH, eqS, eq1, cmpS, cmp1, isNil, popTo, killT, setT, leT, V.below, C.below, S_below, R.below, V.val, C.val, S_val, R.val, R.takes, vals, shows, List.any_cons, List.any_nil, unnamed, V.kill, V.names, C.names, S_names, R.names, List.set, List.replicate, ↓q_cond_t, ↓q_cond_f, if_true, if_false, reduceCtorEq, rvals, rvC, result, C_known, V.noL, C.noL, S_noL, R.noL, Option.map, true_and, and_true, ge_iff_le, gt_iff_lt, implies_true, q_ite_t, q_ite_f, beq_iff_eq, bne_iff_ne, q_ne, Nat.reduceAdd, Nat.reducePow, Int.reducePow, Nat.reduceMul, Nat.reduceSub, Nat.reduceLeDiff, Nat.reduceLT, Nat.reduceEqDiff, Int.reduceNeg, Int.reduceLT, Int.reduceLE, Int.reduceEq, Int.reduceNe, Int.reduceAdd, Int.reduceSub, Int.reduceMul, Int.reduceToNat, Int.reduceBEq, Int.reduceBNe]))
              · have : p = q := by omega
                subst this
                have ha := H.ha'
                have w1 : IntKind.i64.wrap (2 * (p : Int)) = 2 * (p : Int) := wrap64 (by omega) (by omega)
                refine run_sound (Tab.ok_Γ _) 100 _ _ _ _ ?_
                simp (config := { maxSteps := 10000000 }) only [EV1, EV2, EV3, EV4, EV5, EV6, addT, istep, lenR_sl, lenR_ns, lenR_es, pickR, putD, bin1R, un1R, slcR, bnd, capsOf, fillP, S_plain, V_plain, V.cells, S_known, V_known, C.v, blk, setL, setH, eqS, eq1, cmpS, cmp1, isNil, popTo, killT, setT, leT, V.below, C.below, S_below, R.below, V.val, C.val, S_val, R.val, R.takes, vals, shows, List.any_cons, List.any_nil, unnamed, V.kill, V.names, C.names, S_names, R.names, List.set, List.replicate, ↓q_cond_t, ↓q_cond_f, if_true, if_false, reduceCtorEq, rvals, rvC, result, C_known, V.noL, C.noL, S_noL, R.noL, Option.map, true_and, and_true, ge_iff_le, gt_iff_lt, implies_true, q_ite_t, q_ite_f, beq_iff_eq, bne_iff_ne, q_ne, Nat.reduceAdd, Nat.reducePow, Int.reducePow, Nat.reduceMul, Nat.reduceSub, Nat.reduceLeDiff, Nat.reduceLT, Nat.reduceEqDiff, Int.reduceNeg, Int.reduceLT, Int.reduceLE, Int.reduceEq, Int.reduceNe, Int.reduceAdd, Int.reduceSub, Int.reduceMul, Int.reduceToNat, Int.reduceBEq, Int.reduceBNe, Int.lt_irrefl, ha, MB, w1]
                refine cast (congrArg (K _) ?_) hS
                simp only [setM, M.copy]
                rw [List.set_comm _ _ H.ne, List.take_of_length_le (by omega)]
                simp only [MW, MB, M.tick, M.lay_len, M.lay_n]
  · exact hS.elim

theorem rdump_snd : Snd Try.prog 64 (FSpec.of dumpG) := snd_run TSp_snd mixed Try.func64 dc64 100 fun args h K hc hS => by
  obtain ⟨a, b, m, rest, rfl, H, hS1⟩ := memF_spec hS
  clear hS
  have hS := hS1
  clear hS1
  unfold dumpM at hS
  split at hS
  · rename_i x k
    simp only [spec_ok, spec_br, spec_all, setM_self H] at hS
    have hl := m.l
    cases hh : m.has x k with
    | true =>
      have hS := hS.1 hh
      obtain ⟨i, n, rfl, rfl, hin⟩ := M.has_nat hh
      simp only [Int.toNat_natCast] at hS
      have hS := hS n (Nat.le_refl _)
      have c3 : (0 : Int) ≤ n := by omega
      have c4 : (n : Int) ≤ 1099511627776 := by omega
      have c5 : (8 : Int) * (n : Int) ≤ 281474976710656 := by omega
      simp (config := { maxSteps := 10000000 }) only [EV1, EV2, EV3, EV4, EV5, EV6, addT, istep, lenR_sl, lenR_ns, lenR_es, pickR, putD, bin1R, un1R, slcR, bnd, capsOf, fillP, S_plain, V_plain, V.cells, S_known, V_known, C.v, blk, setL, setH, eqS, eq1, cmpS, cmp1, isNil, popTo, killT, setT, leT, V.below, C.below, S_below, R.below, V.val, C.val, S_val, R.val, R.takes, vals, shows, List.any_cons, List.any_nil, unnamed, V.kill, V.names, C.names, S_names, R.names, List.set, List.replicate, ↓q_cond_t, ↓q_cond_f, if_true, if_false, reduceCtorEq, rvals, rvC, result, C_known, V.noL, C.noL, S_noL, R.noL, Option.map, true_and, and_true, ge_iff_le, gt_iff_lt, implies_true, q_ite_t, q_ite_f, beq_iff_eq, bne_iff_ne, q_ne, Nat.reduceAdd, Nat.reducePow, Int.reducePow, Nat.reduceMul, Nat.reduceSub, Nat.reduceLeDiff, Nat.reduceLT, Nat.reduceEqDiff, Int.reduceNeg, Int.reduceLT, Int.reduceLE, Int.reduceEq, Int.reduceNe, Int.reduceAdd, Int.reduceSub, Int.reduceMul, Int.reduceToNat, Int.reduceBEq, Int.reduceBNe, df64, TSp, thereG, memF_eq H, thereM, setM_self H, hh, c3, Int.le_refl, c4, c5, wc_zeros, Int.toNat_natCast]
      refine loop_rule (α := Nat) [10, 19, 20, 21, 22, 23, 24, 25, 26, 27, 28, 29, 30, 31, 32, 33, 34, 35] (fun q => [(10, .s (.i .i64 q))]) (fun q => [⟨.rw, wc (m.pz i q n), n⟩]) (fun q => h) (fun q => q ≤ n) (fun q => n - q) 0 (by omega) ?_ ?_
      · rw [M.pz_0]
        refine Wk.same (by simp [wc_len]) rfl ?_
        simp (config := { maxSteps := 10000000 }) only [EV1, EV2, EV3, EV4, EV5, EV6, addT, istep, lenR_sl, lenR_ns, lenR_es, pickR, putD, bin1R, un1R, slcR, bnd, capsOf, fillP, S_plain, V_plain, V.cells, S_known, V_known, C.v, blk, setL, setH, eqS, eq1, cmpS, cmp1, isNil, popTo, killT, setT, leT, V.below, C.below, S_below, R.below, V.val, C.val, S_val, R.val, R.takes, vals, shows, List.any_cons, List.any_nil, unnamed, V.kill, V.names, C.names, S_names, R.names, List.set, List.replicate, ↓q_cond_t, ↓q_cond_f, if_true, if_false, reduceCtorEq, rvals, rvC, result, C_known, V.noL, C.noL, S_noL, R.noL, Option.map, true_and, and_true, ge_iff_le, gt_iff_lt, implies_true, q_ite_t, q_ite_f, beq_iff_eq, bne_iff_ne, q_ne, Nat.reduceAdd, Nat.reducePow, Int.reducePow, Nat.reduceMul, Nat.reduceSub, Nat.reduceLeDiff, Nat.reduceLT, Nat.reduceEqDiff, Int.reduceNeg, Int.reduceLT, Int.reduceLE, Int.reduceEq, Int.reduceNe, Int.reduceAdd, Int.reduceSub, Int.reduceMul, Int.reduceToNat, Int.reduceBEq, Int.reduceBNe, q_cast, Int.natCast_zero]
      · rintro X q hq IH
        rcases Nat.lt_or_ge q n with h1 | h1
        · obtain ⟨d1, d2, d3, d4⟩ := idx h1 (by omega)
          have w1 : IntKind.i64.wrap ((i : Int) + q) = ((i + q : Nat) : Int) := by rw [wrap64] <;> omega
          have d5 : ((i + q : Nat) : Int) < m.w.length := by omega
          have d6 : (0 : Int) ≤ ((i + q : Nat) : Int) := by omega
          have g := wc_get (w := m.w) (i := i + q) (by omega)
          have g1 : nth 0 m.w (i + q) = m.at ((i + q : Nat) : Int) := by simp only [M.at, Int.toNat_natCast]
          have c6 : q + 1 ≤ (wc (m.pz i q n)).length := by rw [wc_len, M.pz_len hin hq]; omega
          have c7 := M.pz_set hin h1
          rw [g1] at g
          refine run_sound (Tab.ok_Γ _) 100 _ _ _ _ ?_
          simp (config := { maxSteps := 10000000 }) only [EV1, EV2, EV3, EV4, EV5, EV6, addT, istep, lenR_sl, lenR_ns, lenR_es, pickR, putD, bin1R, un1R, slcR, bnd, capsOf, fillP, S_plain, V_plain, V.cells, S_known, V_known, C.v, blk, setL, setH, eqS, eq1, cmpS, cmp1, isNil, popTo, killT, setT, leT, V.below, C.below, S_below, R.below, V.val, C.val, S_val, R.val, R.takes, vals, shows, List.any_cons, List.any_nil, unnamed, V.kill, V.names, C.names, S_names, R.names, List.set, List.replicate, ↓q_cond_t, ↓q_cond_f, if_true, if_false, reduceCtorEq, rvals, rvC, result, C_known, V.noL, C.noL, S_noL, R.noL, Option.map, true_and, and_true, ge_iff_le, gt_iff_lt, implies_true, q_ite_t, q_ite_f, beq_iff_eq, bne_iff_ne, q_ne, Nat.reduceAdd, Nat.reducePow, Int.reducePow, Nat.reduceMul, Nat.reduceSub, Nat.reduceLeDiff, Nat.reduceLT, Nat.reduceEqDiff, Int.reduceNeg, Int.reduceLT, Int.reduceLE, Int.reduceEq, Int.reduceNe, Int.reduceAdd, Int.reduceSub, Int.reduceMul, Int.reduceToNat, Int.reduceBEq, Int.reduceBNe, d1, d2, d3, d4, d5, d6, w1, H.ha, H.hb, MB, MW, g, c6, c7, Int.toNat_natCast, put]
          exact IH (q + 1) _ (by omega) (by omega) (Wk.same rfl rfl (by simp (config := { maxSteps := 10000000 }) only [EV1, EV2, EV3, EV4, EV5, EV6, addT, istep, lenR_sl, lenR_ns, lenR_es, pickR, putD, bin1R, un1R, slcR, bnd, capsOf, fillP, S_plain, V_plain, V.cells, S_known, V_known, C.v, blk, setL, setH, eqS, eq1, cmpS, cmp1, isNil, popTo, killT, setT, leT, V.below, C.below, S_below, R.below, V.val, C.val, S_val, R.val, R.takes, vals, shows, List.any_cons, List.any_nil, unnamed, V.kill, V.names, C.names, S_names, R.names, List.set, List.replicate, ↓q_cond_t, ↓q_cond_f, if_true, if_false, reduceCtorEq, rvals, rvC, result, C_known, V.noL, C.noL, S_noL, R.noL, Option.map, true_and, and_true, ge_iff_le, gt_iff_lt, implies_true, q_ite_t, q_ite_f, beq_iff_eq, bne_iff_ne, q_ne, Nat.reduceAdd, Nat.reducePow, Int.reducePow, Nat.reduceMul, Nat.reduceSub, Nat.reduceLeDiff, Nat.reduceLT, Nat.reduceEqDiff, Int.reduceNeg, Int.reduceLT, Int.reduceLE, Int.reduceEq, Int.reduceNe, Int.reduceAdd, Int.reduceSub, Int.reduceMul, Int.reduceToNat, Int.reduceBEq, Int.reduceBNe]))
        · have : q = n := by omega
          subst this
          refine run_sound (Tab.ok_Γ _) 100 _ _ _ _ ?_
          simp (config := { maxSteps := 10000000 }) only [EV1, EV2, EV3, EV4, EV5, EV6, addT, istep, lenR_sl, lenR_ns, lenR_es, pickR, putD, bin1R, un1R, slcR, bnd, capsOf, fillP, S_plain, V_plain, V.cells, S_known, V_known, C.v, blk, setL, setH, eqS, eq1, cmpS, cmp1, isNil, popTo, killT, setT, leT, V.below, C.below, S_below, R.below, V.val, C.val, S_val, R.val, R.takes, vals, shows, List.any_cons, List.any_nil, unnamed, V.kill, V.names, C.names, S_names, R.names, List.set, List.replicate, ↓q_cond_t, ↓q_cond_f, if_true, if_false, reduceCtorEq, rvals, rvC, result, C_known, V.noL, C.noL, S_noL, R.noL, Option.map, true_and, and_true, ge_iff_le, gt_iff_lt, implies_true, q_ite_t, q_ite_f, beq_iff_eq, bne_iff_ne, q_ne, Nat.reduceAdd, Nat.reducePow, Int.reducePow, Nat.reduceMul, Nat.reduceSub, Nat.reduceLeDiff, Nat.reduceLT, Nat.reduceEqDiff, Int.reduceNeg, Int.reduceLT, Int.reduceLE, Int.reduceEq, Int.reduceNe, Int.reduceAdd, Int.reduceSub, Int.reduceMul, Int.reduceToNat, Int.reduceBEq, Int.reduceBNe, Int.lt_irrefl]
          refine ⟨[0], by simp, rfl, ?_⟩
          simp only [getAll, List.getElem?_cons_zero]
          refine ⟨?_, ?_⟩
          · simp [wc_kept]
          · refine cast (congrArg (K _) ?_) hS
            simp [Blk.ren, wc_ren, M.pz_all, M.part]
    | false =>
      have hS := hS.2 hh
      simp (config := { maxSteps := 10000000 }) only [EV1, EV2, EV3, EV4, EV5, EV6, addT, istep, lenR_sl, lenR_ns, lenR_es, pickR, putD, bin1R, un1R, slcR, bnd, capsOf, fillP, S_plain, V_plain, V.cells, S_known, V_known, C.v, blk, setL, setH, eqS, eq1, cmpS, cmp1, isNil, popTo, killT, setT, leT, V.below, C.below, S_below, R.below, V.val, C.val, S_val, R.val, R.takes, vals, shows, List.any_cons, List.any_nil, unnamed, V.kill, V.names, C.names, S_names, R.names, List.set, List.replicate, ↓q_cond_t, ↓q_cond_f, if_true, if_false, reduceCtorEq, rvals, rvC, result, C_known, V.noL, C.noL, S_noL, R.noL, Option.map, true_and, and_true, ge_iff_le, gt_iff_lt, implies_true, q_ite_t, q_ite_f, beq_iff_eq, bne_iff_ne, q_ne, Nat.reduceAdd, Nat.reducePow, Int.reducePow, Nat.reduceMul, Nat.reduceSub, Nat.reduceLeDiff, Nat.reduceLT, Nat.reduceEqDiff, Int.reduceNeg, Int.reduceLT, Int.reduceLE, Int.reduceEq, Int.reduceNe, Int.reduceAdd, Int.reduceSub, Int.reduceMul, Int.reduceToNat, Int.reduceBEq, Int.reduceBNe, df64, TSp, thereG, memF_eq H, thereM, setM_self H, hh]
      exact hS
  · exact hS.elim
end Go.Proofs.Yteeeidldknlblaa

/- Memories and lists among a law's own blocks: the heap is what was there, and blocks behind it, one by one. -/
namespace Go.Proofs.Yteeeidldknlblaa
open Go.D
set_option linter.all false
set_option maxRecDepth 100000
set_option maxHeartbeats 4000000

theorem n21 {a : Nat} : a + 2 + 1 = a + 3 := rfl
theorem n22 {a : Nat} : a + 2 + 2 = a + 4 := rfl
theorem n41 {a : Nat} : a + 4 + 1 = a + 5 := rfl
theorem nnn {a : Nat} (n k : Nat) : a + n + k = a + (n + k) := Nat.add_assoc _ _ _
theorem nlt0 {a k : Nat} : (a < a + k) = (0 < k) := by simp
theorem nltn {a j k : Nat} : (a + j < a + k) = (j < k) := by simp
section
variable {h X : List Blk} {A B : Blk} {m : M}
theorem at0_is : IsMem (h ++ (MB (h.length + 1) m :: MW m :: X)) h.length (h.length + 1) m := by
  refine ⟨by omega, ?_, ?_⟩
  · rw [app_get0]; rfl
  · rw [app_getn]; rfl
theorem at0_set (m' : M) : setM (h ++ (MB (h.length + 1) m :: MW m :: X)) h.length (h.length + 1) m' = h ++ (MB (h.length + 1) m' :: MW m' :: X) := by
  simp only [setM]
  rw [app_set0, app_setn]; rfl
theorem at2_is : IsMem (h ++ (A :: B :: MB (h.length + 3) m :: MW m :: X)) (h.length + 2) (h.length + 3) m := by
  refine ⟨by omega, ?_, ?_⟩
  · rw [app_getn]; rfl
  · rw [app_getn]; rfl
theorem at2_set (m' : M) : setM (h ++ (A :: B :: MB (h.length + 3) m :: MW m :: X)) (h.length + 2) (h.length + 3) m' = h ++ (A :: B :: MB (h.length + 3) m' :: MW m' :: X) := by
  simp only [setM]
  rw [app_setn, app_setn]; rfl
theorem memF_0 {f : Nat → M → (M → List Blk) → List V → Res} {rest : List V} : memF f (.s (.p (.g h.length) 0) :: rest) (h ++ (MB (h.length + 1) m :: MW m :: X)) = f (h.length + 1) m (fun m => h ++ (MB (h.length + 1) m :: MW m :: X)) rest := by
  rw [memF_eq at0_is, funext at0_set]
theorem memF_2 {f : Nat → M → (M → List Blk) → List V → Res} {rest : List V} : memF f (.s (.p (.g (h.length + 2)) 0) :: rest) (h ++ (A :: B :: MB (h.length + 3) m :: MW m :: X)) = f (h.length + 3) m (fun m => h ++ (A :: B :: MB (h.length + 3) m :: MW m :: X)) rest := by
  rw [memF_eq at2_is, funext at2_set]
theorem memAt_0 : memOf (h ++ (MB (h.length + 1) m :: MW m :: X)) h.length = some (h.length + 1, m) := memOf_eq at0_is
theorem memAt_2 : memOf (h ++ (A :: B :: MB (h.length + 3) m :: MW m :: X)) (h.length + 2) = some (h.length + 3, m) := memOf_eq at2_is
theorem MB_vals {b n k : Nat} (hb : b < n) : vals n k (MB b m).cells = true := by simp [MB, vals, S.val, R.val, hb]
theorem clean_nil {n : Nat} : clean n [] = true := by rfl
theorem clean_cons {n : Nat} {B : Blk} {X : List Blk} : clean n (B :: X) = (vals n 0 B.cells && clean n X) := by rfl
theorem clean_h {n : Nat} {X : List Blk} (hc : clean h.length h = true) (hn : h.length ≤ n) : clean n (h ++ X) = clean n X := by
  have : clean n h = true := by
    simp only [clean, List.all_eq_true] at hc ⊢
    exact fun x hx => vals_mono hn (Nat.le_refl _) (hc x hx)
  simp only [clean] at this ⊢
  rw [List.all_append, this, Bool.true_and]
theorem vals_MB {n k j : Nat} : vals (h.length + n) k (MB (h.length + j) m).cells = decide (j < n) := by
  simp [MB, vals, S.val, R.val]
theorem vals_wc {n k : Nat} {w : List Int} : vals n k (wc w) = true := wc_vals _ _ _
theorem vals_nil {n k : Nat} : vals n k [] = true := by rfl
theorem vals_cons {n k : Nat} {s : S} {l : List S} : vals n k (s :: l) = (s.val n k && vals n k l) := by rfl
theorem MW_vals {n k : Nat} : vals n k (MW m).cells = true := wc_vals _ _ _
theorem app_len {X : List Blk} : (h ++ X).length = h.length + X.length := List.length_append
end

/-- A spec by the form of the arguments and the heap. -/
noncomputable def shape {α : Type} (pat : α → List V × List Blk) (ok : α → Prop) (res : α → Res) (args : List V) (h : List Blk) : Res :=
  open Classical in if hx : ∃ a, pat a = (args, h) ∧ ok a then res (Classical.choose hx) else .bad
theorem shape_eq {α : Type} {pat : α → List V × List Blk} {ok : α → Prop} {res : α → Res} (inj : ∀ a b, pat a = pat b → ok a → ok b → res a = res b) {args : List V} {h : List Blk} (a : α) (e : pat a = (args, h)) (ha : ok a) : shape pat ok res args h = res a := by
  have hx : ∃ a, pat a = (args, h) ∧ ok a := ⟨a, e, ha⟩
  unfold shape
  rw [dif_pos hx]
  have := Classical.choose_spec hx
  exact inj _ _ (this.1.trans e.symm) this.2 ha
theorem shape_spec {α : Type} {pat : α → List V × List Blk} {ok : α → Prop} {res : α → Res} {args : List V} {h : List Blk} {K : V → List Blk → Prop} (hS : (shape pat ok res args h).spec K) : ∃ a, pat a = (args, h) ∧ ok a ∧ (res a).spec K := by
  unfold shape at hS
  split at hS
  · rename_i hx
    have := Classical.choose_spec hx
    exact ⟨_, this.1, this.2, hS⟩
  · exact hS.elim
theorem app_inj {α : Type} {h h' X X' : List α} (e : h ++ X = h' ++ X') (hl : h.length = h'.length) : h = h' ∧ X = X' := List.append_inj e hl
theorem MB_inj {b b' : Nat} {m m' : M} (e : MB b m = MB b' m') : m.n = m'.n := by
  simp only [MB, Blk.mk.injEq, List.cons.injEq, S.i.injEq, true_and, and_true] at e
  exact e.2
theorem MW_inj {m m' : M} (e : MW m = MW m') : m.w = m'.w := by
  simp only [MW, Blk.mk.injEq, true_and] at e
  exact wc_inj e.1

/-- The words of a block's cells. -/
def unwc : List S → Option (List Int)
  | [] => some []
  | .i .u64 x :: l => match unwc l with
    | some v => some (x :: v)
    | none => none
  | _ => none
theorem unwc_wc : ∀ v : List Int, unwc (wc v) = some v
  | [] => rfl
  | x :: v => by simp only [wc_cons, unwc, unwc_wc v]
theorem unwc_nil : unwc [] = some [] := by rfl
theorem unwc_cons {x : Int} {l : List S} : unwc (.i .u64 x :: l) = match unwc l with | some v => some (x :: v) | none => none := by rfl
theorem wc_unwc : ∀ {l : List S} {v : List Int}, unwc l = some v → l = wc v
  | [], v, e => by simp only [unwc, Option.some.injEq] at e; subst e; rfl
  | .i k x :: l, v, e => by
    cases k <;> simp only [unwc, reduceCtorEq] at e
    split at e
    · rename_i v' e'
      rw [Option.some.injEq] at e
      subst e
      rw [wc_unwc e', wc_cons]
    · cases e
  | .u :: _, _, e => by simp [unwc] at e
  | .b _ :: _, _, e => by simp [unwc] at e
  | .p _ _ :: _, _, e => by simp [unwc] at e
  | .np :: _, _, e => by simp [unwc] at e
  | .sl _ _ _ _ :: _, _, e => by simp [unwc] at e
  | .ns :: _, _, e => by simp [unwc] at e
  | .es _ _ :: _, _, e => by simp [unwc] at e
  | .fn _ _ :: _, _, e => by simp [unwc] at e
  | .nf :: _, _, e => by simp [unwc] at e
def lenIs (n : Nat) (v : List Int) : Option (List Int) := if v.length = n then some v else none
theorem lenIs_t {n : Nat} {v : List Int} (h : v.length = n) : lenIs n v = some v := if_pos h
def lstB (n : Nat) : Option Blk → Option (List Int)
  | some ⟨.rw, cells, _⟩ => (unwc cells).bind (lenIs n)
  | some ⟨.ro, cells, _⟩ => (unwc cells).bind (lenIs n)
  | _ => none
theorem lstB_rw {n room : Nat} {cells : List S} : lstB n (some ⟨.rw, cells, room⟩) = (unwc cells).bind (lenIs n) := by rfl
theorem o_bind {α β : Type} {x : α} {f : α → Option β} : (some x).bind f = f x := by rfl
theorem lstB_list {H : List Blk} {j n c : Nat} {vs : List Int} (h : lstB n H[j]? = some vs) : listOf H (.sl (.g j) 0 n c) = some vs := by
  have key : ∀ st cells room, H[j]? = some ⟨st, cells, room⟩ → st ≠ .dead → (unwc cells).bind (lenIs n) = some vs → listOf H (.sl (.g j) 0 n c) = some vs := by
    intro st cells room e hs e2
    obtain ⟨v, e3, e4⟩ := Option.bind_eq_some_iff.1 e2
    unfold lenIs at e4
    split at e4
    · rename_i hl
      rw [Option.some.injEq] at e4
      subst e4
      rw [wc_unwc e3] at e
      exact listOf_at e hs hl
    · cases e4
  unfold lstB at h
  split at h
  · rename_i e; exact key _ _ _ e (by simp) h
  · rename_i e; exact key _ _ _ e (by simp) h
  · cases h
theorem listOf_g {h X : List Blk} {n c k : Nat} (hs : (lstB n (h ++ X)[h.length + k]?).isSome = true) : listOf (h ++ X) (.sl (.g (h.length + k)) 0 n c) = lstB n (h ++ X)[h.length + k]? := by
  obtain ⟨vs, e⟩ := Option.isSome_iff_exists.1 hs
  rw [e, lstB_list e]
theorem some_is {α : Type} {x : α} : (some x).isSome = true := by rfl
/-- What lay there is a list still. -/
theorem IsList.of {h : List Blk} {s : S} {vs : List Int} (H : IsList h s vs) (X : List Blk) : listOf (h ++ X) s = some vs := listOf_eq H.app

theorem M.part_ext {m : M} {x k : Nat} {vs : List Int} (h : x + k ≤ m.w.length) (hl : vs.length = k) (he : ∀ i, i < k → m.at ((x + i : Nat) : Int) = nth 0 vs i) : (m.w.drop x).take k = vs := by
  have hp := M.part_len h
  refine eq_of_nth (hp.trans hl.symm) fun i hi => ?_
  have hi' : i < k := by rw [show ((m.w.drop x).take k).length = k from hp] at hi; exact hi
  have := M.at_part (m := m) (x := x) hi'
  rw [← he i hi', ← this]; rfl

/-- A list of words that the function itself makes, in its b-th block. -/
def slW (b : Nat) : List Int → Nat → S
  | [], _ => .ns
  | _ :: v, c => .sl (.l b) 0 (v.length + 1) c
def lsW : List Int → Nat → List Blk
  | [], _ => []
  | x :: v, c => [⟨.rw, wc (x :: v), c⟩]
theorem M.readV_t {m : M} {i : Nat} (h : i + 1 ≤ m.w.length) : m.readV i = m.at i := by rw [M.readV, M.has_of (by omega), if_pos rfl]
theorem M.readE_t {m : M} {i : Nat} (h : i + 1 ≤ m.w.length) : m.readE i = 0 := by rw [M.readE, M.has_of (by omega), if_pos rfl]
theorem M.readX_t {m : M} {i : Nat} (h : i + 1 ≤ m.w.length) : m.readX i = m.tick 1 := by rw [M.readX, M.has_of (by omega), if_pos rfl]
theorem M.writeX_t {m : M} {i : Nat} {v : Int} (h : i + 1 ≤ m.w.length) : m.writeX i v = (m.put i v).tick 1 := by rw [M.writeX, M.has_of (by omega), if_pos rfl, Int.toNat_natCast]
theorem M.tick_tick (m : M) (a b : Int) : (m.tick a).tick b = m.tick (a + b) := M.ext' rfl (wrap_add _ _ _)
theorem M.tick_put (m : M) (a : Int) (i : Nat) (v : Int) : (m.tick a).put i v = (m.put i v).tick a := M.ext' rfl rfl
theorem M.tick_lay (a : Int) : ∀ (vs : List Int) (m : M) (o : Nat), (m.tick a).lay o vs = (m.lay o vs).tick a
  | [], _, _ => rfl
  | v :: vs, m, o => by simp only [M.lay, M.tick_put, M.tick_lay a vs]
theorem M.tick_at' (m : M) (a : Int) (j : Int) : (m.tick a).at j = m.at j := rfl

theorem M.copyE_or (m : M) (x y k : Int) : m.copyE x y k = 0 ∨ (m.copyE x y k = 20 ∧ m.copyX x y k = m) := by
  unfold M.copyE M.copyX
  split
  · exact .inl rfl
  · exact .inr ⟨rfl, rfl⟩
theorem M.fillE_or (m : M) (x k v : Int) : m.fillE x k = 0 ∨ (m.fillE x k = 20 ∧ m.fillX x k v = m) := by
  unfold M.fillE M.fillX
  split
  · exact .inl rfl
  · exact .inr ⟨rfl, rfl⟩
theorem M.loadX_n (m : M) (x : Int) (vs : List Int) : (m.loadX x vs).n = m.n := by
  unfold M.loadX; split
  · exact M.lay_n _ _ _
  · rfl
theorem MB_0 {b : Nat} {m : M} : (MB b m).cells[0]? = some (.sl (.g b) 0 m.w.length m.w.length) := by rfl
theorem MB_1 {b : Nat} {m : M} : (MB b m).cells[1]? = some (.i .i64 m.n) := by rfl
theorem MB_st {b : Nat} {m : M} : (MB b m).st = .rw := by rfl
theorem lstB_MW {n : Nat} {m : M} : lstB n (some (MW m)) = lenIs n m.w := by
  show (unwc (wc m.w)).bind (lenIs n) = _
  rw [unwc_wc]; rfl
end Go.Proofs.Yteeeidldknlblaa

/- Package walk, and the document's: Index, Walk. -/
namespace Go.Proofs.Yteeeidldknlblaa
open Go.D
set_option linter.all false
set_option maxRecDepth 100000
set_option maxHeartbeats 4000000

def virtB (v : Int) : Bool := decide (0 ≤ v ∧ v ≤ 65535)
def virtG : List V → List Blk → Res
  | [.s (.i .i64 v)], h => .ok (.s (.b (virtB v))) [] h
  | _, _ => .bad
theorem virt_and (v : Int) : (decide (0 ≤ v) && decide (v ≤ 65535)) = virtB v := by simp [virtB]
theorem wVirt_snd : Snd Try.prog 69 (FSpec.of virtG) := snd_run TwI_snd mixed Try.func69 dc69 100 fun args h K hc hS => by
  unfold virtG at hS
  split at hS
  · simp only [spec_ok] at hS
    rw [← virt_and] at hS
    simp (config := { maxSteps := 10000000 }) only [EV1, EV2, EV3, EV4, EV5, EV6, addT, istep, lenR_sl, lenR_ns, lenR_es, pickR, putD, bin1R, un1R, slcR, bnd, capsOf, fillP, S_plain, V_plain, V.cells, S_known, V_known, C.v, blk, setL, setH, eqS, eq1, cmpS, cmp1, isNil, popTo, killT, setT, leT, V.below, C.below, S_below, R.below, V.val, C.val, S_val, R.val, R.takes, vals, shows, List.any_cons, List.any_nil, unnamed, V.kill, V.names, C.names, S_names, R.names, List.set, List.replicate, ↓q_cond_t, ↓q_cond_f, if_true, if_false, reduceCtorEq, rvals, rvC, result, C_known, V.noL, C.noL, S_noL, R.noL, Option.map, true_and, and_true, ge_iff_le, gt_iff_lt, implies_true, q_ite_t, q_ite_f, beq_iff_eq, bne_iff_ne, q_ne, Nat.reduceAdd, Nat.reducePow, Int.reducePow, Nat.reduceMul, Nat.reduceSub, Nat.reduceLeDiff, Nat.reduceLT, Nat.reduceEqDiff, Int.reduceNeg, Int.reduceLT, Int.reduceLE, Int.reduceEq, Int.reduceNe, Int.reduceAdd, Int.reduceSub, Int.reduceMul, Int.reduceToNat, Int.reduceBEq, Int.reduceBNe, df69, TwI, wInG, tmod1]
    exact hS
  · exact hS.elim
theorem rVirt_snd : Snd Try.prog 71 (FSpec.of virtG) := snd_run (noT_snd _) mixed Try.func71 dc71 100 fun args h K hc hS => by
  unfold virtG at hS
  split at hS
  · simp only [spec_ok] at hS
    rw [← virt_and] at hS
    simp (config := { maxSteps := 10000000 }) only [EV1, EV2, EV3, EV4, EV5, EV6, addT, istep, lenR_sl, lenR_ns, lenR_es, pickR, putD, bin1R, un1R, slcR, bnd, capsOf, fillP, S_plain, V_plain, V.cells, S_known, V_known, C.v, blk, setL, setH, eqS, eq1, cmpS, cmp1, isNil, popTo, killT, setT, leT, V.below, C.below, S_below, R.below, V.val, C.val, S_val, R.val, R.takes, vals, shows, List.any_cons, List.any_nil, unnamed, V.kill, V.names, C.names, S_names, R.names, List.set, List.replicate, ↓q_cond_t, ↓q_cond_f, if_true, if_false, reduceCtorEq, rvals, rvC, result, C_known, V.noL, C.noL, S_noL, R.noL, Option.map, true_and, and_true, ge_iff_le, gt_iff_lt, implies_true, q_ite_t, q_ite_f, beq_iff_eq, bne_iff_ne, q_ne, Nat.reduceAdd, Nat.reducePow, Int.reducePow, Nat.reduceMul, Nat.reduceSub, Nat.reduceLeDiff, Nat.reduceLT, Nat.reduceEqDiff, Int.reduceNeg, Int.reduceLT, Int.reduceLE, Int.reduceEq, Int.reduceNe, Int.reduceAdd, Int.reduceSub, Int.reduceMul, Int.reduceToNat, Int.reduceBEq, Int.reduceBNe, df71]
    exact hS
  · exact hS.elim
noncomputable def TwV : Tab := addT 70 wInG (addT 69 virtG (noT))
theorem TwV_snd : TwV.Snd Try.prog := addT_snd ok70 wIn_snd (addT_snd ok69 wVirt_snd ((noT_snd _)))
theorem inIdx_iff {v l : Int} : inIdx v l = true ↔ virtB v = true ∧ 0 ≤ l ∧ l ≤ 3 := by simp [inIdx, virtB]; omega
theorem idx_snd : Snd Try.prog 40 (FSpec.of idxG) := snd_run TwV_snd mixed Try.func40 dc40 100 fun args h K hc hS => by
  unfold idxG at hS
  split at hS
  · rename_i v l
    simp only [spec_ok] at hS
    cases hv : virtB v with
    | false =>
      have : idxV v l = 0 := if_neg fun e => by rw [(inIdx_iff.1 e).1] at hv; cases hv
      rw [this] at hS
      simp (config := { maxSteps := 10000000 }) only [EV1, EV2, EV3, EV4, EV5, EV6, addT, istep, lenR_sl, lenR_ns, lenR_es, pickR, putD, bin1R, un1R, slcR, bnd, capsOf, fillP, S_plain, V_plain, V.cells, S_known, V_known, C.v, blk, setL, setH, eqS, eq1, cmpS, cmp1, isNil, popTo, killT, setT, leT, V.below, C.below, S_below, R.below, V.val, C.val, S_val, R.val, R.takes, vals, shows, List.any_cons, List.any_nil, unnamed, V.kill, V.names, C.names, S_names, R.names, List.set, List.replicate, ↓q_cond_t, ↓q_cond_f, if_true, if_false, reduceCtorEq, rvals, rvC, result, C_known, V.noL, C.noL, S_noL, R.noL, Option.map, true_and, and_true, ge_iff_le, gt_iff_lt, implies_true, q_ite_t, q_ite_f, beq_iff_eq, bne_iff_ne, q_ne, Nat.reduceAdd, Nat.reducePow, Int.reducePow, Nat.reduceMul, Nat.reduceSub, Nat.reduceLeDiff, Nat.reduceLT, Nat.reduceEqDiff, Int.reduceNeg, Int.reduceLT, Int.reduceLE, Int.reduceEq, Int.reduceNe, Int.reduceAdd, Int.reduceSub, Int.reduceMul, Int.reduceToNat, Int.reduceBEq, Int.reduceBNe, df40, TwV, wInG, virtG, tmod1, hv]
      exact hS
    | true =>
      by_cases c1 : 0 ≤ l
      · by_cases c2 : l ≤ 3
        · have hb : 0 ≤ v ∧ v ≤ 65535 := by simpa [virtB] using hv
          have hi : inIdx v l = true := inIdx_iff.2 ⟨hv, c1, c2⟩
          have hl : l = 0 ∨ l = 1 ∨ l = 2 ∨ l = 3 := by omega
          have x : IntKind.i64.bits = 64 := rfl
          have w13 : IntKind.i64.wrap 13 = 13 := rfl
          have w10 : IntKind.i64.wrap 10 = 10 := rfl
          have w7 : IntKind.i64.wrap 7 = 7 := rfl
          have w4 : IntKind.i64.wrap 4 = 4 := rfl
          have v0 : IntKind.i64.wrap 0 = 0 := rfl
          have v3 : IntKind.i64.wrap 3 = 3 := rfl
          have v6 : IntKind.i64.wrap 6 = 6 := rfl
          have v9 : IntKind.i64.wrap 9 = 9 := rfl
          have a1 : bits .and .i64 (v / 8192) 7 = v / 8192 % 8 := and7i (by omega) (by omega)
          have a2 : bits .and .i64 (v / 1024) 7 = v / 1024 % 8 := and7i (by omega) (by omega)
          have a3 : bits .and .i64 (v / 128) 7 = v / 128 % 8 := and7i (by omega) (by omega)
          have a4 : bits .and .i64 (v / 16) 7 = v / 16 % 8 := and7i (by omega) (by omega)
          have n13 : min 13 64 = 13 := rfl
          have n10 : min 10 64 = 10 := rfl
          have n7 : min 7 64 = 7 := rfl
          have n4 : min 4 64 = 4 := rfl
          unfold idxV at hS
          rw [if_pos hi] at hS
          rcases hl with rfl | rfl | rfl | rfl
          all_goals simp (config := { maxSteps := 10000000 }) only [EV1, EV2, EV3, EV4, EV5, EV6, addT, istep, lenR_sl, lenR_ns, lenR_es, pickR, putD, bin1R, un1R, slcR, bnd, capsOf, fillP, S_plain, V_plain, V.cells, S_known, V_known, C.v, blk, setL, setH, eqS, eq1, cmpS, cmp1, isNil, popTo, killT, setT, leT, V.below, C.below, S_below, R.below, V.val, C.val, S_val, R.val, R.takes, vals, shows, List.any_cons, List.any_nil, unnamed, V.kill, V.names, C.names, S_names, R.names, List.set, List.replicate, ↓q_cond_t, ↓q_cond_f, if_true, if_false, reduceCtorEq, rvals, rvC, result, C_known, V.noL, C.noL, S_noL, R.noL, Option.map, true_and, and_true, ge_iff_le, gt_iff_lt, implies_true, q_ite_t, q_ite_f, beq_iff_eq, bne_iff_ne, q_ne, Nat.reduceAdd, Nat.reducePow, Int.reducePow, Nat.reduceMul, Nat.reduceSub, Nat.reduceLeDiff, Nat.reduceLT, Nat.reduceEqDiff, Int.reduceNeg, Int.reduceLT, Int.reduceLE, Int.reduceEq, Int.reduceNe, Int.reduceAdd, Int.reduceSub, Int.reduceMul, Int.reduceToNat, Int.reduceBEq, Int.reduceBNe, df40, TwV, wInG, virtG, tmod1, hv, x, w13, w10, w7, w4, v0, v3, v6, v9, a1, a2, a3, a4, n13, n10, n7, n4]
          all_goals exact hS
        · have : idxV v l = 0 := if_neg fun e => c2 (inIdx_iff.1 e).2.2
          rw [this] at hS
          simp (config := { maxSteps := 10000000 }) only [EV1, EV2, EV3, EV4, EV5, EV6, addT, istep, lenR_sl, lenR_ns, lenR_es, pickR, putD, bin1R, un1R, slcR, bnd, capsOf, fillP, S_plain, V_plain, V.cells, S_known, V_known, C.v, blk, setL, setH, eqS, eq1, cmpS, cmp1, isNil, popTo, killT, setT, leT, V.below, C.below, S_below, R.below, V.val, C.val, S_val, R.val, R.takes, vals, shows, List.any_cons, List.any_nil, unnamed, V.kill, V.names, C.names, S_names, R.names, List.set, List.replicate, ↓q_cond_t, ↓q_cond_f, if_true, if_false, reduceCtorEq, rvals, rvC, result, C_known, V.noL, C.noL, S_noL, R.noL, Option.map, true_and, and_true, ge_iff_le, gt_iff_lt, implies_true, q_ite_t, q_ite_f, beq_iff_eq, bne_iff_ne, q_ne, Nat.reduceAdd, Nat.reducePow, Int.reducePow, Nat.reduceMul, Nat.reduceSub, Nat.reduceLeDiff, Nat.reduceLT, Nat.reduceEqDiff, Int.reduceNeg, Int.reduceLT, Int.reduceLE, Int.reduceEq, Int.reduceNe, Int.reduceAdd, Int.reduceSub, Int.reduceMul, Int.reduceToNat, Int.reduceBEq, Int.reduceBNe, df40, TwV, wInG, virtG, tmod1, hv, c1, c2]
          exact hS
      · have : idxV v l = 0 := if_neg fun e => c1 (inIdx_iff.1 e).2.1
        rw [this] at hS
        simp (config := { maxSteps := 10000000 }) only [EV1, EV2, EV3, EV4, EV5, EV6, addT, istep, lenR_sl, lenR_ns, lenR_es, pickR, putD, bin1R, un1R, slcR, bnd, capsOf, fillP, S_plain, V_plain, V.cells, S_known, V_known, C.v, blk, setL, setH, eqS, eq1, cmpS, cmp1, isNil, popTo, killT, setT, leT, V.below, C.below, S_below, R.below, V.val, C.val, S_val, R.val, R.takes, vals, shows, List.any_cons, List.any_nil, unnamed, V.kill, V.names, C.names, S_names, R.names, List.set, List.replicate, ↓q_cond_t, ↓q_cond_f, if_true, if_false, reduceCtorEq, rvals, rvC, result, C_known, V.noL, C.noL, S_noL, R.noL, Option.map, true_and, and_true, ge_iff_le, gt_iff_lt, implies_true, q_ite_t, q_ite_f, beq_iff_eq, bne_iff_ne, q_ne, Nat.reduceAdd, Nat.reducePow, Int.reducePow, Nat.reduceMul, Nat.reduceSub, Nat.reduceLeDiff, Nat.reduceLT, Nat.reduceEqDiff, Int.reduceNeg, Int.reduceLT, Int.reduceLE, Int.reduceEq, Int.reduceNe, Int.reduceAdd, Int.reduceSub, Int.reduceMul, Int.reduceToNat, Int.reduceBEq, Int.reduceBNe, df40, TwV, wInG, virtG, tmod1, hv, c1]
        exact hS
  · exact hS.elim
noncomputable def TrV : Tab := addT 71 virtG (noT)
theorem TrV_snd : TrV.Snd Try.prog := addT_snd ok71 rVirt_snd ((noT_snd _))
theorem ridx_snd : Snd Try.prog 41 (FSpec.of idxG) := snd_run TrV_snd mixed Try.func41 dc41 100 fun args h K hc hS => by
  unfold idxG at hS
  split at hS
  · rename_i v l
    simp only [spec_ok] at hS
    cases hv : virtB v with
    | false =>
      have : idxV v l = 0 := if_neg fun e => by rw [(inIdx_iff.1 e).1] at hv; cases hv
      rw [this] at hS
      simp (config := { maxSteps := 10000000 }) only [EV1, EV2, EV3, EV4, EV5, EV6, addT, istep, lenR_sl, lenR_ns, lenR_es, pickR, putD, bin1R, un1R, slcR, bnd, capsOf, fillP, S_plain, V_plain, V.cells, S_known, V_known, C.v, blk, setL, setH, eqS, eq1, cmpS, cmp1, isNil, popTo, killT, setT, leT, V.below, C.below, S_below, R.below, V.val, C.val, S_val, R.val, R.takes, vals, shows, List.any_cons, List.any_nil, unnamed, V.kill, V.names, C.names, S_names, R.names, List.set, List.replicate, ↓q_cond_t, ↓q_cond_f, if_true, if_false, reduceCtorEq, rvals, rvC, result, C_known, V.noL, C.noL, S_noL, R.noL, Option.map, true_and, and_true, ge_iff_le, gt_iff_lt, implies_true, q_ite_t, q_ite_f, beq_iff_eq, bne_iff_ne, q_ne, Nat.reduceAdd, Nat.reducePow, Int.reducePow, Nat.reduceMul, Nat.reduceSub, Nat.reduceLeDiff, Nat.reduceLT, Nat.reduceEqDiff, Int.reduceNeg, Int.reduceLT, Int.reduceLE, Int.reduceEq, Int.reduceNe, Int.reduceAdd, Int.reduceSub, Int.reduceMul, Int.reduceToNat, Int.reduceBEq, Int.reduceBNe, df41, TrV, virtG, hv]
      exact hS
    | true =>
      by_cases c1 : l < 0
      · have : idxV v l = 0 := if_neg fun e => by have := (inIdx_iff.1 e).2.1; omega
        rw [this] at hS
        simp (config := { maxSteps := 10000000 }) only [EV1, EV2, EV3, EV4, EV5, EV6, addT, istep, lenR_sl, lenR_ns, lenR_es, pickR, putD, bin1R, un1R, slcR, bnd, capsOf, fillP, S_plain, V_plain, V.cells, S_known, V_known, C.v, blk, setL, setH, eqS, eq1, cmpS, cmp1, isNil, popTo, killT, setT, leT, V.below, C.below, S_below, R.below, V.val, C.val, S_val, R.val, R.takes, vals, shows, List.any_cons, List.any_nil, unnamed, V.kill, V.names, C.names, S_names, R.names, List.set, List.replicate, ↓q_cond_t, ↓q_cond_f, if_true, if_false, reduceCtorEq, rvals, rvC, result, C_known, V.noL, C.noL, S_noL, R.noL, Option.map, true_and, and_true, ge_iff_le, gt_iff_lt, implies_true, q_ite_t, q_ite_f, beq_iff_eq, bne_iff_ne, q_ne, Nat.reduceAdd, Nat.reducePow, Int.reducePow, Nat.reduceMul, Nat.reduceSub, Nat.reduceLeDiff, Nat.reduceLT, Nat.reduceEqDiff, Int.reduceNeg, Int.reduceLT, Int.reduceLE, Int.reduceEq, Int.reduceNe, Int.reduceAdd, Int.reduceSub, Int.reduceMul, Int.reduceToNat, Int.reduceBEq, Int.reduceBNe, df41, TrV, virtG, hv, c1]
        exact hS
      by_cases c2 : 3 < l
      · have : idxV v l = 0 := if_neg fun e => by have := (inIdx_iff.1 e).2.2; omega
        rw [this] at hS
        simp (config := { maxSteps := 10000000 }) only [EV1, EV2, EV3, EV4, EV5, EV6, addT, istep, lenR_sl, lenR_ns, lenR_es, pickR, putD, bin1R, un1R, slcR, bnd, capsOf, fillP, S_plain, V_plain, V.cells, S_known, V_known, C.v, blk, setL, setH, eqS, eq1, cmpS, cmp1, isNil, popTo, killT, setT, leT, V.below, C.below, S_below, R.below, V.val, C.val, S_val, R.val, R.takes, vals, shows, List.any_cons, List.any_nil, unnamed, V.kill, V.names, C.names, S_names, R.names, List.set, List.replicate, ↓q_cond_t, ↓q_cond_f, if_true, if_false, reduceCtorEq, rvals, rvC, result, C_known, V.noL, C.noL, S_noL, R.noL, Option.map, true_and, and_true, ge_iff_le, gt_iff_lt, implies_true, q_ite_t, q_ite_f, beq_iff_eq, bne_iff_ne, q_ne, Nat.reduceAdd, Nat.reducePow, Int.reducePow, Nat.reduceMul, Nat.reduceSub, Nat.reduceLeDiff, Nat.reduceLT, Nat.reduceEqDiff, Int.reduceNeg, Int.reduceLT, Int.reduceLE, Int.reduceEq, Int.reduceNe, Int.reduceAdd, Int.reduceSub, Int.reduceMul, Int.reduceToNat, Int.reduceBEq, Int.reduceBNe, df41, TrV, virtG, hv, c1, c2]
        exact hS
      have hb : 0 ≤ v ∧ v ≤ 65535 := by simpa [virtB] using hv
      have hi : inIdx v l = true := inIdx_iff.2 ⟨hv, by omega, by omega⟩
      unfold idxV at hS
      rw [if_pos hi] at hS
      obtain ⟨k, rfl⟩ : ∃ k : Nat, l = k := ⟨l.toNat, by omega⟩
      obtain ⟨n, rfl⟩ : ∃ n : Nat, v = n := ⟨v.toNat, by omega⟩
      have q16 : IntKind.i64.wrap ((n : Int).tdiv 16) = ((n / 16 : Nat) : Int) := by
        rw [Int.tdiv_eq_ediv_of_nonneg (by omega), wrap64] <;> omega
      simp (config := { maxSteps := 10000000 }) only [EV1, EV2, EV3, EV4, EV5, EV6, addT, istep, lenR_sl, lenR_ns, lenR_es, pickR, putD, bin1R, un1R, slcR, bnd, capsOf, fillP, S_plain, V_plain, V.cells, S_known, V_known, C.v, blk, setL, setH, eqS, eq1, cmpS, cmp1, isNil, popTo, killT, setT, leT, V.below, C.below, S_below, R.below, V.val, C.val, S_val, R.val, R.takes, vals, shows, List.any_cons, List.any_nil, unnamed, V.kill, V.names, C.names, S_names, R.names, List.set, List.replicate, ↓q_cond_t, ↓q_cond_f, if_true, if_false, reduceCtorEq, rvals, rvC, result, C_known, V.noL, C.noL, S_noL, R.noL, Option.map, true_and, and_true, ge_iff_le, gt_iff_lt, implies_true, q_ite_t, q_ite_f, beq_iff_eq, bne_iff_ne, q_ne, Nat.reduceAdd, Nat.reducePow, Int.reducePow, Nat.reduceMul, Nat.reduceSub, Nat.reduceLeDiff, Nat.reduceLT, Nat.reduceEqDiff, Int.reduceNeg, Int.reduceLT, Int.reduceLE, Int.reduceEq, Int.reduceNe, Int.reduceAdd, Int.reduceSub, Int.reduceMul, Int.reduceToNat, Int.reduceBEq, Int.reduceBNe, df41, TrV, virtG, hv, c1, c2, q16]
      refine loop_rule (α := Nat) [6, 7, 22, 23, 24, 25, 26, 27, 28] (fun i => [(6, .s (.i .i64 ((n / 2 ^ (13 - 3 * i) : Nat) : Int))), (7, .s (.i .i64 i))]) (fun _ => []) (fun _ => h) (fun i => k ≤ i ∧ i ≤ 3) (fun i => i) 3 ⟨by omega, by omega⟩ ?_ ?_
      · refine Wk.same rfl rfl ?_
        simp (config := { maxSteps := 10000000 }) only [EV1, EV2, EV3, EV4, EV5, EV6, addT, istep, lenR_sl, lenR_ns, lenR_es, pickR, putD, bin1R, un1R, slcR, bnd, capsOf, fillP, S_plain, V_plain, V.cells, S_known, V_known, C.v, blk, setL, setH, eqS, eq1, cmpS, cmp1, isNil, popTo, killT, setT, leT, V.below, C.below, S_below, R.below, V.val, C.val, S_val, R.val, R.takes, vals, shows, List.any_cons, List.any_nil, unnamed, V.kill, V.names, C.names, S_names, R.names, List.set, List.replicate, ↓q_cond_t, ↓q_cond_f, if_true, if_false, reduceCtorEq, rvals, rvC, result, C_known, V.noL, C.noL, S_noL, R.noL, Option.map, true_and, and_true, ge_iff_le, gt_iff_lt, implies_true, q_ite_t, q_ite_f, beq_iff_eq, bne_iff_ne, q_ne, Nat.reduceAdd, Nat.reducePow, Int.reducePow, Nat.reduceMul, Nat.reduceSub, Nat.reduceLeDiff, Nat.reduceLT, Nat.reduceEqDiff, Int.reduceNeg, Int.reduceLT, Int.reduceLE, Int.reduceEq, Int.reduceNe, Int.reduceAdd, Int.reduceSub, Int.reduceMul, Int.reduceToNat, Int.reduceBEq, Int.reduceBNe, q_cast]
      · rintro X i ⟨h1, h2⟩ IH
        rcases Nat.lt_or_ge k i with h3 | h3
        · have d1 : (k : Int) < i := by omega
          have w1 : IntKind.i64.wrap ((i : Int) - 1) = ((i - 1 : Nat) : Int) := by rw [wrap64] <;> omega
          have ple : n / 2 ^ (13 - 3 * i) ≤ n := Nat.div_le_self _ _
          have e1 : n / 2 ^ (13 - 3 * i) / 8 = n / 2 ^ (13 - 3 * (i - 1)) := by
            rw [Nat.div_div_eq_div_mul, show 13 - 3 * (i - 1) = (13 - 3 * i) + 3 by omega, Nat.pow_add]
          have w2 : IntKind.i64.wrap (((n / 2 ^ (13 - 3 * i) : Nat) : Int).tdiv 8) = ((n / 2 ^ (13 - 3 * (i - 1)) : Nat) : Int) := by
            rw [← e1]
            obtain ⟨p, hp⟩ : ∃ p, n / 2 ^ (13 - 3 * i) = p := ⟨_, rfl⟩
            rw [hp] at ple ⊢
            rw [Int.tdiv_eq_ediv_of_nonneg (by omega), wrap64] <;> omega
          refine run_sound (Tab.ok_Γ _) 100 _ _ _ _ ?_
          simp (config := { maxSteps := 10000000 }) only [EV1, EV2, EV3, EV4, EV5, EV6, addT, istep, lenR_sl, lenR_ns, lenR_es, pickR, putD, bin1R, un1R, slcR, bnd, capsOf, fillP, S_plain, V_plain, V.cells, S_known, V_known, C.v, blk, setL, setH, eqS, eq1, cmpS, cmp1, isNil, popTo, killT, setT, leT, V.below, C.below, S_below, R.below, V.val, C.val, S_val, R.val, R.takes, vals, shows, List.any_cons, List.any_nil, unnamed, V.kill, V.names, C.names, S_names, R.names, List.set, List.replicate, ↓q_cond_t, ↓q_cond_f, if_true, if_false, reduceCtorEq, rvals, rvC, result, C_known, V.noL, C.noL, S_noL, R.noL, Option.map, true_and, and_true, ge_iff_le, gt_iff_lt, implies_true, q_ite_t, q_ite_f, beq_iff_eq, bne_iff_ne, q_ne, Nat.reduceAdd, Nat.reducePow, Int.reducePow, Nat.reduceMul, Nat.reduceSub, Nat.reduceLeDiff, Nat.reduceLT, Nat.reduceEqDiff, Int.reduceNeg, Int.reduceLT, Int.reduceLE, Int.reduceEq, Int.reduceNe, Int.reduceAdd, Int.reduceSub, Int.reduceMul, Int.reduceToNat, Int.reduceBEq, Int.reduceBNe, d1, w1, w2]
          exact IH (i - 1) _ (by omega) ⟨by omega, by omega⟩ (Wk.same rfl rfl (by simp (config := { maxSteps := 10000000 }) only [EV1, EV2, EV3, EV4, EV5, EV6, addT, istep, lenR_sl, lenR_ns, lenR_es, pickR, putD, bin1R, un1R, slcR, bnd, capsOf, fillP, S_plain, V_plain, V.cells, S_known, V_known, C.v, blk, setL, setH, eqS, eq1, cmpS, cmp1, isNil, popTo, killT, setT, leT, V.below, C.below, S_below, R.below, V.val, C.val, S_val, R.val, R.takes, vals, shows, List.any_cons, List.any_nil, unnamed, V.kill, V.names, C.names, S_names, R.names, List.set, List.replicate, ↓q_cond_t, ↓q_cond_f, if_true, if_false, reduceCtorEq, rvals, rvC, result, C_known, V.noL, C.noL, S_noL, R.noL, Option.map, true_and, and_true, ge_iff_le, gt_iff_lt, implies_true, q_ite_t, q_ite_f, beq_iff_eq, bne_iff_ne, q_ne, Nat.reduceAdd, Nat.reducePow, Int.reducePow, Nat.reduceMul, Nat.reduceSub, Nat.reduceLeDiff, Nat.reduceLT, Nat.reduceEqDiff, Int.reduceNeg, Int.reduceLT, Int.reduceLE, Int.reduceEq, Int.reduceNe, Int.reduceAdd, Int.reduceSub, Int.reduceMul, Int.reduceToNat, Int.reduceBEq, Int.reduceBNe]))
        · have e : i = k := by omega
          subst e
          have t1 : (((n / 2 ^ (13 - 3 * i) : Nat) : Int)).tmod 8 = ((n : Int) / ((2 ^ (13 - 3 * (i : Int).toNat) : Nat) : Int)) % 8 := by
            rw [Int.tmod_eq_emod_of_nonneg (Int.natCast_nonneg _), Int.natCast_ediv, Int.toNat_natCast]
          refine run_sound (Tab.ok_Γ _) 100 _ _ _ _ ?_
          simp (config := { maxSteps := 10000000 }) only [EV1, EV2, EV3, EV4, EV5, EV6, addT, istep, lenR_sl, lenR_ns, lenR_es, pickR, putD, bin1R, un1R, slcR, bnd, capsOf, fillP, S_plain, V_plain, V.cells, S_known, V_known, C.v, blk, setL, setH, eqS, eq1, cmpS, cmp1, isNil, popTo, killT, setT, leT, V.below, C.below, S_below, R.below, V.val, C.val, S_val, R.val, R.takes, vals, shows, List.any_cons, List.any_nil, unnamed, V.kill, V.names, C.names, S_names, R.names, List.set, List.replicate, ↓q_cond_t, ↓q_cond_f, if_true, if_false, reduceCtorEq, rvals, rvC, result, C_known, V.noL, C.noL, S_noL, R.noL, Option.map, true_and, and_true, ge_iff_le, gt_iff_lt, implies_true, q_ite_t, q_ite_f, beq_iff_eq, bne_iff_ne, q_ne, Nat.reduceAdd, Nat.reducePow, Int.reducePow, Nat.reduceMul, Nat.reduceSub, Nat.reduceLeDiff, Nat.reduceLT, Nat.reduceEqDiff, Int.reduceNeg, Int.reduceLT, Int.reduceLE, Int.reduceEq, Int.reduceNe, Int.reduceAdd, Int.reduceSub, Int.reduceMul, Int.reduceToNat, Int.reduceBEq, Int.reduceBNe, Int.lt_irrefl, t1]
          exact hS
  · exact hS.elim

/-! ### a walk -/
structure WR where
  a : Int
  r : Int
  l : Int
  e : Int
  m : M
def WR.v (x : WR) : V := .tup [.s (.i .i64 x.a), .s (.i .i64 x.r), .s (.i .i64 x.l), .s (.i .i64 x.e)]
/-- Where a level's entry lies. -/
def atW (t v l : Int) : Int := t + idxV v l
/-- Does an entry lead on, or to the frame? -/
def stepB (m : M) (t v l : Int) : Bool := m.has (atW t v l) 1 && (enB (m.readV (atW t v l)) && ((enOf (m.readV (atW t v l))).v && ((enOf (m.readV (atW t v l))).l == (l == 3))))
def walkF (v : Int) : Nat → M → Int → Int → WR
  | 0, m, _, _ => ⟨0, 0, 3, 50, m⟩
  | n + 1, m, t, l =>
    if stepB m t v l then
      (if l = 3 then ⟨(enOf (m.readV (atW t v l))).a, (enOf (m.readV (atW t v l))).r, l, 0, m.readX (atW t v l)⟩
      else walkF v n (m.readX (atW t v l)) (enOf (m.readV (atW t v l))).a (l + 1))
    else ⟨0, 0, l, 50, m.readX (atW t v l)⟩
def walkM (b : Nat) (m : M) (st : M → List Blk) : List V → Res
  | [.s (.i .i64 t), .s (.i .i64 v)] => .br (virtB v && virtB t) (.ok (walkF v 4 m t 0).v [] (st (walkF v 4 m t 0).m)) (.ok (WR.mk 0 0 0 1 m).v [] (st m))
  | _ => .bad
noncomputable def walkG := memF walkM
theorem M.readV_u (m : M) (i : Int) : u64 (m.readV i) := by
  unfold M.readV; split
  · exact m.at_u i
  · exact u64_0
theorem en_lim {w : Int} (h : enB w = true) : 0 ≤ (enOf w).a ∧ (enOf w).a ≤ 65528 := by
  simp only [enB, Bool.and_eq_true] at h
  have := En.w_uu h.1
  exact ⟨this.2.1, this.2.2.1⟩
/-- One level: where it ends, and where it goes on. -/
theorem walk_stop {v : Int} {n : Nat} {m : M} {t l : Int} (h : stepB m t v l = false) : walkF v (n + 1) m t l = ⟨0, 0, l, 50, m.readX (atW t v l)⟩ := by
  rw [walkF, h]; rfl
theorem walk_on {v : Int} {n : Nat} {m : M} {t l : Int} (h : stepB m t v l = true) (hl : l ≠ 3) : walkF v (n + 1) m t l = walkF v n (m.readX (atW t v l)) (enOf (m.readV (atW t v l))).a (l + 1) := by
  rw [walkF, h, if_pos rfl, if_neg hl]
theorem walk_end {v : Int} {n : Nat} {m : M} {t l : Int} (h : stepB m t v l = true) (hl : l = 3) : walkF v (n + 1) m t l = ⟨(enOf (m.readV (atW t v l))).a, (enOf (m.readV (atW t v l))).r, l, 0, m.readX (atW t v l)⟩ := by
  rw [walkF, h, if_pos rfl, if_pos hl]
theorem at_wrap {t v l : Int} (h : 0 ≤ t ∧ t ≤ 65535) : IntKind.i64.wrap (t + idxV v l) = atW t v l := by
  have := idxV_bound v l
  rw [atW, wrap64] <;> omega
/-- The ways in which a level may end. -/
theorem stepB_cases (m : M) (t v l : Int) : (stepB m t v l = false ∧ m.readE (atW t v l) = 20 ∧ m.readV (atW t v l) = 0) ∨ (stepB m t v l = false ∧ m.readE (atW t v l) = 0 ∧ enB (m.readV (atW t v l)) = false) ∨
    (m.readE (atW t v l) = 0 ∧ enB (m.readV (atW t v l)) = true ∧ stepB m t v l = ((enOf (m.readV (atW t v l))).v && ((enOf (m.readV (atW t v l))).l == (l == 3)))) := by
  cases h1 : m.has (atW t v l) 1 with
  | false =>
    refine .inl ⟨by simp [stepB, h1], ?_, ?_⟩
    · simp only [M.readE, h1]; rfl
    · simp only [M.readV, h1]; rfl
  | true =>
    have he : m.readE (atW t v l) = 0 := by simp only [M.readE, h1, if_true]
    cases h2 : enB (m.readV (atW t v l)) with
    | false => exact .inr (.inl ⟨by simp [stepB, h2], he, rfl⟩)
    | true => exact .inr (.inr ⟨he, rfl, by simp [stepB, h1, h2]⟩)
theorem enB_0 : enB 0 = true := by decide
noncomputable def TwW : Tab := addT 70 wInG (addT 69 virtG (addT 40 idxG (addT 38 decEG (addT 30 read2G (addT 71 virtG (addT 41 idxG (addT 39 decEG (addT 44 read2G (noT)))))))))
theorem TwW_snd : TwW.Snd Try.prog := addT_snd ok70 wIn_snd (addT_snd ok69 wVirt_snd (addT_snd ok40 idx_snd (addT_snd ok38 decE_snd (addT_snd ok30 read2_snd (addT_snd ok71 rVirt_snd (addT_snd ok41 ridx_snd (addT_snd ok39 rdecE_snd (addT_snd ok44 rread2_snd ((noT_snd _))))))))))
end Go.Proofs.Yteeeidldknlblaa

/- Package walk, and the document's: Walk. (Printed by gen_V5.py.) -/
namespace Go.Proofs.Yteeeidldknlblaa
open Go.D
set_option linter.all false
set_option maxRecDepth 100000
set_option maxHeartbeats 4000000

theorem beq03 : ((0 : Int) == 3) = false := rfl
theorem wWalk_snd : Snd Try.prog 43 (FSpec.of walkG) := snd_run TwW_snd mixed Try.func43 dc43 300 fun args h K hc hS => by
  obtain ⟨a, b, m, rest, rfl, H, hS1⟩ := memF_spec hS
  clear hS
  have hS := hS1
  clear hS1
  unfold walkM at hS
  split at hS
  · rename_i t v
    simp only [spec_br, spec_ok, setM_self H, WR.v, Bool.and_eq_true] at hS
    cases hv : virtB v with
    | false =>
      have hS := hS.2 (by rw [hv]; rfl)
      simp (config := { maxSteps := 10000000 }) only [EV1, EV2, EV3, EV4, EV5, EV6, addT, istep, lenR_sl, lenR_ns, lenR_es, pickR, putD, bin1R, un1R, slcR, bnd, capsOf, fillP, S_plain, V_plain, V.cells, S_known, V_known, C.v, blk, setL, setH, eqS, eq1, cmpS, cmp1, isNil, popTo, killT, setT, leT, V.below, C.below, S_below, R.below, V.val, C.val, S_val, R.val, R.takes, vals, shows, List.any_cons, List.any_nil, unnamed, V.kill, V.names, C.names, S_names, R.names, List.set, List.replicate, ↓q_cond_t, ↓q_cond_f, if_true, if_false, reduceCtorEq, rvals, rvC, result, C_known, V.noL, C.noL, S_noL, R.noL, Option.map, true_and, and_true, ge_iff_le, gt_iff_lt, implies_true, q_ite_t, q_ite_f, beq_iff_eq, bne_iff_ne, q_ne, Nat.reduceAdd, Nat.reducePow, Int.reducePow, Nat.reduceMul, Nat.reduceSub, Nat.reduceLeDiff, Nat.reduceLT, Nat.reduceEqDiff, Int.reduceNeg, Int.reduceLT, Int.reduceLE, Int.reduceEq, Int.reduceNe, Int.reduceAdd, Int.reduceSub, Int.reduceMul, Int.reduceToNat, Int.reduceBEq, Int.reduceBNe, df43, TwW, virtG, hv]
      exact hS
    | true =>
      cases htt : virtB t with
      | false =>
        have hS := hS.2 (by rw [hv, htt]; rfl)
        have ht : (decide (0 ≤ t) && decide (t ≤ 65535)) = false := by rw [virt_and, htt]
        simp (config := { maxSteps := 10000000 }) only [EV1, EV2, EV3, EV4, EV5, EV6, addT, istep, lenR_sl, lenR_ns, lenR_es, pickR, putD, bin1R, un1R, slcR, bnd, capsOf, fillP, S_plain, V_plain, V.cells, S_known, V_known, C.v, blk, setL, setH, eqS, eq1, cmpS, cmp1, isNil, popTo, killT, setT, leT, V.below, C.below, S_below, R.below, V.val, C.val, S_val, R.val, R.takes, vals, shows, List.any_cons, List.any_nil, unnamed, V.kill, V.names, C.names, S_names, R.names, List.set, List.replicate, ↓q_cond_t, ↓q_cond_f, if_true, if_false, reduceCtorEq, rvals, rvC, result, C_known, V.noL, C.noL, S_noL, R.noL, Option.map, true_and, and_true, ge_iff_le, gt_iff_lt, implies_true, q_ite_t, q_ite_f, beq_iff_eq, bne_iff_ne, q_ne, Nat.reduceAdd, Nat.reducePow, Int.reducePow, Nat.reduceMul, Nat.reduceSub, Nat.reduceLeDiff, Nat.reduceLT, Nat.reduceEqDiff, Int.reduceNeg, Int.reduceLT, Int.reduceLE, Int.reduceEq, Int.reduceNe, Int.reduceAdd, Int.reduceSub, Int.reduceMul, Int.reduceToNat, Int.reduceBEq, Int.reduceBNe, df43, TwW, virtG, wInG, tmod1, hv, ht]
        exact hS
      | true =>
        have hS := hS.1 ⟨hv, htt⟩
        have ht : (decide (0 ≤ t) && decide (t ≤ 65535)) = true := by rw [virt_and, htt]
        have htb : 0 ≤ t ∧ t ≤ 65535 := by simpa [virtB] using htt
        have aw := at_wrap (v := v) (l := 0) htb
        have hu := M.readV_u m (atW t v 0)
        obtain ⟨w, hw⟩ : ∃ w, m.readV (atW t v 0) = w := ⟨_, rfl⟩
        obtain ⟨m1, hm1⟩ : ∃ m1, m.readX (atW t v 0) = m1 := ⟨_, rfl⟩
        rw [hw] at hu
        rcases stepB_cases m t v 0 with ⟨hs, he, hv0⟩ | ⟨hs, he, hb⟩ | ⟨he, hb, hs⟩
        · rw [hw] at hv0
          subst hv0
          rw [walk_stop hs, hm1] at hS
          simp (config := { maxSteps := 10000000 }) only [EV1, EV2, EV3, EV4, EV5, EV6, addT, istep, lenR_sl, lenR_ns, lenR_es, pickR, putD, bin1R, un1R, slcR, bnd, capsOf, fillP, S_plain, V_plain, V.cells, S_known, V_known, C.v, blk, setL, setH, eqS, eq1, cmpS, cmp1, isNil, popTo, killT, setT, leT, V.below, C.below, S_below, R.below, V.val, C.val, S_val, R.val, R.takes, vals, shows, List.any_cons, List.any_nil, unnamed, V.kill, V.names, C.names, S_names, R.names, List.set, List.replicate, ↓q_cond_t, ↓q_cond_f, if_true, if_false, reduceCtorEq, rvals, rvC, result, C_known, V.noL, C.noL, S_noL, R.noL, Option.map, true_and, and_true, ge_iff_le, gt_iff_lt, implies_true, q_ite_t, q_ite_f, beq_iff_eq, bne_iff_ne, q_ne, Nat.reduceAdd, Nat.reducePow, Int.reducePow, Nat.reduceMul, Nat.reduceSub, Nat.reduceLeDiff, Nat.reduceLT, Nat.reduceEqDiff, Int.reduceNeg, Int.reduceLT, Int.reduceLE, Int.reduceEq, Int.reduceNe, Int.reduceAdd, Int.reduceSub, Int.reduceMul, Int.reduceToNat, Int.reduceBEq, Int.reduceBNe, df43, virtG, wInG, tmod1, ht, memF_eq H, memF_set H, setM_self H, TwW, idxG, read2G, read2M, decEG, En.c, hv, hu, aw, put, fillP, hw, hm1, he, enB_0]
          exact hS
        · rw [hw] at hb
          rw [walk_stop hs, hm1] at hS
          simp (config := { maxSteps := 10000000 }) only [EV1, EV2, EV3, EV4, EV5, EV6, addT, istep, lenR_sl, lenR_ns, lenR_es, pickR, putD, bin1R, un1R, slcR, bnd, capsOf, fillP, S_plain, V_plain, V.cells, S_known, V_known, C.v, blk, setL, setH, eqS, eq1, cmpS, cmp1, isNil, popTo, killT, setT, leT, V.below, C.below, S_below, R.below, V.val, C.val, S_val, R.val, R.takes, vals, shows, List.any_cons, List.any_nil, unnamed, V.kill, V.names, C.names, S_names, R.names, List.set, List.replicate, ↓q_cond_t, ↓q_cond_f, if_true, if_false, reduceCtorEq, rvals, rvC, result, C_known, V.noL, C.noL, S_noL, R.noL, Option.map, true_and, and_true, ge_iff_le, gt_iff_lt, implies_true, q_ite_t, q_ite_f, beq_iff_eq, bne_iff_ne, q_ne, Nat.reduceAdd, Nat.reducePow, Int.reducePow, Nat.reduceMul, Nat.reduceSub, Nat.reduceLeDiff, Nat.reduceLT, Nat.reduceEqDiff, Int.reduceNeg, Int.reduceLT, Int.reduceLE, Int.reduceEq, Int.reduceNe, Int.reduceAdd, Int.reduceSub, Int.reduceMul, Int.reduceToNat, Int.reduceBEq, Int.reduceBNe, df43, virtG, wInG, tmod1, ht, memF_eq H, memF_set H, setM_self H, TwW, idxG, read2G, read2M, decEG, En.c, hv, hu, aw, put, fillP, hw, hm1, he, hb]
          exact hS
        · rw [hw] at hb hs
          cases hxv : (enOf w).v with
          | false =>
            rw [hxv, Bool.false_and] at hs
            rw [walk_stop hs, hm1] at hS
            simp (config := { maxSteps := 10000000 }) only [EV1, EV2, EV3, EV4, EV5, EV6, addT, istep, lenR_sl, lenR_ns, lenR_es, pickR, putD, bin1R, un1R, slcR, bnd, capsOf, fillP, S_plain, V_plain, V.cells, S_known, V_known, C.v, blk, setL, setH, eqS, eq1, cmpS, cmp1, isNil, popTo, killT, setT, leT, V.below, C.below, S_below, R.below, V.val, C.val, S_val, R.val, R.takes, vals, shows, List.any_cons, List.any_nil, unnamed, V.kill, V.names, C.names, S_names, R.names, List.set, List.replicate, ↓q_cond_t, ↓q_cond_f, if_true, if_false, reduceCtorEq, rvals, rvC, result, C_known, V.noL, C.noL, S_noL, R.noL, Option.map, true_and, and_true, ge_iff_le, gt_iff_lt, implies_true, q_ite_t, q_ite_f, beq_iff_eq, bne_iff_ne, q_ne, Nat.reduceAdd, Nat.reducePow, Int.reducePow, Nat.reduceMul, Nat.reduceSub, Nat.reduceLeDiff, Nat.reduceLT, Nat.reduceEqDiff, Int.reduceNeg, Int.reduceLT, Int.reduceLE, Int.reduceEq, Int.reduceNe, Int.reduceAdd, Int.reduceSub, Int.reduceMul, Int.reduceToNat, Int.reduceBEq, Int.reduceBNe, df43, virtG, wInG, tmod1, ht, memF_eq H, memF_set H, setM_self H, TwW, idxG, read2G, read2M, decEG, En.c, hv, hu, aw, put, fillP, hw, hm1, he, hb, hxv]
            exact hS
          | true =>
            cases hxl : (enOf w).l with
            | false =>
              rw [hxv, hxl] at hs
              have hs : stepB m t v 0 = true := hs
              rw [walk_on hs (by decide), hm1, hw] at hS
              have tb := en_lim hb
              have w01 : IntKind.i64.wrap 1 = 1 := rfl
              simp (config := { maxSteps := 10000000 }) only [EV1, EV2, EV3, EV4, EV5, EV6, addT, istep, lenR_sl, lenR_ns, lenR_es, pickR, putD, bin1R, un1R, slcR, bnd, capsOf, fillP, S_plain, V_plain, V.cells, S_known, V_known, C.v, blk, setL, setH, eqS, eq1, cmpS, cmp1, isNil, popTo, killT, setT, leT, V.below, C.below, S_below, R.below, V.val, C.val, S_val, R.val, R.takes, vals, shows, List.any_cons, List.any_nil, unnamed, V.kill, V.names, C.names, S_names, R.names, List.set, List.replicate, ↓q_cond_t, ↓q_cond_f, if_true, if_false, reduceCtorEq, rvals, rvC, result, C_known, V.noL, C.noL, S_noL, R.noL, Option.map, true_and, and_true, ge_iff_le, gt_iff_lt, implies_true, q_ite_t, q_ite_f, beq_iff_eq, bne_iff_ne, q_ne, Nat.reduceAdd, Nat.reducePow, Int.reducePow, Nat.reduceMul, Nat.reduceSub, Nat.reduceLeDiff, Nat.reduceLT, Nat.reduceEqDiff, Int.reduceNeg, Int.reduceLT, Int.reduceLE, Int.reduceEq, Int.reduceNe, Int.reduceAdd, Int.reduceSub, Int.reduceMul, Int.reduceToNat, Int.reduceBEq, Int.reduceBNe, df43, virtG, wInG, tmod1, ht, memF_eq H, memF_set H, setM_self H, TwW, idxG, read2G, read2M, decEG, En.c, hv, hu, aw, put, fillP, hw, hm1, he, hb, hxv, hxl, w01]
              refine loop_rule (α := Nat × Int × M) [6, 7, 8, 9, 10, 11, 12, 13, 14, 24, 25, 26, 27, 28, 29, 30, 31, 32, 33, 34, 35, 36, 37, 38, 39, 40, 41, 42, 43, 44, 45, 46, 47, 48, 49, 50, 51, 52, 53, 54, 55, 56, 57, 58, 59, 60, 61, 62, 63, 64, 65, 66, 67, 68, 69] (fun y => [(10, .s (.i .i64 y.2.1)), (8, .s (.i .i64 ((4 - y.1 : Nat) : Int)))]) (fun _ => []) (fun y => setM h a b y.2.2)
                (fun y => 1 ≤ y.1 ∧ y.1 ≤ 3 ∧ (0 ≤ y.2.1 ∧ y.2.1 ≤ 65535) ∧ walkF v 3 m1 (enOf w).a (0 + 1) = walkF v y.1 y.2.2 y.2.1 ((4 - y.1 : Nat) : Int)) (fun y => y.1) (3, (enOf w).a, m1) ⟨by simp only; omega, by simp only; omega, ⟨tb.1, by simp only; omega⟩, rfl⟩ ?_ ?_
              · refine Wk.keep 0 rfl rfl ?_ ?_ rfl
                · simp (config := { maxSteps := 10000000 }) only [EV1, EV2, EV3, EV4, EV5, EV6, addT, istep, lenR_sl, lenR_ns, lenR_es, pickR, putD, bin1R, un1R, slcR, bnd, capsOf, fillP, S_plain, V_plain, V.cells, S_known, V_known, C.v, blk, setL, setH, eqS, eq1, cmpS, cmp1, isNil, popTo, killT, setT, leT, V.below, C.below, S_below, R.below, V.val, C.val, S_val, R.val, R.takes, vals, shows, List.any_cons, List.any_nil, unnamed, V.kill, V.names, C.names, S_names, R.names, List.set, List.replicate, ↓q_cond_t, ↓q_cond_f, if_true, if_false, reduceCtorEq, rvals, rvC, result, C_known, V.noL, C.noL, S_noL, R.noL, Option.map, true_and, and_true, ge_iff_le, gt_iff_lt, implies_true, q_ite_t, q_ite_f, beq_iff_eq, bne_iff_ne, q_ne, Nat.reduceAdd, Nat.reducePow, Int.reducePow, Nat.reduceMul, Nat.reduceSub, Nat.reduceLeDiff, Nat.reduceLT, Nat.reduceEqDiff, Int.reduceNeg, Int.reduceLT, Int.reduceLE, Int.reduceEq, Int.reduceNe, Int.reduceAdd, Int.reduceSub, Int.reduceMul, Int.reduceToNat, Int.reduceBEq, Int.reduceBNe, q_cast, Nat.reduceSub, w01]
                · simp (config := { maxSteps := 10000000 }) only [EV1, EV2, EV3, EV4, EV5, EV6, addT, istep, lenR_sl, lenR_ns, lenR_es, pickR, putD, bin1R, un1R, slcR, bnd, capsOf, fillP, S_plain, V_plain, V.cells, S_known, V_known, C.v, blk, setL, setH, eqS, eq1, cmpS, cmp1, isNil, popTo, killT, setT, leT, V.below, C.below, S_below, R.below, V.val, C.val, S_val, R.val, R.takes, vals, shows, List.any_cons, List.any_nil, unnamed, V.kill, V.names, C.names, S_names, R.names, List.set, List.replicate, ↓q_cond_t, ↓q_cond_f, if_true, if_false, reduceCtorEq, rvals, rvC, result, C_known, V.noL, C.noL, S_noL, R.noL, Option.map, true_and, and_true, ge_iff_le, gt_iff_lt, implies_true, q_ite_t, q_ite_f, beq_iff_eq, bne_iff_ne, q_ne, Nat.reduceAdd, Nat.reducePow, Int.reducePow, Nat.reduceMul, Nat.reduceSub, Nat.reduceLeDiff, Nat.reduceLT, Nat.reduceEqDiff, Int.reduceNeg, Int.reduceLT, Int.reduceLE, Int.reduceEq, Int.reduceNe, Int.reduceAdd, Int.reduceSub, Int.reduceMul, Int.reduceToNat, Int.reduceBEq, Int.reduceBNe]
              · rintro X ⟨n, t, m⟩ ⟨hn1, hn3, htb, hF⟩ IH
                simp only at hn1 hn3 htb hF IH ⊢
                clear he hb hs hw hm1 hu aw
                rw [hF] at hS
                obtain ⟨k, rfl⟩ : ∃ k, n = k + 1 := ⟨n - 1, by omega⟩
                obtain ⟨l, hl⟩ : ∃ l : Nat, 4 - (k + 1) = l := ⟨_, rfl⟩
                rw [hl] at hS hF ⊢
                have l1 : IntKind.i64.wrap ((l : Int) + 1) = ((l + 1 : Nat) : Int) := by rw [wrap64] <;> omega
                obtain ⟨q, hq⟩ : ∃ q, ((l : Int) == 3) = q := ⟨_, rfl⟩
                have aw := at_wrap (v := v) (l := l) htb
                have hu := M.readV_u m (atW t v l)
                obtain ⟨w, hw⟩ : ∃ w, m.readV (atW t v l) = w := ⟨_, rfl⟩
                obtain ⟨m1, hm1⟩ : ∃ m1, m.readX (atW t v l) = m1 := ⟨_, rfl⟩
                rw [hw] at hu
                rcases stepB_cases m t v l with ⟨hs, he, hv0⟩ | ⟨hs, he, hb⟩ | ⟨he, hb, hs⟩
                · rw [hw] at hv0
                  subst hv0
                  rw [walk_stop hs, hm1] at hS
                  refine run_sound (Tab.ok_Γ _) 300 _ _ _ _ ?_
                  simp (config := { maxSteps := 10000000 }) only [EV1, EV2, EV3, EV4, EV5, EV6, addT, istep, lenR_sl, lenR_ns, lenR_es, pickR, putD, bin1R, un1R, slcR, bnd, capsOf, fillP, S_plain, V_plain, V.cells, S_known, V_known, C.v, blk, setL, setH, eqS, eq1, cmpS, cmp1, isNil, popTo, killT, setT, leT, V.below, C.below, S_below, R.below, V.val, C.val, S_val, R.val, R.takes, vals, shows, List.any_cons, List.any_nil, unnamed, V.kill, V.names, C.names, S_names, R.names, List.set, List.replicate, ↓q_cond_t, ↓q_cond_f, if_true, if_false, reduceCtorEq, rvals, rvC, result, C_known, V.noL, C.noL, S_noL, R.noL, Option.map, true_and, and_true, ge_iff_le, gt_iff_lt, implies_true, q_ite_t, q_ite_f, beq_iff_eq, bne_iff_ne, q_ne, Nat.reduceAdd, Nat.reducePow, Int.reducePow, Nat.reduceMul, Nat.reduceSub, Nat.reduceLeDiff, Nat.reduceLT, Nat.reduceEqDiff, Int.reduceNeg, Int.reduceLT, Int.reduceLE, Int.reduceEq, Int.reduceNe, Int.reduceAdd, Int.reduceSub, Int.reduceMul, Int.reduceToNat, Int.reduceBEq, Int.reduceBNe, memF_set H, TwW, idxG, read2G, read2M, decEG, En.c, hv, hu, aw, put, fillP, hw, hm1, he, enB_0, hq]
                  exact hS
                · rw [hw] at hb
                  rw [walk_stop hs, hm1] at hS
                  refine run_sound (Tab.ok_Γ _) 300 _ _ _ _ ?_
                  simp (config := { maxSteps := 10000000 }) only [EV1, EV2, EV3, EV4, EV5, EV6, addT, istep, lenR_sl, lenR_ns, lenR_es, pickR, putD, bin1R, un1R, slcR, bnd, capsOf, fillP, S_plain, V_plain, V.cells, S_known, V_known, C.v, blk, setL, setH, eqS, eq1, cmpS, cmp1, isNil, popTo, killT, setT, leT, V.below, C.below, S_below, R.below, V.val, C.val, S_val, R.val, R.takes, vals, shows, List.any_cons, List.any_nil, unnamed, V.kill, V.names, C.names, S_names, R.names, List.set, List.replicate, ↓q_cond_t, ↓q_cond_f, if_true, if_false, reduceCtorEq, rvals, rvC, result, C_known, V.noL, C.noL, S_noL, R.noL, Option.map, true_and, and_true, ge_iff_le, gt_iff_lt, implies_true, q_ite_t, q_ite_f, beq_iff_eq, bne_iff_ne, q_ne, Nat.reduceAdd, Nat.reducePow, Int.reducePow, Nat.reduceMul, Nat.reduceSub, Nat.reduceLeDiff, Nat.reduceLT, Nat.reduceEqDiff, Int.reduceNeg, Int.reduceLT, Int.reduceLE, Int.reduceEq, Int.reduceNe, Int.reduceAdd, Int.reduceSub, Int.reduceMul, Int.reduceToNat, Int.reduceBEq, Int.reduceBNe, memF_set H, TwW, idxG, read2G, read2M, decEG, En.c, hv, hu, aw, put, fillP, hw, hm1, he, hb, hq]
                  exact hS
                · rw [hw] at hb hs
                  cases hxv : (enOf w).v with
                  | false =>
                    rw [hxv, Bool.false_and] at hs
                    rw [walk_stop hs, hm1] at hS
                    refine run_sound (Tab.ok_Γ _) 300 _ _ _ _ ?_
                    simp (config := { maxSteps := 10000000 }) only [EV1, EV2, EV3, EV4, EV5, EV6, addT, istep, lenR_sl, lenR_ns, lenR_es, pickR, putD, bin1R, un1R, slcR, bnd, capsOf, fillP, S_plain, V_plain, V.cells, S_known, V_known, C.v, blk, setL, setH, eqS, eq1, cmpS, cmp1, isNil, popTo, killT, setT, leT, V.below, C.below, S_below, R.below, V.val, C.val, S_val, R.val, R.takes, vals, shows, List.any_cons, List.any_nil, unnamed, V.kill, V.names, C.names, S_names, R.names, List.set, List.replicate, ↓q_cond_t, ↓q_cond_f, if_true, if_false, reduceCtorEq, rvals, rvC, result, C_known, V.noL, C.noL, S_noL, R.noL, Option.map, true_and, and_true, ge_iff_le, gt_iff_lt, implies_true, q_ite_t, q_ite_f, beq_iff_eq, bne_iff_ne, q_ne, Nat.reduceAdd, Nat.reducePow, Int.reducePow, Nat.reduceMul, Nat.reduceSub, Nat.reduceLeDiff, Nat.reduceLT, Nat.reduceEqDiff, Int.reduceNeg, Int.reduceLT, Int.reduceLE, Int.reduceEq, Int.reduceNe, Int.reduceAdd, Int.reduceSub, Int.reduceMul, Int.reduceToNat, Int.reduceBEq, Int.reduceBNe, memF_set H, TwW, idxG, read2G, read2M, decEG, En.c, hv, hu, aw, put, fillP, hw, hm1, he, hb, hxv, hq]
                    exact hS
                  | true =>
                    cases hxl : (enOf w).l with
                    | false =>
                      cases q with
                      | false =>
                        have hs : stepB m t v l = true := by rw [hs, hxv, hxl, hq]; rfl
                        have l3 : ¬ (l : Int) = 3 := by simpa using hq
                        rw [walk_on hs l3, hm1, hw] at hS hF
                        have tb := en_lim hb
                        have l4 : 4 - k = l + 1 := by omega
                        refine run_sound (Tab.ok_Γ _) 300 _ _ _ _ ?_
                        simp (config := { maxSteps := 10000000 }) only [EV1, EV2, EV3, EV4, EV5, EV6, addT, istep, lenR_sl, lenR_ns, lenR_es, pickR, putD, bin1R, un1R, slcR, bnd, capsOf, fillP, S_plain, V_plain, V.cells, S_known, V_known, C.v, blk, setL, setH, eqS, eq1, cmpS, cmp1, isNil, popTo, killT, setT, leT, V.below, C.below, S_below, R.below, V.val, C.val, S_val, R.val, R.takes, vals, shows, List.any_cons, List.any_nil, unnamed, V.kill, V.names, C.names, S_names, R.names, List.set, List.replicate, ↓q_cond_t, ↓q_cond_f, if_true, if_false, reduceCtorEq, rvals, rvC, result, C_known, V.noL, C.noL, S_noL, R.noL, Option.map, true_and, and_true, ge_iff_le, gt_iff_lt, implies_true, q_ite_t, q_ite_f, beq_iff_eq, bne_iff_ne, q_ne, Nat.reduceAdd, Nat.reducePow, Int.reducePow, Nat.reduceMul, Nat.reduceSub, Nat.reduceLeDiff, Nat.reduceLT, Nat.reduceEqDiff, Int.reduceNeg, Int.reduceLT, Int.reduceLE, Int.reduceEq, Int.reduceNe, Int.reduceAdd, Int.reduceSub, Int.reduceMul, Int.reduceToNat, Int.reduceBEq, Int.reduceBNe, memF_set H, TwW, idxG, read2G, read2M, decEG, En.c, hv, hu, aw, put, fillP, hw, hm1, he, hb, hxv, hxl, l1, hq]
                        refine IH (k, (enOf w).a, m1) _ (Nat.lt_succ_self k) ⟨by simp only; omega, by simp only; omega, ⟨tb.1, by simp only; omega⟩, ?_⟩ (Wk.keep 0 rfl rfl ?_ ?_ rfl)
                        · simp only [l4]; rw [hF]; rfl
                        · simp (config := { maxSteps := 10000000 }) only [EV1, EV2, EV3, EV4, EV5, EV6, addT, istep, lenR_sl, lenR_ns, lenR_es, pickR, putD, bin1R, un1R, slcR, bnd, capsOf, fillP, S_plain, V_plain, V.cells, S_known, V_known, C.v, blk, setL, setH, eqS, eq1, cmpS, cmp1, isNil, popTo, killT, setT, leT, V.below, C.below, S_below, R.below, V.val, C.val, S_val, R.val, R.takes, vals, shows, List.any_cons, List.any_nil, unnamed, V.kill, V.names, C.names, S_names, R.names, List.set, List.replicate, ↓q_cond_t, ↓q_cond_f, if_true, if_false, reduceCtorEq, rvals, rvC, result, C_known, V.noL, C.noL, S_noL, R.noL, Option.map, true_and, and_true, ge_iff_le, gt_iff_lt, implies_true, q_ite_t, q_ite_f, beq_iff_eq, bne_iff_ne, q_ne, Nat.reduceAdd, Nat.reducePow, Int.reducePow, Nat.reduceMul, Nat.reduceSub, Nat.reduceLeDiff, Nat.reduceLT, Nat.reduceEqDiff, Int.reduceNeg, Int.reduceLT, Int.reduceLE, Int.reduceEq, Int.reduceNe, Int.reduceAdd, Int.reduceSub, Int.reduceMul, Int.reduceToNat, Int.reduceBEq, Int.reduceBNe, l4]
                        · simp (config := { maxSteps := 10000000 }) only [EV1, EV2, EV3, EV4, EV5, EV6, addT, istep, lenR_sl, lenR_ns, lenR_es, pickR, putD, bin1R, un1R, slcR, bnd, capsOf, fillP, S_plain, V_plain, V.cells, S_known, V_known, C.v, blk, setL, setH, eqS, eq1, cmpS, cmp1, isNil, popTo, killT, setT, leT, V.below, C.below, S_below, R.below, V.val, C.val, S_val, R.val, R.takes, vals, shows, List.any_cons, List.any_nil, unnamed, V.kill, V.names, C.names, S_names, R.names, List.set, List.replicate, ↓q_cond_t, ↓q_cond_f, if_true, if_false, reduceCtorEq, rvals, rvC, result, C_known, V.noL, C.noL, S_noL, R.noL, Option.map, true_and, and_true, ge_iff_le, gt_iff_lt, implies_true, q_ite_t, q_ite_f, beq_iff_eq, bne_iff_ne, q_ne, Nat.reduceAdd, Nat.reducePow, Int.reducePow, Nat.reduceMul, Nat.reduceSub, Nat.reduceLeDiff, Nat.reduceLT, Nat.reduceEqDiff, Int.reduceNeg, Int.reduceLT, Int.reduceLE, Int.reduceEq, Int.reduceNe, Int.reduceAdd, Int.reduceSub, Int.reduceMul, Int.reduceToNat, Int.reduceBEq, Int.reduceBNe]
                      | true =>
                        have hs : stepB m t v l = false := by rw [hs, hxv, hxl, hq]; rfl
                        rw [walk_stop hs, hm1] at hS
                        refine run_sound (Tab.ok_Γ _) 300 _ _ _ _ ?_
                        simp (config := { maxSteps := 10000000 }) only [EV1, EV2, EV3, EV4, EV5, EV6, addT, istep, lenR_sl, lenR_ns, lenR_es, pickR, putD, bin1R, un1R, slcR, bnd, capsOf, fillP, S_plain, V_plain, V.cells, S_known, V_known, C.v, blk, setL, setH, eqS, eq1, cmpS, cmp1, isNil, popTo, killT, setT, leT, V.below, C.below, S_below, R.below, V.val, C.val, S_val, R.val, R.takes, vals, shows, List.any_cons, List.any_nil, unnamed, V.kill, V.names, C.names, S_names, R.names, List.set, List.replicate, ↓q_cond_t, ↓q_cond_f, if_true, if_false, reduceCtorEq, rvals, rvC, result, C_known, V.noL, C.noL, S_noL, R.noL, Option.map, true_and, and_true, ge_iff_le, gt_iff_lt, implies_true, q_ite_t, q_ite_f, beq_iff_eq, bne_iff_ne, q_ne, Nat.reduceAdd, Nat.reducePow, Int.reducePow, Nat.reduceMul, Nat.reduceSub, Nat.reduceLeDiff, Nat.reduceLT, Nat.reduceEqDiff, Int.reduceNeg, Int.reduceLT, Int.reduceLE, Int.reduceEq, Int.reduceNe, Int.reduceAdd, Int.reduceSub, Int.reduceMul, Int.reduceToNat, Int.reduceBEq, Int.reduceBNe, memF_set H, TwW, idxG, read2G, read2M, decEG, En.c, hv, hu, aw, put, fillP, hw, hm1, he, hb, hxv, hxl, hq]
                        exact hS
                    | true =>
                      cases q with
                      | false =>
                        have hs : stepB m t v l = false := by rw [hs, hxv, hxl, hq]; rfl
                        rw [walk_stop hs, hm1] at hS
                        refine run_sound (Tab.ok_Γ _) 300 _ _ _ _ ?_
                        simp (config := { maxSteps := 10000000 }) only [EV1, EV2, EV3, EV4, EV5, EV6, addT, istep, lenR_sl, lenR_ns, lenR_es, pickR, putD, bin1R, un1R, slcR, bnd, capsOf, fillP, S_plain, V_plain, V.cells, S_known, V_known, C.v, blk, setL, setH, eqS, eq1, cmpS, cmp1, isNil, popTo, killT, setT, leT, V.below, C.below, S_below, R.below, V.val, C.val, S_val, R.val, R.takes, vals, shows, List.any_cons, List.any_nil, unnamed, V.kill, V.names, C.names, S_names, R.names, List.set, List.replicate, ↓q_cond_t, ↓q_cond_f, if_true, if_false, reduceCtorEq, rvals, rvC, result, C_known, V.noL, C.noL, S_noL, R.noL, Option.map, true_and, and_true, ge_iff_le, gt_iff_lt, implies_true, q_ite_t, q_ite_f, beq_iff_eq, bne_iff_ne, q_ne, Nat.reduceAdd, Nat.reducePow, Int.reducePow, Nat.reduceMul, Nat.reduceSub, Nat.reduceLeDiff, Nat.reduceLT, Nat.reduceEqDiff, Int.reduceNeg, Int.reduceLT, Int.reduceLE, Int.reduceEq, Int.reduceNe, Int.reduceAdd, Int.reduceSub, Int.reduceMul, Int.reduceToNat, Int.reduceBEq, Int.reduceBNe, memF_set H, TwW, idxG, read2G, read2M, decEG, En.c, hv, hu, aw, put, fillP, hw, hm1, he, hb, hxv, hxl, hq]
                        exact hS
                      | true =>
                        have hs : stepB m t v l = true := by rw [hs, hxv, hxl, hq]; rfl
                        have l3 : (l : Int) = 3 := by simpa using hq
                        rw [walk_end hs l3, hm1, hw] at hS
                        refine run_sound (Tab.ok_Γ _) 300 _ _ _ _ ?_
                        simp (config := { maxSteps := 10000000 }) only [EV1, EV2, EV3, EV4, EV5, EV6, addT, istep, lenR_sl, lenR_ns, lenR_es, pickR, putD, bin1R, un1R, slcR, bnd, capsOf, fillP, S_plain, V_plain, V.cells, S_known, V_known, C.v, blk, setL, setH, eqS, eq1, cmpS, cmp1, isNil, popTo, killT, setT, leT, V.below, C.below, S_below, R.below, V.val, C.val, S_val, R.val, R.takes, vals, shows, List.any_cons, List.any_nil, unnamed, V.kill, V.names, C.names, S_names, R.names, List.set, List.replicate, ↓q_cond_t, ↓q_cond_f, if_true, if_false, reduceCtorEq, rvals, rvC, result, C_known, V.noL, C.noL, S_noL, R.noL, Option.map, true_and, and_true, ge_iff_le, gt_iff_lt, implies_true, q_ite_t, q_ite_f, beq_iff_eq, bne_iff_ne, q_ne, Nat.reduceAdd, Nat.reducePow, Int.reducePow, Nat.reduceMul, Nat.reduceSub, Nat.reduceLeDiff, Nat.reduceLT, Nat.reduceEqDiff, Int.reduceNeg, Int.reduceLT, Int.reduceLE, Int.reduceEq, Int.reduceNe, Int.reduceAdd, Int.reduceSub, Int.reduceMul, Int.reduceToNat, Int.reduceBEq, Int.reduceBNe, memF_set H, TwW, idxG, read2G, read2M, decEG, En.c, hv, hu, aw, put, fillP, hw, hm1, he, hb, hxv, hxl, hq]
                        exact hS
            | true =>
              rw [hxv, hxl] at hs
              have hs : stepB m t v 0 = false := hs
              rw [walk_stop hs, hm1] at hS
              simp (config := { maxSteps := 10000000 }) only [EV1, EV2, EV3, EV4, EV5, EV6, addT, istep, lenR_sl, lenR_ns, lenR_es, pickR, putD, bin1R, un1R, slcR, bnd, capsOf, fillP, S_plain, V_plain, V.cells, S_known, V_known, C.v, blk, setL, setH, eqS, eq1, cmpS, cmp1, isNil, popTo, killT, setT, leT, V.below, C.below, S_below, R.below, V.val, C.val, S_val, R.val, R.takes, vals, shows, List.any_cons, List.any_nil, unnamed, V.kill, V.names, C.names, S_names, R.names, List.set, List.replicate, ↓q_cond_t, ↓q_cond_f, if_true, if_false, reduceCtorEq, rvals, rvC, result, C_known, V.noL, C.noL, S_noL, R.noL, Option.map, true_and, and_true, ge_iff_le, gt_iff_lt, implies_true, q_ite_t, q_ite_f, beq_iff_eq, bne_iff_ne, q_ne, Nat.reduceAdd, Nat.reducePow, Int.reducePow, Nat.reduceMul, Nat.reduceSub, Nat.reduceLeDiff, Nat.reduceLT, Nat.reduceEqDiff, Int.reduceNeg, Int.reduceLT, Int.reduceLE, Int.reduceEq, Int.reduceNe, Int.reduceAdd, Int.reduceSub, Int.reduceMul, Int.reduceToNat, Int.reduceBEq, Int.reduceBNe, df43, virtG, wInG, tmod1, ht, memF_eq H, memF_set H, setM_self H, TwW, idxG, read2G, read2M, decEG, En.c, hv, hu, aw, put, fillP, hw, hm1, he, hb, hxv, hxl]
              exact hS
  · exact hS.elim
end Go.Proofs.Yteeeidldknlblaa

