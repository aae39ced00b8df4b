/- The machine's memory: what is read behind a write. -/
import Derived.Test.YtcdfofeolgbnbaaGreatZ15
import Derived.Test.YtcdfofeolgbnbaaGreatZ13
/- The machine's memory: how it stands among the blocks. -/
namespace Go.Proofs.YtcdfofeolgbnbaaGreat
open Go.D
set_option linter.all false
set_option maxRecDepth 100000
set_option maxHeartbeats 4000000

def uw (x : Int) : Int:=x % 18446744073709551616
theorem uw_u (x : Int) : u64 (uw x):=by simp only [u64,uw]; omega
theorem uw_of {x : Int} (h : u64 x) : uw x = x:=by simp only [u64,uw] at *; omega
theorem u64_0 : u64 0:=by simp only [u64]; omega

structure M where
 w : List Int
 n : Int
 u : ∀ x,x ∈ w → u64 x
 l : w.length ≤ 65536
theorem M.ext' {m k : M} (h1 : m.w = k.w) (h2 : m.n = k.n) : m = k:=by
 cases m; cases k; simp only at h1 h2; subst h1; subst h2; rfl

def wc (w : List Int) : List S:=w.map (S.i .u64)
theorem wc_len (w : List Int) : (wc w).length = w.length:=by simp [wc]
theorem wc_get {w : List Int} {i : Nat} (h : i < w.length) : (wc w)[i]? = some (.i .u64 (nth 0 w i)):=by
 simp only [wc,List.getElem?_map,nth_get (d:=0) h,Option.map_some]
theorem wc_set (w : List Int) (i : Nat) (x : Int) : (wc w).set i (.i .u64 x) = wc (w.set i x):=by simp [wc,List.map_set]
theorem wc_all {p : S → Bool} (hp : ∀ x,p (.i .u64 x) = true) (w : List Int) : (wc w).all p = true:=by simp [wc,hp]
theorem wc_known (w : List Int) : known (wc w) = true:=by unfold known; exact wc_all (fun _ => rfl) w
theorem wc_vals (n k : Nat) (w : List Int) : vals n k (wc w) = true:=by unfold vals; exact wc_all (fun _ => rfl) w
theorem wc_names (k : Nat) (w : List Int) : (wc w).all (fun s => !s.names k) = true:=wc_all (fun _ => rfl) w
theorem wc_kept (k : List Nat) (w : List Int) : (wc w).all (S.kept k) = true:=wc_all (fun _ => rfl) w
theorem wc_sub (w : List Int) (a k : Nat) : sub (wc w) a k = wc ((w.drop a).take k):=by simp [wc,sub,List.map_take,List.map_drop]
theorem wc_snoc (v : List Int) (a : Int) : wc (v ++ [a]) = wc v ++ [.i .u64 a]:=by simp [wc]
theorem wc_nil : wc [] = []:=rfl
theorem wc_cons (x : Int) (w : List Int) : wc (x :: w) = .i .u64 x :: wc w:=rfl
theorem wc_inj {v w : List Int} (h : wc v = wc w) : v = w:=by
 induction v generalizing w with
 | nil => cases w with
  | nil => rfl
  | cons y w => simp [wc] at h
 | cons x v ih => cases w with
  | nil => simp [wc] at h
  | cons y w =>
   simp only [wc,List.map_cons,List.cons.injEq,S.i.injEq,true_and] at h
   rw [h.1,ih h.2]
theorem wc_ren (ρ : R → R) (w : List Int) : (wc w).map (S.ren ρ) = wc w:=by simp [wc,Function.comp_def,S.ren]
theorem wc_zeros (n : Nat) : zeros [.i .u64 0] n = wc (List.replicate n 0):=by
 induction n with
 | zero => rfl
 | succ n ih => simp only [zeros,ih,List.replicate_succ,wc_cons,List.cons_append,List.nil_append]
theorem wc_map (w : List Int) : w.map (S.i .u64) = wc w:=rfl

def M.at (m : M) (i : Int) : Int:=nth 0 m.w i.toNat
theorem nth_mem {α : Type} {d : α} {l : List α} {i : Nat} (h : i < l.length) : nth d l i ∈ l:=by rw [nth_eq h]; exact List.getElem_mem h
theorem nth_out {α : Type} {d : α} : ∀ {l : List α} {i : Nat},l.length ≤ i → nth d l i = d
 | [],_,_ => rfl
 | _ :: _,0,h => by simp at h
 | _ :: l,i + 1,h => nth_out (l:=l) (by simpa using h)
theorem M.at_u (m : M) (i : Int) : u64 (m.at i):=by
 unfold M.at
 rcases Nat.lt_or_ge i.toNat m.w.length with h | h
 ·exact m.u _ (nth_mem h)
 ·rw [nth_out h]; exact u64_0

def M.put (m : M) (i : Nat) (x : Int) : M:=⟨m.w.set i (uw x),m.n,fun y hy => by
 rcases List.mem_or_eq_of_mem_set hy with h | h
 ·exact m.u y h
 ·subst h; exact uw_u x,by simpa using m.l⟩
def M.tick (m : M) (k : Int) : M:=⟨m.w,IntKind.i64.wrap (m.n + k),m.u,m.l⟩
def M.fill (m : M) (a : Nat) (x : Int) : Nat → M
 | 0 => m
 | k + 1 => (M.fill m a x k).put (a + k) x
def M.lay (m : M) (o : Nat) : List Int → M
 | [] => m
 | v :: vs => M.lay (m.put o v) (o + 1) vs
def M.has (m : M) (a k : Int) : Bool:=decide (0 ≤ a ∧ 0 ≤ k ∧ a ≤ m.w.length ∧ k ≤ m.w.length - a)
theorem M.has_iff {m : M} {a k : Int} : m.has a k = true ↔ 0 ≤ a ∧ 0 ≤ k ∧ a ≤ m.w.length ∧ k ≤ m.w.length - a:=by simp [M.has]
theorem M.has_nat {m : M} {a k : Int} (h : m.has a k = true) : ∃ i j : Nat,a = i ∧ k = j ∧ i + j ≤ m.w.length:=by
 rw [M.has_iff] at h
 exact ⟨a.toNat,k.toNat,by omega,by omega,by omega⟩
theorem M.has_not {m : M} {a k : Int} (h : m.has a k = false) : ¬ (0 ≤ a ∧ 0 ≤ k ∧ a ≤ m.w.length ∧ k ≤ m.w.length - a):=by simpa [M.has] using h

theorem M.put_len (m : M) (i : Nat) (x : Int) : (m.put i x).w.length = m.w.length:=by simp [M.put]
theorem M.tick_len (m : M) (k : Int) : (m.tick k).w.length = m.w.length:=rfl
theorem M.fill_len (m : M) (a : Nat) (x : Int) : ∀ k,(m.fill a x k).w.length = m.w.length
 | 0 => rfl
 | k + 1 => by rw [M.fill,M.put_len,M.fill_len m a x k]
theorem M.put_has (m : M) (i : Nat) (x a k : Int) : (m.put i x).has a k = m.has a k:=by simp only [M.has,M.put_len]
theorem M.tick_has (m : M) (j a k : Int) : (m.tick j).has a k = m.has a k:=rfl
theorem M.put_n (m : M) (i : Nat) (x : Int) : (m.put i x).n = m.n:=rfl
theorem M.fill_n (m : M) (a : Nat) (x : Int) : ∀ k,(m.fill a x k).n = m.n
 | 0 => rfl
 | k + 1 => by rw [M.fill,M.put_n,M.fill_n m a x k]
/-! ### among the blocks -/
def MB (b : Nat) (m : M) : Blk:=⟨.rw,[.sl (.g b) 0 m.w.length m.w.length, .i .i64 m.n],2⟩
def MW (m : M) : Blk:=⟨.rw,wc m.w,m.w.length⟩
structure IsMem (h : List Blk) (a b : Nat) (m : M) : Prop where
 ne : a ≠ b
 ha : h[a]? = some (MB b m)
 hb : h[b]? = some (MW m)
def setM (h : List Blk) (a b : Nat) (m : M) : List Blk:=(h.set a (MB b m)).set b (MW m)

theorem IsMem.lta {h : List Blk} {a b : Nat} {m : M} (H : IsMem h a b m) : a < h.length:=(List.getElem?_eq_some_iff.1 H.ha).1
theorem IsMem.ltb {h : List Blk} {a b : Nat} {m : M} (H : IsMem h a b m) : b < h.length:=(List.getElem?_eq_some_iff.1 H.hb).1
theorem setM_len {h : List Blk} {a b : Nat} {m : M} : (setM h a b m).length = h.length:=by simp [setM]
theorem IsMem.set {h : List Blk} {a b : Nat} {m : M} (H : IsMem h a b m) (m' : M) : IsMem (setM h a b m') a b m':=by
 refine ⟨H.ne, ?_, ?_⟩
 ·simp only [setM]
  rw [List.getElem?_set_ne (Ne.symm H.ne),List.getElem?_set_self H.lta]
 ·simp only [setM]
  rw [List.getElem?_set_self (by simpa using H.ltb)]
theorem setM_set {h : List Blk} {a b : Nat} {m m' : M} (ne : a ≠ b) : setM (setM h a b m) a b m' = setM h a b m':=by
 simp only [setM]
 rw [List.set_comm _ _ ne,List.set_set,List.set_comm _ _ ne,List.set_set,List.set_comm _ _ (Ne.symm ne)]
theorem setM_self {h : List Blk} {a b : Nat} {m : M} (H : IsMem h a b m) : setM h a b m = h:=by
 simp only [setM]
 rw [set_self H.ha,set_self H.hb]
theorem setM_fun {h : List Blk} {a b : Nat} {m m0 : M} (H : IsMem h a b m0) : setM (setM h a b m) a b = setM h a b:=funext fun m' => setM_set H.ne
theorem IsMem.app {h X : List Blk} {a b : Nat} {m : M} (H : IsMem h a b m) : IsMem (h ++ X) a b m :=
 ⟨H.ne,by rw [List.getElem?_append_left H.lta]; exact H.ha,by rw [List.getElem?_append_left H.ltb]; exact H.hb⟩
theorem setM_app {h X : List Blk} {a b : Nat} {m m' : M} (H : IsMem h a b m) : setM (h ++ X) a b m' = setM h a b m' ++ X:=by
 simp only [setM]
 rw [app_setl H.lta,app_setl (by simpa using H.ltb)]
theorem setM_steps {h : List Blk} {a b : Nat} {m m' : M} (H : IsMem h a b m) (hw : m'.w = m.w) : h.set a (MB b m') = setM h a b m':=by
 simp only [setM]
 rw [List.set_comm _ _ H.ne,show MW m' = MW m by simp only [MW,hw],set_self H.hb]
theorem IsMem.uniq {h : List Blk} {a b b' : Nat} {m m' : M} (H : IsMem h a b m) (H' : IsMem h a b' m') : b = b' ∧ m = m':=by
 have h1:=H.ha.symm.trans H'.ha
 simp only [MB,Option.some.injEq,Blk.mk.injEq,List.cons.injEq,S.sl.injEq,R.g.injEq,S.i.injEq,true_and,and_true] at h1
 obtain ⟨⟨e,_,_⟩,e2⟩:=h1
 subst e
 have h2:=H.hb.symm.trans H'.hb
 simp only [MW,Option.some.injEq,Blk.mk.injEq,true_and] at h2
 exact ⟨rfl,M.ext' (wc_inj h2.1) e2⟩
theorem setM_clean {h : List Blk} {a b : Nat} {m m0 : M} {n : Nat} (H : IsMem h a b m0) (hc : clean n h = true) (hn : b < n) : clean n (setM h a b m) = true:=by
 refine clean_set (clean_set hc ?_) (wc_vals _ _ _)
 simp [MB,vals,S.val,R.val,hn]

open Classical in
noncomputable def memOf (h : List Blk) (a : Nat) : Option (Nat × M):=if hx : ∃ x : Nat × M,IsMem h a x.1 x.2 then some (Classical.choose hx) else none
theorem memOf_eq {h : List Blk} {a b : Nat} {m : M} (H : IsMem h a b m) : memOf h a = some (b,m):=by
 have hx : ∃ x : Nat × M,IsMem h a x.1 x.2:=⟨(b,m),H⟩
 unfold memOf
 rw [dif_pos hx]
 have:=IsMem.uniq (Classical.choose_spec hx) H
 rw [show Classical.choose hx = (b,m) from Prod.ext this.1 this.2]
theorem memOf_some {h : List Blk} {a b : Nat} {m : M} (e : memOf h a = some (b,m)) : IsMem h a b m:=by
 unfold memOf at e
 split at e
 ·rename_i hx
  have:=Classical.choose_spec hx
  rw [Option.some.injEq] at e
  rw [e] at this
  exact this
 ·cases e

noncomputable def memF (f : Nat → M → (M → List Blk) → List V → Res) : List V → List Blk → Res
 | .s (.p (.g a) 0) :: rest,h => match memOf h a with
  | some (b,m) => f b m (setM h a b) rest
  | none => .bad
 | _,_ => .bad
theorem memF_spec {f : Nat → M → (M → List Blk) → List V → Res} {args : List V} {h : List Blk} {K : V → List Blk → Prop} (hS : (memF f args h).spec K) :
  ∃ a b m rest,args = .s (.p (.g a) 0) :: rest ∧ IsMem h a b m ∧ (f b m (setM h a b) rest).spec K:=by
 unfold memF at hS
 split at hS
 ·split at hS
  ·rename_i e
   exact ⟨_,_,_,_,rfl,memOf_some e,hS⟩
  ·exact hS.elim
 ·exact hS.elim
theorem memF_eq {f : Nat → M → (M → List Blk) → List V → Res} {h : List Blk} {a b : Nat} {m : M} {rest : List V} (H : IsMem h a b m) : memF f (.s (.p (.g a) 0) :: rest) h = f b m (setM h a b) rest:=by
 simp only [memF,memOf_eq H]
theorem memF_set {f : Nat → M → (M → List Blk) → List V → Res} {h : List Blk} {a b : Nat} {m m' : M} {rest : List V} (H : IsMem h a b m) : memF f (.s (.p (.g a) 0) :: rest) (setM h a b m') = f b m' (setM h a b) rest:=by
 rw [memF_eq (H.set m'),setM_fun H]
theorem memF_app {f : Nat → M → (M → List Blk) → List V → Res} {h X : List Blk} {a b : Nat} {m m' : M} {rest : List V} (H : IsMem h a b m) : memF f (.s (.p (.g a) 0) :: rest) (setM h a b m' ++ X) = f b m' (fun m => setM h a b m ++ X) rest:=by
 rw [memF_eq ((H.set m').app),show setM (setM h a b m' ++ X) a b = fun m => setM h a b m ++ X from funext fun k => by rw [setM_app (H.set m'),setM_set H.ne]]
/-! ### new memories -/
def memH (h : List Blk) (m : M) : List Blk:=h ++ [MB (h.length + 1) m,MW m]
theorem memH_len {h : List Blk} {m : M} : (memH h m).length = h.length + 2:=by simp [memH]
end Go.Proofs.YtcdfofeolgbnbaaGreat

/- The machine's memory: what its functions do. -/
namespace Go.Proofs.YtcdfofeolgbnbaaGreat
open Go.D
open Nat (reduceAdd reducePow reduceMul reduceSub reduceLeDiff reduceLT reduceEqDiff)
open Int (reduceNeg reduceLE reduceEq reduceNe reduceToNat)
open Go.D renaming istep → zy,pickR → zx,bin1R → zw,un1R → zv,eqS → zu,eq1 → zq,cmpS → zp,cmp1 → zj,isNil → zk,shows → zg,result → zZ,q_cond_t → zV,q_cond_f → zU
open List renaming set → zY,replicate → zX
open Option renaming map → zW
open Nat renaming reduceAdd → zQ,reducePow → yz,reduceMul → yy,reduceSub → yx,reduceLeDiff → yw,reduceLT → yv,reduceEqDiff → yu
open Int renaming reduceNeg → yq,reduceLE → yj,reduceEq → yk,reduceNe → yg,reduceToNat → yZ,reducePow → yY,reduceLT → yX,reduceAdd → yW,reduceSub → yV,reduceMul → yU,reduceBEq → yQ,reduceBNe → xz
set_option linter.all false
set_option maxRecDepth 100000
set_option maxHeartbeats 4000000

theorem pow16 (k : Nat) : 2 ^ min k 16 ≤ 65536:=by
 have : min k 16 ≤ 16:=by omega
 exact Nat.pow_le_pow_right (n:=2) (by omega) this
def M.zero (k : Nat) : M:=⟨List.replicate (2 ^ min k 16) 0,0,fun x hx => by rw [List.eq_of_mem_replicate hx]; exact u64_0,by simpa using pow16 k⟩
theorem M.zero_len (k : Nat) : (M.zero k).w.length = 2 ^ min k 16:=by simp [M.zero]

def newM : List V → List Blk → Res
 | [.s (.i .i64 b)],h => .br (decide (11 ≤ b) && decide (b ≤ 16)) (.ok (.tup [.s (.p (.g h.length) 0), .s (.i .i64 0)]) [] (memH h (M.zero b.toNat))) (.ok (.tup [.s .np, .s (.i .i64 1)]) [] h)
 | _,_ => .bad
theorem new_snd : Snd Tryz.prog 49 (FSpec.of newM):=snd_run (noT_snd _) mixed Tryz.func49 dc49 100 fun args h K hc hS => by
 unfold newM at hS
 split at hS
 ·rename_i b
  simp only [spec_br,spec_ok,Bool.and_eq_true,decide_eq_true_eq] at hS
  by_cases c1 : b < 11
  ·simp (maxSteps:=9999999) only [EV0,zy,zx,zw,zv,zu,zq,zp,zj,zk,leT,zg,rvC,zZ,zY,zX,zW,↓zV,↓zU,reduceCtorEq,zQ,yz,yY,yy,yx,yw,yv,yu,yq,yX,yj,yk,yg,yW,yV,yU,yZ,yQ,xz,df49,c1]
   exact hS.2 (by simp; omega)
  by_cases c2 : 16 < b
  ·simp (maxSteps:=9999999) only [EV0,zy,zx,zw,zv,zu,zq,zp,zj,zk,leT,zg,rvC,zZ,zY,zX,zW,↓zV,↓zU,reduceCtorEq,zQ,yz,yY,yy,yx,yw,yv,yu,yq,yX,yj,yk,yg,yW,yV,yU,yZ,yQ,xz,df49,c1,c2]
   exact hS.2 (by simp; omega)
  have hS:=hS.1 (by omega)
  obtain ⟨k,rfl⟩ : ∃ k : Nat,b = k:=⟨b.toNat,by omega⟩
  have hk : min k 16 = k:=by omega
  have m1 : min k IntKind.i64.bits = k:=by show min k 64 = _; omega
  have p1:=pow16 k
  rw [hk] at p1
  obtain ⟨p,hp⟩ : ∃ p : Nat,2 ^ k = p:=⟨_,rfl⟩
  rw [hp] at p1
  have c3 : (0 : Int) ≤ k:=by omega
  have w1 : IntKind.i64.wrap (1 * 2 ^ k) = (p : Int):=by
   rw [Int.one_mul,show (2 : Int) ^ k = (p : Int) by rw [← hp]; simp,wrap64] <;> omega
  have c4 : (0 : Int) ≤ (p : Int):=by omega
  have c5 : (p : Int) ≤ 1099511627776:=by omega
  have c6 : (8 : Int) * (p : Int) ≤ 281474976710656:=by omega
  simp (maxSteps:=9999999) only [EV0,zy,zx,zw,zv,zu,zq,zp,zj,zk,leT,zg,rvC,zZ,zY,zX,zW,↓zV,↓zU,reduceCtorEq,zQ,yz,yY,yy,yx,yw,yv,yu,yq,yX,yj,yk,yg,yW,yV,yU,yZ,yQ,xz,df49,c1,c2,c3,m1,w1,c4,Int.le_refl,c5,c6,wc_zeros,put,fillP]
  refine ⟨[1,0],by simp,rfl, ?_⟩
  simp only [getAll,List.getElem?_cons_zero,List.getElem?_cons_succ]
  refine ⟨?_, ?_⟩
  ·simp [S.kept,R.kept,wc_kept]
  ·refine cast (congrArg (K _) ?_) hS
   simp [memH,MB,MW,M.zero,hk,hp,Blk.ren,S.ren,R.prom,List.idxOf,List.findIdx,List.findIdx.go,wc_ren,wc_len,V.ren,C.ren,wc_map]
 ·exact hS.elim
theorem rnew_snd : Snd Tryz.prog 50 (FSpec.of newM):=snd_run (noT_snd _) mixed Tryz.func50 dc50 100 fun args h K hc hS => by
 unfold newM at hS
 split at hS
 ·rename_i b
  simp only [spec_br,spec_ok,Bool.and_eq_true,decide_eq_true_eq] at hS
  by_cases c1 : b < 11
  ·simp (maxSteps:=9999999) only [EV0,zy,zx,zw,zv,zu,zq,zp,zj,zk,leT,zg,rvC,zZ,zY,zX,zW,↓zV,↓zU,reduceCtorEq,zQ,yz,yY,yy,yx,yw,yv,yu,yq,yX,yj,yk,yg,yW,yV,yU,yZ,yQ,xz,df50,c1]
   exact hS.2 (by simp; omega)
  by_cases c2 : 16 < b
  ·simp (maxSteps:=9999999) only [EV0,zy,zx,zw,zv,zu,zq,zp,zj,zk,leT,zg,rvC,zZ,zY,zX,zW,↓zV,↓zU,reduceCtorEq,zQ,yz,yY,yy,yx,yw,yv,yu,yq,yX,yj,yk,yg,yW,yV,yU,yZ,yQ,xz,df50,c1,c2]
   exact hS.2 (by simp; omega)
  have hS:=hS.1 (by omega)
  obtain ⟨k,rfl⟩ : ∃ k : Nat,b = k:=⟨b.toNat,by omega⟩
  have hk : min k 16 = k:=by omega
  have m1 : min k IntKind.i64.bits = k:=by show min k 64 = _; omega
  have p1:=pow16 k
  rw [hk] at p1
  obtain ⟨p,hp⟩ : ∃ p : Nat,2 ^ k = p:=⟨_,rfl⟩
  rw [hp] at p1
  have c3 : (0 : Int) ≤ k:=by omega
  have w1 : IntKind.i64.wrap (1 * 2 ^ k) = (p : Int):=by
   rw [Int.one_mul,show (2 : Int) ^ k = (p : Int) by rw [← hp]; simp,wrap64] <;> omega
  have c4 : (0 : Int) ≤ (p : Int):=by omega
  have c5 : (p : Int) ≤ 1099511627776:=by omega
  have c6 : (8 : Int) * (p : Int) ≤ 281474976710656:=by omega
  simp (maxSteps:=9999999) only [EV0,zy,zx,zw,zv,zu,zq,zp,zj,zk,leT,zg,rvC,zZ,zY,zX,zW,↓zV,↓zU,reduceCtorEq,zQ,yz,yY,yy,yx,yw,yv,yu,yq,yX,yj,yk,yg,yW,yV,yU,yZ,yQ,xz,df50,c1,c2,c3,m1,w1,c4,Int.le_refl,c5,c6,wc_zeros,put,fillP]
  refine ⟨[1,0],by simp,rfl, ?_⟩
  simp only [getAll,List.getElem?_cons_zero,List.getElem?_cons_succ]
  refine ⟨?_, ?_⟩
  ·simp [S.kept,R.kept,wc_kept]
  ·refine cast (congrArg (K _) ?_) hS
   simp [memH,MB,MW,M.zero,hk,hp,Blk.ren,S.ren,R.prom,List.idxOf,List.findIdx,List.findIdx.go,wc_ren,wc_len,V.ren,C.ren,wc_map]
 ·exact hS.elim
def wordsM (b : Nat) (m : M) (st : M → List Blk) : List V → Res
 | [] => .ok (.s (.i .i64 m.w.length)) [] (st m)
 | _ => .bad
noncomputable def wordsG:=memF wordsM
theorem mwords_snd : Snd Tryz.prog 150 (FSpec.of wordsG):=snd_run (noT_snd _) mixed Tryz.func150 dc150 100 fun args h K hc hS => by
 obtain ⟨a,b,m,rest,rfl,H,hS1⟩:=memF_spec hS
 clear hS
 have hS:=hS1
 clear hS1
 unfold wordsM at hS
 split at hS
 ·simp only [spec_ok,setM_self H] at hS
  simp (maxSteps:=9999999) only [EV0,zy,zx,zw,zv,zu,zq,zp,zj,zk,leT,zg,rvC,zZ,zY,zX,zW,↓zV,↓zU,reduceCtorEq,zQ,yz,yY,yy,yx,yw,yv,yu,yq,yX,yj,yk,yg,yW,yV,yU,yZ,yQ,xz,df150,H.ha,MB]
  exact hS
 ·exact hS.elim

def spanM (b : Nat) (m : M) (st : M → List Blk) : List V → Res
 | [.s (.i .i64 a), .s (.i .i64 k)] => .br (m.has a k) (.ok (.tup [.s (.sl (.g b) (if m.w.length = a.toNat then 0 else a.toNat) k.toNat (m.w.length - a.toNat)), .s (.b true)]) [] (st m)) (.ok (.tup [.s .ns, .s (.b false)]) [] (st m))
 | _ => .bad
noncomputable def spanG:=memF spanM
theorem span_snd : Snd Tryz.prog 93 (FSpec.of spanG):=snd_run (noT_snd _) mixed Tryz.func93 dc93 100 fun args h K hc hS => by
 obtain ⟨a,b,m,rest,rfl,H,hS1⟩:=memF_spec hS
 clear hS
 have hS:=hS1
 clear hS1
 unfold spanM at hS
 split at hS
 ·rename_i x k
  simp only [spec_ok,spec_br,setM_self H] at hS
  have hl:=m.l
  cases hh : m.has x k with
  | true =>
   have hS:=hS.1 hh
   obtain ⟨i,j,rfl,rfl,hij⟩:=M.has_nat hh
   have c1 : ¬ ((i : Int) < 0):=by omega
   have c2 : ¬ ((j : Int) < 0):=by omega
   have c3 : ¬ ((m.w.length : Int) < i):=by omega
   have w1 : IntKind.i64.wrap ((m.w.length : Int) - i) = m.w.length - i:=wrap64 (by omega) (by omega)
   have c4 : ¬ ((m.w.length : Int) - i < j):=by omega
   have w2 : IntKind.i64.wrap ((i : Int) + j) = ((i + j : Nat) : Int):=by rw [wrap64] <;> omega
   have c5 : (0 : Int) ≤ i:=by omega
   have c6 : (i : Int) ≤ ((i + j : Nat) : Int):=by omega
   have c7 : ((i + j : Nat) : Int) ≤ m.w.length:=by omega
   have e1 : i + j - i = j:=by omega
   have c8 : 0 ≤ (i : Int) ∧ (i : Int) ≤ ((i + j : Nat) : Int) ∧ ((i + j : Nat) : Int) ≤ m.w.length:=by omega
   simp (maxSteps:=9999999) only [EV0,zy,zx,zw,zv,zu,zq,zp,zj,zk,leT,zg,rvC,zZ,zY,zX,zW,↓zV,↓zU,reduceCtorEq,zQ,yz,yY,yy,yx,yw,yv,yu,yq,yX,yj,yk,yg,yW,yV,yU,yZ,yQ,xz,df93,H.ha,MB,c1,c2,c3,w1,c4,w2,slcR,c5,c6,c7,e1]
   exact hS
  | false =>
   have hS:=hS.2 hh
   have hn:=M.has_not hh
   by_cases c1 : x < 0
   ·simp (maxSteps:=9999999) only [EV0,zy,zx,zw,zv,zu,zq,zp,zj,zk,leT,zg,rvC,zZ,zY,zX,zW,↓zV,↓zU,reduceCtorEq,zQ,yz,yY,yy,yx,yw,yv,yu,yq,yX,yj,yk,yg,yW,yV,yU,yZ,yQ,xz,df93,c1]
    exact hS
   by_cases c2 : k < 0
   ·simp (maxSteps:=9999999) only [EV0,zy,zx,zw,zv,zu,zq,zp,zj,zk,leT,zg,rvC,zZ,zY,zX,zW,↓zV,↓zU,reduceCtorEq,zQ,yz,yY,yy,yx,yw,yv,yu,yq,yX,yj,yk,yg,yW,yV,yU,yZ,yQ,xz,df93,c1,c2]
    exact hS
   by_cases c3 : (m.w.length : Int) < x
   ·simp (maxSteps:=9999999) only [EV0,zy,zx,zw,zv,zu,zq,zp,zj,zk,leT,zg,rvC,zZ,zY,zX,zW,↓zV,↓zU,reduceCtorEq,zQ,yz,yY,yy,yx,yw,yv,yu,yq,yX,yj,yk,yg,yW,yV,yU,yZ,yQ,xz,df93,H.ha,MB,c1,c2,c3]
    exact hS
   have w1 : IntKind.i64.wrap ((m.w.length : Int) - x) = m.w.length - x:=wrap64 (by omega) (by omega)
   have c4 : (m.w.length : Int) - x < k:=by omega
   simp (maxSteps:=9999999) only [EV0,zy,zx,zw,zv,zu,zq,zp,zj,zk,leT,zg,rvC,zZ,zY,zX,zW,↓zV,↓zU,reduceCtorEq,zQ,yz,yY,yy,yx,yw,yv,yu,yq,yX,yj,yk,yg,yW,yV,yU,yZ,yQ,xz,df93,H.ha,MB,c1,c2,c3,w1,c4]
   exact hS
 ·exact hS.elim

def thereM (b : Nat) (m : M) (st : M → List Blk) : List V → Res
 | [.s (.i .i64 a), .s (.i .i64 k)] => .ok (.s (.b (m.has a k))) [] (st m)
 | _ => .bad
noncomputable def thereG:=memF thereM
theorem rthere_snd : Snd Tryz.prog 189 (FSpec.of thereG):=snd_run (noT_snd _) mixed Tryz.func189 dc189 100 fun args h K hc hS => by
 obtain ⟨a,b,m,rest,rfl,H,hS1⟩:=memF_spec hS
 clear hS
 have hS:=hS1
 clear hS1
 unfold thereM at hS
 split at hS
 ·rename_i x k
  simp only [spec_ok,setM_self H] at hS
  have hl:=m.l
  cases hh : m.has x k with
  | true =>
   rw [hh] at hS
   obtain ⟨i,j,rfl,rfl,hij⟩:=M.has_nat hh
   have w1 : IntKind.i64.wrap ((m.w.length : Int) - i) = m.w.length - i:=wrap64 (by omega) (by omega)
   have c1 : (0 : Int) ≤ i:=by omega
   have c2 : (0 : Int) ≤ j:=by omega
   have c3 : (i : Int) ≤ m.w.length:=by omega
   have c4 : (j : Int) ≤ (m.w.length : Int) - i:=by omega
   simp (maxSteps:=9999999) only [EV0,zy,zx,zw,zv,zu,zq,zp,zj,zk,leT,zg,rvC,zZ,zY,zX,zW,↓zV,↓zU,reduceCtorEq,zQ,yz,yY,yy,yx,yw,yv,yu,yq,yX,yj,yk,yg,yW,yV,yU,yZ,yQ,xz,df189,H.ha,MB,c1,c2,c3,w1,c4]
   exact hS
  | false =>
   rw [hh] at hS
   have hn:=M.has_not hh
   by_cases c1 : 0 ≤ x
   ·by_cases c2 : 0 ≤ k
    ·by_cases c3 : x ≤ m.w.length
     ·have w1 : IntKind.i64.wrap ((m.w.length : Int) - x) = m.w.length - x:=wrap64 (by omega) (by omega)
      have c4 : ¬ (k ≤ (m.w.length : Int) - x):=by omega
      simp (maxSteps:=9999999) only [EV0,zy,zx,zw,zv,zu,zq,zp,zj,zk,leT,zg,rvC,zZ,zY,zX,zW,↓zV,↓zU,reduceCtorEq,zQ,yz,yY,yy,yx,yw,yv,yu,yq,yX,yj,yk,yg,yW,yV,yU,yZ,yQ,xz,df189,H.ha,MB,c1,c2,c3,w1,c4]
      exact hS
     ·simp (maxSteps:=9999999) only [EV0,zy,zx,zw,zv,zu,zq,zp,zj,zk,leT,zg,rvC,zZ,zY,zX,zW,↓zV,↓zU,reduceCtorEq,zQ,yz,yY,yy,yx,yw,yv,yu,yq,yX,yj,yk,yg,yW,yV,yU,yZ,yQ,xz,df189,H.ha,MB,c1,c2,c3]
      exact hS
    ·simp (maxSteps:=9999999) only [EV0,zy,zx,zw,zv,zu,zq,zp,zj,zk,leT,zg,rvC,zZ,zY,zX,zW,↓zV,↓zU,reduceCtorEq,zQ,yz,yY,yy,yx,yw,yv,yu,yq,yX,yj,yk,yg,yW,yV,yU,yZ,yQ,xz,df189,H.ha,MB,c1,c2]
     exact hS
   ·simp (maxSteps:=9999999) only [EV0,zy,zx,zw,zv,zu,zq,zp,zj,zk,leT,zg,rvC,zZ,zY,zX,zW,↓zV,↓zU,reduceCtorEq,zQ,yz,yY,yy,yx,yw,yv,yu,yq,yX,yj,yk,yg,yW,yV,yU,yZ,yQ,xz,df189,H.ha,MB,c1]
    exact hS
 ·exact hS.elim

theorem IsMem.hb' {h : List Blk} {a b : Nat} {m : M} (H : IsMem h a b m) (B : Blk) : (h.set a B)[b]? = some (MW m):=by rw [set_miss H.ne]; exact H.hb
theorem IsMem.ha' {h : List Blk} {a b : Nat} {m : M} (H : IsMem h a b m) (B : Blk) : (h.set b B)[a]? = some (MB b m):=by rw [set_miss (Ne.symm H.ne)]; exact H.ha

noncomputable def TSp : Tab:=addT 93 spanG (addT 189 thereG noT)
theorem TSp_snd : TSp.Snd Tryz.prog:=addT_snd ok93 span_snd (addT_snd ok189 rthere_snd (noT_snd _))

def readM (b : Nat) (m : M) (st : M → List Blk) : List V → Res
 | [.s (.i .i64 x)] => .br (m.has x 1) (.ok (.tup [.s (.i .u64 (m.at x)), .s (.i .i64 0)]) [] (st (m.tick 1))) (.ok (.tup [.s (.i .u64 0), .s (.i .i64 20)]) [] (st m))
 | _ => .bad
noncomputable def readG:=memF readM
theorem mread_snd : Snd Tryz.prog 86 (FSpec.of readG):=snd_run TSp_snd mixed Tryz.func86 dc86 100 fun args h K hc hS => by
 obtain ⟨a,b,m,rest,rfl,H,hS1⟩:=memF_spec hS
 clear hS
 have hS:=hS1
 clear hS1
 unfold readM at hS
 split at hS
 ·rename_i x
  simp only [spec_ok,spec_br,setM_self H] at hS
  rw [← setM_steps H (m':=m.tick 1) rfl] at hS
  cases hh : m.has x 1 with
  | true =>
   have hS:=hS.1 hh
   obtain ⟨i,j,rfl,e,hij⟩:=M.has_nat hh
   have c1 : ¬ (m.w.length = i):=by omega
   have c2 : (0 : Int) ≤ i ∧ (i : Int) < m.w.length:=by omega
   have g:=wc_get (w:=m.w) (i:=i) (by omega)
   simp (maxSteps:=9999999) only [EV0,zy,zx,zw,zv,zu,zq,zp,zj,zk,leT,zg,rvC,zZ,zY,zX,zW,↓zV,↓zU,reduceCtorEq,zQ,yz,yY,yy,yx,yw,yv,yu,yq,yX,yj,yk,yg,yW,yV,yU,yZ,yQ,xz,df86,TSp,spanG,thereG,memF_eq H,spanM,thereM,setM_self H,hh,c1,c2,H.ha,H.hb,H.hb',MB,MW,g,Int.toNat_natCast,set_hit H.ha]
   exact hS
  | false =>
   have hS:=hS.2 hh
   simp (maxSteps:=9999999) only [EV0,zy,zx,zw,zv,zu,zq,zp,zj,zk,leT,zg,rvC,zZ,zY,zX,zW,↓zV,↓zU,reduceCtorEq,zQ,yz,yY,yy,yx,yw,yv,yu,yq,yX,yj,yk,yg,yW,yV,yU,yZ,yQ,xz,df86,TSp,spanG,thereG,memF_eq H,spanM,thereM,setM_self H,hh]
   exact hS
 ·exact hS.elim
theorem rread_snd : Snd Tryz.prog 179 (FSpec.of readG):=snd_run TSp_snd mixed Tryz.func179 dc179 100 fun args h K hc hS => by
 obtain ⟨a,b,m,rest,rfl,H,hS1⟩:=memF_spec hS
 clear hS
 have hS:=hS1
 clear hS1
 unfold readM at hS
 split at hS
 ·rename_i x
  simp only [spec_ok,spec_br,setM_self H] at hS
  rw [← setM_steps H (m':=m.tick 1) rfl] at hS
  cases hh : m.has x 1 with
  | true =>
   have hS:=hS.1 hh
   obtain ⟨i,j,rfl,e,hij⟩:=M.has_nat hh
   have c1 : ¬ (m.w.length = i):=by omega
   have c2 : (0 : Int) ≤ i ∧ (i : Int) < m.w.length:=by omega
   have g:=wc_get (w:=m.w) (i:=i) (by omega)
   simp (maxSteps:=9999999) only [EV0,zy,zx,zw,zv,zu,zq,zp,zj,zk,leT,zg,rvC,zZ,zY,zX,zW,↓zV,↓zU,reduceCtorEq,zQ,yz,yY,yy,yx,yw,yv,yu,yq,yX,yj,yk,yg,yW,yV,yU,yZ,yQ,xz,df179,TSp,spanG,thereG,memF_eq H,spanM,thereM,setM_self H,hh,c1,c2,H.ha,H.hb,H.hb',MB,MW,g,Int.toNat_natCast,set_hit H.ha]
   exact hS
  | false =>
   have hS:=hS.2 hh
   simp (maxSteps:=9999999) only [EV0,zy,zx,zw,zv,zu,zq,zp,zj,zk,leT,zg,rvC,zZ,zY,zX,zW,↓zV,↓zU,reduceCtorEq,zQ,yz,yY,yy,yx,yw,yv,yu,yq,yX,yj,yk,yg,yW,yV,yU,yZ,yQ,xz,df179,TSp,spanG,thereG,memF_eq H,spanM,thereM,setM_self H,hh]
   exact hS
 ·exact hS.elim

def fillM (b : Nat) (m : M) (st : M → List Blk) : List V → Res
 | [.s (.i .i64 x), .s (.i .i64 k), .s (.i .u64 v)] => .ob (u64 v) (.br (m.has x k) (.ok (.s (.i .i64 0)) [] (st ((m.fill x.toNat v k.toNat).tick k))) (.ok (.s (.i .i64 20)) [] (st m)))
 | _ => .bad
noncomputable def fillG:=memF fillM
theorem mfill_snd : Snd Tryz.prog 154 (FSpec.of fillG):=snd_run TSp_snd mixed Tryz.func154 dc154 100 fun args h K hc hS => by
 obtain ⟨a,b,m,rest,rfl,H,hS1⟩:=memF_spec hS
 clear hS
 have hS:=hS1
 clear hS1
 unfold fillM at hS
 split at hS
 ·rename_i x k v
  simp only [spec_ob,spec_ok,spec_br,setM_self H] at hS
  obtain ⟨hv,hS⟩:=hS
  cases hh : m.has x k with
  | true =>
   have hS:=hS.1 hh
   obtain ⟨i,j,rfl,rfl,hij⟩:=M.has_nat hh
   simp only [Int.toNat_natCast] at hS
   have hl:=m.l
   obtain ⟨o,ho,hoi⟩ : ∃ o : Nat,(if m.w.length = i then 0 else i) = o ∧ (i < m.w.length → o = i):=⟨_,rfl,fun hlt => if_neg (by omega)⟩
   simp (maxSteps:=9999999) only [EV0,zy,zx,zw,zv,zu,zq,zp,zj,zk,leT,zg,rvC,zZ,zY,zX,zW,↓zV,↓zU,reduceCtorEq,zQ,yz,yY,yy,yx,yw,yv,yu,yq,yX,yj,yk,yg,yW,yV,yU,yZ,yQ,xz,df154,TSp,spanG,memF_eq H,spanM,setM_self H,hh,Int.toNat_natCast,ho]
   refine loop_rule (α:=Nat) [11,23,24,25,26,27,28,29,30] (fun q => [(23, .s (.i .i64 q))]) (fun _ => []) (fun q => h.set b ⟨.rw,wc (m.fill i v q).w,m.w.length⟩) (fun q => q ≤ j) (fun q => j - q) 0 (by omega) ?_ ?_
   ·simp only [M.fill]
    rw [show (⟨.rw,wc m.w,m.w.length⟩ : Blk) = MW m from rfl,set_self H.hb]
    refine Wk.less ?_
    simp (maxSteps:=9999999) only [EV0,zy,zx,zw,zv,zu,zq,zp,zj,zk,leT,zg,rvC,zZ,zY,zX,zW,↓zV,↓zU,reduceCtorEq,zQ,yz,yY,yy,yx,yw,yv,yu,yq,yX,yj,yk,yg,yW,yV,yU,yZ,yQ,xz,q_cast,Int.natCast_zero]
   ·rintro X q hq IH
    rcases Nat.lt_or_ge q j with h1 | h1
    ·obtain ⟨d1,d2,d3,d4⟩:=idx h1 (by omega)
     have c1:=(hoi (by omega)).symm
     subst c1
     have c3 : (h.set b ⟨BK.rw,wc (m.fill i v q).w,m.w.length⟩)[b]? = some ⟨BK.rw,wc (m.fill i v q).w,m.w.length⟩:=set_hit H.hb
     have c4 : i + q + 1 ≤ (wc (m.fill i v q).w).length:=by rw [wc_len,M.fill_len]; omega
     have c5 : ((wc (m.fill i v q).w).set (i + q) (S.i .u64 v)) = wc (m.fill i v (q + 1)).w:=by rw [wc_set]; simp only [M.fill,M.put,uw_of hv]
     refine run_sound (Tab.ok_Γ _) 100 _ _ _ _ ?_
     simp (maxSteps:=9999999) only [EV0,zy,zx,zw,zv,zu,zq,zp,zj,zk,leT,zg,rvC,zZ,zY,zX,zW,↓zV,↓zU,reduceCtorEq,zQ,yz,yY,yy,yx,yw,yv,yu,yq,yX,yj,yk,yg,yW,yV,yU,yZ,yQ,xz,d1,d2,d3,d4,c3,MW,c4,Int.toNat_natCast,put,c5,List.set_set]
     exact IH (q + 1) _ (by omega) (by omega) (Wk.same rfl rfl (by simp (maxSteps:=9999999) only [EV0,zy,zx,zw,zv,zu,zq,zp,zj,zk,leT,zg,rvC,zZ,zY,zX,zW,↓zV,↓zU,reduceCtorEq,zQ,yz,yY,yy,yx,yw,yv,yu,yq,yX,yj,yk,yg,yW,yV,yU,yZ,yQ,xz]))
    ·have : q = j:=by omega
     subst this
     have ha:=H.ha'
     refine run_sound (Tab.ok_Γ _) 100 _ _ _ _ ?_
     simp (maxSteps:=9999999) only [EV0,zy,zx,zw,zv,zu,zq,zp,zj,zk,leT,zg,rvC,zZ,zY,zX,zW,↓zV,↓zU,reduceCtorEq,zQ,yz,yY,yy,yx,yw,yv,yu,yq,yX,yj,yk,yg,yW,yV,yU,yZ,yQ,xz,Int.lt_irrefl,ha,MB]
     refine cast (congrArg (K _) ?_) hS
     simp only [setM]
     rw [List.set_comm _ _ H.ne]
     simp only [MW,MB,M.tick,M.fill_len,M.fill_n]
  | false =>
   have hS:=hS.2 hh
   simp (maxSteps:=9999999) only [EV0,zy,zx,zw,zv,zu,zq,zp,zj,zk,leT,zg,rvC,zZ,zY,zX,zW,↓zV,↓zU,reduceCtorEq,zQ,yz,yY,yy,yx,yw,yv,yu,yq,yX,yj,yk,yg,yW,yV,yU,yZ,yQ,xz,df154,TSp,spanG,memF_eq H,spanM,setM_self H,hh]
   exact hS
 ·exact hS.elim

def writeM (b : Nat) (m : M) (st : M → List Blk) : List V → Res
 | [.s (.i .i64 x), .s (.i .u64 v)] => .ob (u64 v) (.br (m.has x 1) (.ok (.s (.i .i64 0)) [] (st ((m.put x.toNat v).tick 1))) (.ok (.s (.i .i64 20)) [] (st m)))
 | _ => .bad
noncomputable def writeG:=memF writeM
noncomputable def TFi : Tab:=addT 154 fillG noT
theorem TFi_snd : TFi.Snd Tryz.prog:=addT_snd ok154 mfill_snd (noT_snd _)
theorem mwrite_snd : Snd Tryz.prog 141 (FSpec.of writeG):=snd_run TFi_snd mixed Tryz.func141 dc141 100 fun args h K hc hS => by
 obtain ⟨a,b,m,rest,rfl,H,hS1⟩:=memF_spec hS
 clear hS
 have hS:=hS1
 clear hS1
 unfold writeM at hS
 split at hS
 ·rename_i x v
  simp only [spec_ob,spec_ok,spec_br,setM_self H] at hS
  obtain ⟨hv,hS⟩:=hS
  cases hh : m.has x 1 with
  | true =>
   have hS:=hS.1 hh
   simp (maxSteps:=9999999) only [EV0,zy,zx,zw,zv,zu,zq,zp,zj,zk,leT,zg,rvC,zZ,zY,zX,zW,↓zV,↓zU,reduceCtorEq,zQ,yz,yY,yy,yx,yw,yv,yu,yq,yX,yj,yk,yg,yW,yV,yU,yZ,yQ,xz,df141,TFi,fillG,memF_eq H,fillM,setM_self H,hh,hv,M.fill]
   exact hS
  | false =>
   have hS:=hS.2 hh
   simp (maxSteps:=9999999) only [EV0,zy,zx,zw,zv,zu,zq,zp,zj,zk,leT,zg,rvC,zZ,zY,zX,zW,↓zV,↓zU,reduceCtorEq,zQ,yz,yY,yy,yx,yw,yv,yu,yq,yX,yj,yk,yg,yW,yV,yU,yZ,yQ,xz,df141,TFi,fillG,memF_eq H,fillM,setM_self H,hh,hv,M.fill]
   exact hS
 ·exact hS.elim
theorem rwrite_snd : Snd Tryz.prog 175 (FSpec.of writeG):=snd_run TSp_snd mixed Tryz.func175 dc175 100 fun args h K hc hS => by
 obtain ⟨a,b,m,rest,rfl,H,hS1⟩:=memF_spec hS
 clear hS
 have hS:=hS1
 clear hS1
 unfold writeM at hS
 split at hS
 ·rename_i x v
  simp only [spec_ob,spec_ok,spec_br,setM_self H] at hS
  obtain ⟨hv,hS⟩:=hS
  cases hh : m.has x 1 with
  | true =>
   have hS:=hS.1 hh
   obtain ⟨i,j,rfl,e,hij⟩:=M.has_nat hh
   have c2 : (0 : Int) ≤ i ∧ (i : Int) < m.w.length:=by omega
   have c4 : i + 1 ≤ (wc m.w).length:=by rw [wc_len]; omega
   simp (maxSteps:=9999999) only [EV0,zy,zx,zw,zv,zu,zq,zp,zj,zk,leT,zg,rvC,zZ,zY,zX,zW,↓zV,↓zU,reduceCtorEq,zQ,yz,yY,yy,yx,yw,yv,yu,yq,yX,yj,yk,yg,yW,yV,yU,yZ,yQ,xz,df175,TSp,thereG,memF_eq H,thereM,setM_self H,hh,c2,H.ha,H.hb,H.ha',H.hb',MB,MW,put,wc_set,Int.toNat_natCast,c4,set_hit H.ha]
   refine cast (congrArg (K _) ?_) hS
   simp only [setM,MW,MB,M.tick,M.put,List.length_set,uw_of hv,Int.toNat_natCast]
  | false =>
   have hS:=hS.2 hh
   simp (maxSteps:=9999999) only [EV0,zy,zx,zw,zv,zu,zq,zp,zj,zk,leT,zg,rvC,zZ,zY,zX,zW,↓zV,↓zU,reduceCtorEq,zQ,yz,yY,yy,yx,yw,yv,yu,yq,yX,yj,yk,yg,yW,yV,yU,yZ,yQ,xz,df175,TSp,thereG,memF_eq H,thereM,setM_self H,hh]
   exact hS
 ·exact hS.elim
end Go.Proofs.YtcdfofeolgbnbaaGreat

/- The machine's memory: what is read behind a write. -/
namespace Go.Proofs.YtcdfofeolgbnbaaGreat
open Go.D
set_option linter.all false
set_option maxRecDepth 100000
set_option maxHeartbeats 4000000

theorem nth_set {α : Type} {d : α} : ∀ (l : List α) (i j : Nat) (x : α),nth d (l.set i x) j = if i = j ∧ i < l.length then x else nth d l j
 | [],i,j,x => by simp [nth]
 | y :: l,0,0,x => by simp [nth]
 | y :: l,0,j + 1,x => by simp [nth]
 | y :: l,i + 1,0,x => by simp [nth]
 | y :: l,i + 1,j + 1,x => by simp [nth,nth_set l i j x]
theorem nth_replicate {α : Type} {d : α} {n i : Nat} : nth d (List.replicate n d) i = d:=by
 induction n generalizing i with
 | zero => rfl
 | succ n ih => cases i with
  | zero => rfl
  | succ i => exact ih
theorem M.at_put (m : M) (i : Nat) (x : Int) (j : Int) : (m.put i x).at j = if i = j.toNat ∧ i < m.w.length then uw x else m.at j:=by
 simp only [M.at,M.put,nth_set]
theorem M.at_tick (m : M) (k j : Int) : (m.tick k).at j = m.at j:=rfl
theorem M.at_zero (k : Nat) (j : Int) : (M.zero k).at j = 0:=by simp only [M.at,M.zero,nth_replicate]
theorem M.has_of {m : M} {a k : Int} (h : 0 ≤ a ∧ 0 ≤ k ∧ a + k ≤ m.w.length) : m.has a k = true:=by rw [M.has_iff]; omega
end Go.Proofs.YtcdfofeolgbnbaaGreat

