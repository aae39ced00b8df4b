/- The equations by which the machine is evaluated,as one fact. -/
import Derived.Test.YtcdfofeolgbnbaaGreatZ10
import Derived.Attr
/- For use: loops by recursion on data,arrays of structs,tables of specs. -/
namespace Go.D
set_option linter.all false
variable [Tabs]

/-! ### small facts -/
theorem known_nil:known []=true:=(rfl)
theorem known_cons {x:S} {xs:List S}:known (x::xs)=(V.known (.s x)&&known xs):=by
 simp only [known,List.all_cons]
 cases x<;>rfl

theorem put_nil {xs:List S} {o:Nat}:put xs o []=xs:=(rfl)
theorem put_succ {x:S}:∀ {vs xs:List S} {o:Nat},put (x::xs) (o+1) vs=x::put xs o vs
 | [],_,_=>rfl
 | v::vs,xs,o=>by
  simp only [put,List.set_cons_succ]
  exact put_succ
theorem put_zero {x v:S} {vs xs:List S}:put (x::xs) 0 (v::vs)=v::put xs 0 vs:=by
 simp only [put,List.set_cons_zero]
 exact put_succ
theorem sub_succ {x:S} {xs:List S} {o n:Nat}:sub (x::xs) (o+1) n=sub xs o n:=(rfl)
theorem sub_zero {x:S} {xs:List S} {n:Nat}:sub (x::xs) 0 (n+1)=x::sub xs 0 n:=(rfl)
theorem sub_none {xs:List S}:sub xs 0 0=[]:=(rfl)
theorem wrap64 {n:Int} (h1 : -9223372036854775808<=n) (h2:n<9223372036854775808):IntKind.i64.wrap n=n:=by rw [IntKind.wrap_i64]; omega

theorem Wk.cutJ {n0:Nat} {t t':List V} {ls ls' h:List Blk} (junk:List Blk) (e:ls'=ls++junk) (ht:leT t' t) (hb:t'.all (V.below ls.length)=true) (hl:ls.all (fun B=>B.cells.all (S.below ls.length))=true):Wk n0 ⟨t,ls',h⟩ ⟨t',ls,h⟩:=by
 subst e; exact .cut junk ht hb hl

theorem Wk.keep {n0:Nat} {t t':List V} {ls ls' h h':List Blk} (n:Nat) (e:ls'.take n=ls) (eh:h=h') (ht:leT t' t) (hb:t'.all (V.below ls.length)=true) (hl:ls.all (fun B=>B.cells.all (S.below ls.length))=true):Wk n0 ⟨t,ls',h⟩ ⟨t',ls,h'⟩:=by
 subst eh
 exact Wk.cutJ (ls'.drop n) (by rw [<-e,List.take_append_drop]) ht hb hl
theorem Wk.same {n0:Nat} {t t':List V} {ls ls' h h':List Blk} (e:ls'=ls) (eh:h=h') (ht:leT t' t):Wk n0 ⟨t,ls',h⟩ ⟨t',ls,h'⟩:=by
 subst e; subst eh
 exact .less ht

theorem app_get0 {α:Type} {h r:List α}:(h++r)[h.length]?=r[0]?:=by
 rw [List.getElem?_append_right (Nat.le_refl _),Nat.sub_self]
theorem app_getn {α:Type} {h r:List α} {n:Nat}:(h++r)[h.length+n]?=r[n]?:=by
 rw [List.getElem?_append_right (by omega),Nat.add_sub_cancel_left]
theorem app_set0 {α:Type} {h r:List α} {B:α}:(h++r).set h.length B=h++r.set 0 B:=by
 rw [List.set_append_right _ _ (Nat.le_refl _),Nat.sub_self]
theorem app_setn {α:Type} {h r:List α} {n:Nat} {B:α}:(h++r).set (h.length+n) B=h++r.set n B:=by
 rw [List.set_append_right _ _ (by omega),Nat.add_sub_cancel_left]
/-! ### shared blocks that nobody needs any more -/
theorem S.ren_id (s:S):s.ren id=s:=by
 cases s with
 | fn f cs=>simp [S.ren]
 | _=>rfl
theorem C.ren_id (c:C):c.ren id=c:=by
 cases c with
 | s x=>simp only [C.ren,S.ren_id]
 | agg xs=>simp only [C.ren]; congr 1; exact (List.map_congr_left fun x _=>S.ren_id x).trans (List.map_id _)
theorem V.ren_id (v:V):v.ren id=v:=by
 cases v with
 | s x=>simp only [V.ren,S.ren_id]
 | agg xs=>simp only [V.ren]; congr 1; exact (List.map_congr_left fun x _=>S.ren_id x).trans (List.map_id _)
 | tup cs=>simp only [V.ren]; congr 1; exact (List.map_congr_left fun x _=>C.ren_id x).trans (List.map_id _)
theorem Blk.ren_id (B:Blk):B.ren id=B:=by
 obtain ⟨st,cells,room⟩:=B
 simp only [Blk.ren]; congr 1; exact (List.map_congr_left fun x _=>S.ren_id x).trans (List.map_id _)

theorem leT_at:∀ {t' t:List V},leT t' t->t'.length=t.length/\∀ (i:Nat) (v:V),t'[i]?=some v->v=.s .u\/t[i]?=some v
 | [],[],_=>⟨rfl,fun i v h=>by simp at h⟩
 | v'::t',v::t,h=>by
  obtain ⟨h1,h2⟩:=leT_at h.2
  refine ⟨by simp [h1],fun i u hu=>?_⟩
  cases i with
  | zero =>
   simp only [List.getElem?_cons_zero,Option.some.injEq] at hu ⊢
   subst hu
   rcases h.1 with e|e
   ·exact .inl e
   ·exact .inr e.symm
  | succ i=>simpa using h2 i u (by simpa using hu)
 | [],_::_,h=>h.elim
 | _::_,[],h=>h.elim

theorem Wk.keepH {n0:Nat} {t t':List V} {ls h h':List Blk} (n:Nat) (e:h'.take n=h) (hn:n0<=h.length) (ht:leT t' t) (hv:t'.all (V.val h.length ls.length)=true) (hh:clean h.length h=true) (hl:ls.all (fun B=>vals h.length ls.length B.cells)=true) :
  Wk n0 ⟨t,ls,h'⟩ ⟨t',ls,h⟩:=by
 obtain ⟨h1,h2⟩:=leT_at ht
 refine .by_ id ⟨hn,fun _ _=>rfl,fun k hk _=>.inl ⟨k,hk,rfl⟩,fun r r' _ _ e=>e,fun r B' hb=>?_,fun B hB=>?_,fun B hB=>?_,h1,fun i v' hi=>?_⟩
 ·rw [Blk.ren_id]
  cases r with
  | g k =>
   simp only [blk,id] at hb ⊢
   rw [<-e,List.getElem?_take] at hb
   split at hb
   ·exact hb
   ·cases hb
  | l k=>exact hb
 ·simp only [clean,List.all_eq_true] at hh; exact hh B hB
 ·simp only [List.all_eq_true] at hl; exact hl B hB
 ·refine ⟨?_, ?_⟩
  ·simp only [List.all_eq_true] at hv; exact hv v' (List.mem_of_getElem? hi)
  ·rw [V.ren_id]; exact h2 i v' hi

def R.shift (d:Nat):R->R
 | .g k=>.g k
 | .l k=>.l (d+k)

theorem V.ren_u' {ρ:R->R} {v:V} (h:v.ren ρ=.s .u):v=.s .u:=by
 cases v with
 | s x=>cases x<;>simp [V.ren,S.ren] at h ⊢
 | agg xs=>simp [V.ren] at h
 | tup cs=>simp [V.ren] at h

theorem Wk.shift {n0:Nat} {t t':List V} {ls ls' h:List Blk} (d:Nat) (hls:ls'.map (Blk.ren (R.shift d))=ls.drop d) (hn:n0<=h.length) (ht:leT (t'.map (V.ren (R.shift d))) t) (hv:t'.all (V.val h.length ls'.length)=true)
  (hh:clean h.length h=true) (hl:ls'.all (fun B=>vals h.length ls'.length B.cells)=true) (hg:h.map (Blk.ren (R.shift d))=h):Wk n0 ⟨t,ls,h⟩ ⟨t',ls',h⟩:=by
 obtain ⟨h1,h2⟩:=leT_at ht
 refine .by_ (R.shift d) ⟨hn,fun _ _=>rfl,fun k hk _=>.inl ⟨k,hk,rfl⟩,fun r r' _ _ e=>?_,fun r B' hb=>?_,fun B hB=>?_,fun B hB=>?_,by simpa using h1,fun i v' hi=>?_⟩
 ·cases r<;>cases r'<;>simp only [R.shift,R.g.injEq,R.l.injEq,reduceCtorEq] at e ⊢<;>omega
 ·cases r with
  | g k =>
   simp only [blk,R.shift] at hb ⊢
   have:=congrArg (fun l=>l[k]?) hg
   simp only [List.getElem?_map,hb,Option.map_some] at this
   rw [hb,this]
  | l k =>
   simp only [blk,R.shift] at hb ⊢
   have:=congrArg (fun l=>l[k]?) hls
   simp only [List.getElem?_map,hb,Option.map_some,List.getElem?_drop] at this
   exact this.symm
 ·simp only [clean,List.all_eq_true] at hh; exact hh B hB
 ·simp only [List.all_eq_true] at hl; exact hl B hB
 ·refine ⟨?_, ?_⟩
  ·simp only [List.all_eq_true] at hv; exact hv v' (List.mem_of_getElem? hi)
  ·rcases h2 i (v'.ren (R.shift d)) (by rw [List.getElem?_map,hi]; rfl) with h3|h3
   ·exact .inl (V.ren_u' h3)
   ·exact .inr h3

def R.pick (is:List Nat):R->R
 | .g k=>.g k
 | .l k=>.l (is.getD k 0)
theorem R.pick_g {is:List Nat} {k:Nat}:R.pick is (.g k)=.g k:=by rfl
theorem R.pick_0 {i:Nat} {is:List Nat}:R.pick (i::is) (.l 0)=.l i:=by rfl
theorem R.pick_s {i k:Nat} {is:List Nat}:R.pick (i::is) (.l (k+1))=R.pick is (.l k):=by rfl
theorem Wk.sel {n0:Nat} {t t':List V} {ls ls' h:List Blk} (is:List Nat) (hnd:is.Nodup) (hn:n0<=h.length) (hls:ls'.map (fun B=>some (B.ren (R.pick is)))=is.map (fun i=>ls[i]?)) (ht:leT (t'.map (V.ren (R.pick is))) t) (hv:t'.all (V.val h.length ls'.length)=true)
  (hl:ls'.all (fun B=>vals h.length ls'.length B.cells)=true) (hh:clean h.length h=true) (hg:h.map (Blk.ren (R.pick is))=h):Wk n0 ⟨t,ls,h⟩ ⟨t',ls',h⟩:=by
 obtain ⟨h1,h2⟩:=leT_at ht
 have hlen:ls'.length=is.length:=by simpa using congrArg List.length hls
 refine .by_ (R.pick is) ⟨hn,fun _ _=>rfl,fun k hk _=>.inl ⟨k,hk,rfl⟩,fun r r' hr hr' e=>?_,fun r B' hb=>?_,fun B hB=>?_,fun B hB=>?_,by simpa using h1,fun i v' hi=>?_⟩
 ·cases r with
  | g k=>cases r' with
   | g k'=>simpa [R.pick] using e
   | l k'=>simp [R.pick] at e
  | l k=>cases r' with
   | g k'=>simp [R.pick] at e
   | l k' =>
    simp only [R.val,decide_eq_true_eq] at hr hr'
    simp only [R.pick,R.l.injEq,List.getD_eq_getElem?_getD] at e
    rw [List.getElem?_eq_getElem (by omega),List.getElem?_eq_getElem (by omega)] at e
    simp only [Option.getD_some] at e
    rw [(List.getElem_inj hnd).1 e]
 ·cases r with
  | g k =>
   simp only [blk,R.pick] at hb ⊢
   have:=congrArg (fun l=>l[k]?) hg
   simp only [List.getElem?_map,hb,Option.map_some] at this
   rw [hb,this]
  | l k =>
   simp only [blk] at hb ⊢
   have hk:k<is.length:=by rw [<-hlen]; exact (List.getElem?_eq_some_iff.1 hb).1
   have:=congrArg (fun l=>l[k]?) hls
   simp only [List.getElem?_map,hb,Option.map_some,List.getElem?_eq_getElem hk,Option.some.injEq] at this
   simp only [R.pick,List.getD_eq_getElem?_getD,List.getElem?_eq_getElem hk,Option.getD_some]
   exact this.symm
 ·simp only [clean,List.all_eq_true] at hh; exact hh B hB
 ·simp only [List.all_eq_true] at hl; exact hl B hB
 ·refine ⟨?_, ?_⟩
  ·simp only [List.all_eq_true] at hv; exact hv v' (List.mem_of_getElem? hi)
  ·rcases h2 i (v'.ren (R.pick is)) (by rw [List.getElem?_map,hi]; rfl) with h3|h3
   ·exact .inl (V.ren_u' h3)
   ·exact .inr h3

theorem S.ren_clean {ρ:R->R} {n:Nat} (hρ:∀ k, ρ (.g k)=.g k) {s:S} (h:s.val n 0=true):s.ren ρ=s:=by
 have hr:∀ r:R,r.val n 0=true->ρ r=r:=fun r hr=>by
  cases r with
  | g k=>exact hρ k
  | l k=>simp [R.val] at hr
 cases s with
 | p r o=>simp only [S.ren]; rw [hr r h]
 | sl r o a c=>simp only [S.ren]; rw [hr r h]
 | fn f cs =>
  simp only [S.ren,S.fn.injEq,true_and]
  simp only [S.val,List.all_eq_true] at h
  refine (List.map_congr_left fun x hx=>?_).trans (List.map_id _)
  rw [hr x.1 (h x hx)]; rfl
 | _=>rfl
theorem clean_ren {n:Nat} {h:List Blk} (hc:clean n h=true) (d:Nat):h.map (Blk.ren (R.shift d))=h:=by
 simp only [clean,List.all_eq_true] at hc
 refine (List.map_congr_left fun B hB=>?_).trans (List.map_id _)
 have:=hc B hB
 simp only [vals,List.all_eq_true] at this
 obtain ⟨st,cells,room⟩:=B
 simp only [Blk.ren,id]
 congr 1
 exact (List.map_congr_left fun s hs=>S.ren_clean (fun _=>rfl) (this s hs)).trans (List.map_id _)

theorem clean_pick {n:Nat} {h:List Blk} (hc:clean n h=true) (is:List Nat):h.map (Blk.ren (R.pick is))=h:=by
 simp only [clean,List.all_eq_true] at hc
 refine (List.map_congr_left fun B hB=>?_).trans (List.map_id _)
 have:=hc B hB
 simp only [vals,List.all_eq_true] at this
 obtain ⟨st,cells,room⟩:=B
 simp only [Blk.ren,id]
 congr 1
 exact (List.map_congr_left fun s hs=>S.ren_clean (fun _=>rfl) (this s hs)).trans (List.map_id _)

def Cut (n:Nat) (K:V->List Blk->Prop):V->List Blk->Prop:=fun v h'=>∃ h1 junk,h'=h1++junk/\n<=h1.length/\clean h1.length h1=true/\v.val h1.length 0=true/\K v h1

theorem Inv.cutH {σ0:Sg} {h0:List Blk} {w0:Base} {σ:Sg} {h junk:List Blk} {w:World} (H:Inv σ0 h0 w0 σ (h++junk) [] w) (hn:h0.length<=h.length) (hh:clean h.length h=true):Inv σ0 h0 w0 σ h [] w:=by
 have hb:∀ r B,blk h [] r=some B->blk (h++junk) [] r=some B:=fun r B hr=>by
  cases r with
  | g k =>
   simp only [blk] at hr ⊢
   rw [List.getElem?_append_left (List.getElem?_eq_some_iff.1 hr).1]; exact hr
  | l k=>exact hr
 refine ⟨⟨fun r B hr=>H.sim.ok r B (hb r B hr),fun r r' B B' h1 h2=>H.sim.sep r r' B B' (hb r B h1) (hb r' B' h2),fun B hB=>?_,fun B hB=>by cases hB⟩,H.kept,hn,H.old,fun r B hr=>H.mine r B (hb r B hr),fun k X h1 h2 hd=>H.new k X h1 (by rw [List.getElem?_append_left (List.getElem?_eq_some_iff.1 h2).1]; exact h2) hd,fun k B0 B h1 h2=>H.live k B0 B h1 ?_,H.gl⟩
 ·simp only [clean,List.all_eq_true] at hh; exact hh B hB
 ·rw [List.getElem?_append_left (List.getElem?_eq_some_iff.1 h2).1]; exact h2

theorem Snd.cut {P:Program} {f:FuncId} {S S':FSpec} (hS:Snd P f S) (hh:∀ args h K,clean h.length h=true->S' args h K->S args h (Cut h.length K)):Snd P f S':=fun σ h w args K hs hG hv hk hK=>by
 have hc:clean h.length h=true:=by
  simp only [clean,List.all_eq_true]
  exact hs.gval
 refine (hS σ h w args _ hs hG hv hk (hh args h K hc hK)).mono ?_
 rintro e w' ⟨v,h', σ',e1,e2,e3,e4,h1,junk,rfl,k1,k2,k3,k4⟩
 exact ⟨v,h1, σ',e1,e2,k3,e4.cutH k1 k2,k4⟩

theorem app_setl {α:Type} {h X:List α} {k:Nat} {B:α} (hk:k<h.length):(h++X).set k B=h.set k B++X:=List.set_append_left _ _ hk
theorem take_app {α:Type} {h X:List α} {n:Nat} (e:h.length=n):(h++X).take n=h:=by subst e; exact List.take_left
theorem drop_app {α:Type} {h X:List α} {n:Nat} (e:h.length=n):(h++X).drop n=X:=by subst e; exact List.drop_left
theorem app_taken {α:Type} {h r:List α} {n:Nat}:(h++r).take (h.length+n)=h++r.take n:=List.take_length_add_append n
theorem app_dropn {α:Type} {h r:List α} {n:Nat}:(h++r).drop (h.length+n)=r.drop n:=by
 rw [<-List.drop_drop,List.drop_left]
theorem app_take0 {α:Type} {h r:List α}:(h++r).take h.length=h:=List.take_left
theorem app_drop0 {α:Type} {h r:List α}:(h++r).drop h.length=r:=List.drop_left
theorem clean_app {n m:Nat} {h X:List Blk} (hc:clean n h=true) (hn:n<=m) (hX:clean m X=true):clean m (h++X)=true:=by
 simp only [clean,List.all_eq_true,List.mem_append] at *
 rintro x (h1|h1)
 ·exact vals_mono hn (Nat.le_refl _) (hc x h1)
 ·exact hX x h1
theorem clean_set {n k:Nat} {h:List Blk} {B:Blk} (hc:clean n h=true) (hB:vals n 0 B.cells=true):clean n (h.set k B)=true:=by
 simp only [clean,List.all_eq_true] at *
 intro x hx
 rcases List.mem_or_eq_of_mem_set hx with h1|h1
 ·exact hc x h1
 ·subst h1; exact hB
theorem set_hit {h:List Blk} {k:Nat} {B B':Blk} (hk:h[k]?=some B):(h.set k B')[k]?=some B':=by
 obtain ⟨hlt,_⟩:=List.getElem?_eq_some_iff.1 hk
 simp [hlt]
theorem set_miss {h:List Blk} {k j:Nat} {B':Blk} (e:k≠j):(h.set k B')[j]?=h[j]?:=by simp [e]
theorem set_self {h:List Blk} {k:Nat} {B:Blk} (hk:h[k]?=some B):h.set k B=h:=by
 obtain ⟨hlt,e⟩:=List.getElem?_eq_some_iff.1 hk
 subst e; simp

/-! ### equations that are used as rewrites,each as a proof of its own -/
theorem lenR_sl {r:R} {o n c:Nat} {ls h:List Blk}:lenR (.s (.sl r o n c)) ls h=.ok (.s (.i .i64 n)) ls h:=by rfl
theorem lenR_ns {ls h:List Blk}:lenR (.s .ns) ls h=.ok (.s (.i .i64 0)) ls h:=by rfl
theorem lenR_es {a:Addr} {c:Nat} {ls h:List Blk}:lenR (.s (.es a c)) ls h=.ok (.s (.i .i64 0)) ls h:=by rfl
section
universe u
theorem q_all_cons {α:Type u} {a:α} {l:List α} {f:α->Bool}:(a::l).all f=(f a&&l.all f):=by rfl
theorem q_all_nil {α:Type u} {f:α->Bool}:([]:List α).all f=true:=by rfl
theorem q_get0 {α:Type u} {a:α} {l:List α}:(a::l)[0]?=some a:=by rfl
theorem q_getS {α:Type u} {a:α} {i:Nat} {l:List α}:(a::l)[i+1]?=l[i]?:=by rfl
theorem q_getN {α:Type u} {i:Nat}:([]:List α)[i]?=none:=by rfl
theorem q_len_cons {α:Type u} {a:α} {l:List α}:(a::l).length=l.length+1:=by rfl
theorem q_len_nil {α:Type u}:([]:List α).length=0:=by rfl
theorem q_cons_app {α:Type u} {a:α} {l m:List α}:(a::l)++m=a::(l++m):=by rfl
theorem q_nil_app {α:Type u} (l:List α):[]++l=l:=by rfl
theorem qT {α:Sort u} (a b:α):(bif true then a else b)=a:=by rfl
theorem qF {α:Sort u} (a b:α):(bif false then a else b)=b:=by rfl
theorem q_cast {n:Nat}:@Nat.cast Int instNatCastInt (no_index (OfNat.ofNat n))=OfNat.ofNat n:=by rfl
theorem q_ite_t {α:Sort u} (a b:α):(if True then a else b)=a:=by simp
theorem q_ite_f {α:Sort u} (a b:α):(if False then a else b)=b:=by simp
theorem q_add_zero (n:Nat):n+0=n:=by rfl
theorem q_ne {α:Sort u} (a b:α):(a≠b)=¬ a=b:=by rfl
theorem q_toNat (n:Nat):((n:Int)).toNat=n:=by rfl
end

theorem cut_s {Γ:FuncId->FSpec} {n0:Nat} {K:Ex->St->Prop} {n:Nat} {a b:DC} {fs:List Fr}:cutFs Γ n0 K (n+1) (.seq a b) fs=.c a::cutFs Γ n0 K n b fs:=(rfl)
theorem cut_0 {Γ:FuncId->FSpec} {n0:Nat} {K:Ex->St->Prop} {d:DC} {fs:List Fr}:cutFs Γ n0 K 0 d fs=.lp (fun s=>swp Γ n0 K (.c d::fs) s)::fs:=by
 unfold cutFs; rfl

/-! ### loops -/
def killT:List Nat->List V->List V
 | [],t=>t
 | i::is,t=>killT is (t.set i (.s .u))
def setT:List (Nat×V)->List V->List V
 | [],t=>t
 | (i,v)::is,t=>setT is (t.set i v)


theorem loop_rule {Γ:FuncId->FSpec} {n0:Nat} {K:Ex->St->Prop} {c:DC} {fs:List Fr} {t:List V} {ls h:List Blk} {α:Type} (dead:List Nat) (upd:α->List (Nat×V)) (L H:α->List Blk) (I:α->Prop) (μ:α->Nat) (x0:α)
  (h0:I x0) (W0:Wk n0 ⟨t,ls,h⟩ ⟨setT (upd x0) (killT dead t),L x0,H x0⟩)
  (step:∀ (X:St->Prop) (x:α),I x->(∀ (y:α) (s:St), μ y<μ x->I y->Wk n0 s ⟨setT (upd y) (killT dead t),L y,H y⟩->X s)->swp Γ n0 K (.c c::.lp X::fs) ⟨setT (upd x) (killT dead t),L x,H x⟩) :
  holds Γ n0 K (.loop c fs t ls h):=by
 rw [holds_loop]
 refine swp_loop fun X hX=>?_
 have main:∀ (n:Nat) (x:α) (s:St), μ x=n->I x->Wk n0 s ⟨setT (upd x) (killT dead t),L x,H x⟩->X s:=by
  intro n
  induction n using Nat.strongRecOn with
  | _ n ih =>
   intro x s hn hx hW
   exact hX s (swp_weak hW (step X x hx fun y s' hlt hy hW'=>ih (μ y) (by omega) y s' rfl hy hW'))
 exact main _ x0 _ rfl h0 W0

/-! ### arrays of structs -/
section arrs
variable {α:Type} (f:α->List S) (k:Nat)

def arr:List α->List S
 | []=>[]
 | x::l=>f x++arr l

variable {f:α->List S} {k:Nat} (hf:∀ x,(f x).length=k)
include hf

theorem arr_length:∀ l:List α,(arr f l).length=l.length*k
 | []=>by simp [arr]
 | x::l=>by simp only [arr,List.length_append,hf,arr_length l,List.length_cons,Nat.succ_mul]; omega

theorem arr_drop:∀ (l:List α) (i:Nat),(arr f l).drop (i*k)=arr f (l.drop i)
 | [],i=>by simp [arr]
 | x::l,0=>by simp
 | x::l,i+1=>by
  have e:(i+1)*k=(f x).length+i*k:=by rw [hf,Nat.succ_mul]; omega
  simp only [arr,e,List.drop_succ_cons]
  rw [<-List.drop_drop,List.drop_left]
  exact arr_drop l i

theorem arr_sub {l:List α} {i:Nat} (h:i<l.length):sub (arr f l) (i*k) k=f l[i]:=by
 unfold sub
 rw [arr_drop hf]
 rw [List.drop_eq_getElem_cons h]
 simp only [arr]
 rw [<-hf l[i]]
 exact List.take_left

theorem arr_get {l:List α} {i j:Nat} (h:i<l.length) (hj:j<k):(arr f l)[i*k+j]?=(f l[i])[j]?:=by
 have e:=congrArg (fun q=>q[j]?) (arr_sub hf h)
 simp only [sub] at e
 rw [List.getElem?_take,if_pos hj,List.getElem?_drop] at e
 exact e

theorem arr_get0 {l:List α} {i:Nat} (h:i<l.length) (hj:0<k):(arr f l)[i*k]?=(f l[i])[0]?:=arr_get (j:=0) hf h hj

omit hf in
theorem arr_append (l m:List α):arr f (l++m)=arr f l++arr f m:=by
 induction l with
 | nil=>rfl
 | cons x l ih=>simp only [List.cons_append,arr,ih,List.append_assoc]

omit hf in
theorem arr_all (p:S->Bool) (l:List α):(arr f l).all p=l.all fun x=>(f x).all p:=by
 induction l with
 | nil=>rfl
 | cons x l ih=>simp only [arr,List.all_append,List.all_cons,ih]
end arrs

/-! ### specs -/
def noT:Tab:=fun _ _ _=>none
def addT (f:FuncId) (g:List V->List Blk->Res) (G:Tab):Tab:=fun k args h=>if k=f then some (g args h) else G k args h

def Tab.Snd (P:Program) (G:Tab):Prop:=∀ f args h r,G f args h=some r->FnOk P f/\D.Snd P f fun args h K=>∃ r,G f args h=some r/\r.spec K

def Tab.Γ (G:Tab):FuncId->FSpec:=fun f args h K=>∃ r,G f args h=some r/\r.spec K
theorem Tab.ok_Γ (G:Tab):G.ok G.Γ:=fun _ _ _ r hr _ hk=>⟨r,hr,hk⟩
theorem Tab.snd_Γ {P:Program} {G:Tab} (h:G.Snd P):SndΓ P G.Γ:=fun f args h' K hg=>by
 obtain ⟨r,hr,hk⟩:=hg
 exact h f args h' r hr

theorem noT_snd (P:Program):noT.Snd P:=fun _ _ _ _ h=>by cases h
theorem addT_snd {P:Program} {f:FuncId} {g:List V->List Blk->Res} {G:Tab} (ok:FnOk P f) (hg:D.Snd P f (FSpec.of g)) (hG:G.Snd P):(addT f g G).Snd P:=fun k args h r hr=>by
 by_cases e:k=f
 ·subst e
  refine ⟨ok, ?_⟩
  have:(fun args h K=>∃ r,addT k g G k args h=some r/\r.spec K)=FSpec.of g:=by
   funext args h K
   simp only [addT,if_true,Option.some.injEq,FSpec.of,exists_eq_left',eq_iff_iff]
  rw [this]
  exact hg
 ·have:(fun args h K=>∃ r,addT f g G k args h=some r/\r.spec K)=fun args h K=>∃ r,G k args h=some r/\r.spec K:=by
   funext args h K
   simp only [addT,if_neg e]
  rw [this]
  simp only [addT,if_neg e] at hr
  exact hG k args h r hr

def nth {α:Type} (d:α):List α->Nat->α
 | [],_=>d
 | x::_,0=>x
 | _::l,i+1=>nth d l i
theorem nth_eq {α:Type} {d:α}:∀ {l:List α} {i:Nat} (h:i<l.length),nth d l i=l[i]
 | [],i,h=>by simp at h
 | _::_,0,_=>rfl
 | _::l,i+1,h=>nth_eq (l:=l) (by simpa using h)
theorem nth_get {α:Type} {d:α} {l:List α} {i:Nat} (h:i<l.length):l[i]?=some (nth d l i):=by
 rw [List.getElem?_eq_getElem h,nth_eq h]

theorem snd_run {P:Program} {G:Tab} (hG:G.Snd P) (hm:OkP P) {f:FuncId} {fn:Func} {F:DF} (hf:P.funcs[f]?=some fn) (hF:compF P fn=some F) {g:List V->List Blk->Res} (n:Nat)
  (hh:∀ args h (K:V->List Blk->Prop),clean h.length h=true->(g args h).spec K->holds G.Γ h.length (finP F.res K) (run G n [.c F.body] (args++List.replicate (F.ntmps-args.length) (.tup [])) [] h)) :
  D.Snd P f (FSpec.of g) :=
 (fwp_sound (Tab.snd_Γ hG) hm hf hF).weaken fun args h K hc hS=>fwp_run G.ok_Γ n (hh args h K hc hS)

theorem snd_cut {P:Program} {G:Tab} (hG:G.Snd P) (hm:OkP P) {f:FuncId} {fn:Func} {F:DF} (hf:P.funcs[f]?=some fn) (hF:compF P fn=some F) {g:List V->List Blk->Res} (n:Nat)
  (hh:∀ args h (K:V->List Blk->Prop),clean h.length h=true->(g args h).spec K->holds G.Γ h.length (finP F.res (Cut h.length K)) (run G n [.c F.body] (args++List.replicate (F.ntmps-args.length) (.tup [])) [] h)) :
  D.Snd P f (FSpec.of g) :=
 ((fwp_sound (Tab.snd_Γ hG) hm hf hF).weaken fun args h K hc hS=>fwp_run G.ok_Γ n hS).cut fun args h K hc hS=>hh args h K hc hS

/-! ### scalars,form by form (one that is not known stays) -/
theorem S_val {n m:Nat}:(S.val n m .u=true)/\(∀ (x:Bool),S.val n m (.b x)=true)/\(∀ (k:IntKind) (x:Int),S.val n m (.i k x)=true)/\(∀ (r:R) (o:Nat),S.val n m (.p r o)=R.val n m r)/\(S.val n m .np=true)/\(∀ (r:R) (o a c:Nat),S.val n m (.sl r o a c)=R.val n m r)/\(S.val n m .ns=true)/\(∀ (a:Addr) (c:Nat),S.val n m (.es a c)=true)/\(∀ (f:FuncId) (cs:List (R×Nat)),S.val n m (.fn f cs)=cs.all fun x=>R.val n m x.1)/\(S.val n m .nf=true):=by
 refine ⟨?_, ?_, ?_, ?_, ?_, ?_, ?_, ?_, ?_, ?_⟩<;>intros<;>rfl
theorem S_noL  : (S.noL .u=true)/\(∀ (x:Bool),S.noL (.b x)=true)/\(∀ (k:IntKind) (x:Int),S.noL (.i k x)=true)/\(∀ (r:R) (o:Nat),S.noL (.p r o)=R.noL r)/\(S.noL .np=true)/\(∀ (r:R) (o a c:Nat),S.noL (.sl r o a c)=R.noL r)/\(S.noL .ns=true)/\(∀ (a:Addr) (c:Nat),S.noL (.es a c)=true)/\(∀ (f:FuncId) (cs:List (R×Nat)),S.noL (.fn f cs)=cs.all fun x=>R.noL x.1)/\(S.noL .nf=true):=by
 refine ⟨?_, ?_, ?_, ?_, ?_, ?_, ?_, ?_, ?_, ?_⟩<;>intros<;>rfl
theorem S_below {n:Nat}:(S.below n .u=true)/\(∀ (x:Bool),S.below n (.b x)=true)/\(∀ (k:IntKind) (x:Int),S.below n (.i k x)=true)/\(∀ (r:R) (o:Nat),S.below n (.p r o)=R.below n r)/\(S.below n .np=true)/\(∀ (r:R) (o a c:Nat),S.below n (.sl r o a c)=R.below n r)/\(S.below n .ns=true)/\(∀ (a:Addr) (c:Nat),S.below n (.es a c)=true)/\(∀ (f:FuncId) (cs:List (R×Nat)),S.below n (.fn f cs)=cs.all fun x=>R.below n x.1)/\(S.below n .nf=true):=by
 refine ⟨?_, ?_, ?_, ?_, ?_, ?_, ?_, ?_, ?_, ?_⟩<;>intros<;>rfl
theorem S_names {n:Nat}:(S.names n .u=false)/\(∀ (x:Bool),S.names n (.b x)=false)/\(∀ (k:IntKind) (x:Int),S.names n (.i k x)=false)/\(∀ (r:R) (o:Nat),S.names n (.p r o)=R.names n r)/\(S.names n .np=false)/\(∀ (r:R) (o a c:Nat),S.names n (.sl r o a c)=R.names n r)/\(S.names n .ns=false)/\(∀ (a:Addr) (c:Nat),S.names n (.es a c)=false)/\(∀ (f:FuncId) (cs:List (R×Nat)),S.names n (.fn f cs)=cs.any fun x=>R.names n x.1)/\(S.names n .nf=false):=by
 refine ⟨?_, ?_, ?_, ?_, ?_, ?_, ?_, ?_, ?_, ?_⟩<;>intros<;>rfl
theorem S_ren {ρ:R->R}:(S.ren ρ .u=.u)/\(∀ (x:Bool),S.ren ρ (.b x)=(.b x))/\(∀ (k:IntKind) (x:Int),S.ren ρ (.i k x)=(.i k x))/\(∀ (r:R) (o:Nat),S.ren ρ (.p r o)=.p (ρ r) o)/\(S.ren ρ .np=.np)/\(∀ (r:R) (o a c:Nat),S.ren ρ (.sl r o a c)=.sl (ρ r) o a c)/\(S.ren ρ .ns=.ns)/\(∀ (a:Addr) (c:Nat),S.ren ρ (.es a c)=(.es a c))/\(∀ (f:FuncId) (cs:List (R×Nat)),S.ren ρ (.fn f cs)=.fn f (cs.map fun x=>(ρ x.1,x.2)))/\(S.ren ρ .nf=.nf):=by
 refine ⟨?_, ?_, ?_, ?_, ?_, ?_, ?_, ?_, ?_, ?_⟩<;>intros<;>rfl
theorem S_known  : (V.known (.s .u)=false)/\(∀ (x:Bool),V.known (.s (.b x))=true)/\(∀ (k:IntKind) (x:Int),V.known (.s (.i k x))=true)/\(∀ (r:R) (o:Nat),V.known (.s (.p r o))=true)/\(V.known (.s .np)=true)/\(∀ (r:R) (o a c:Nat),V.known (.s (.sl r o a c))=true)/\(V.known (.s .ns)=true)/\(∀ (a:Addr) (c:Nat),V.known (.s (.es a c))=true)/\(∀ (f:FuncId) (cs:List (R×Nat)),V.known (.s (.fn f cs))=true)/\(V.known (.s .nf)=true):=by
 refine ⟨?_, ?_, ?_, ?_, ?_, ?_, ?_, ?_, ?_, ?_⟩<;>intros<;>rfl
theorem S_plain  : (V.plain (.s .u)=false)/\(∀ (x:Bool),V.plain (.s (.b x))=true)/\(∀ (k:IntKind) (x:Int),V.plain (.s (.i k x))=true)/\(∀ (r:R) (o:Nat),V.plain (.s (.p r o))=true)/\(V.plain (.s .np)=true)/\(∀ (r:R) (o a c:Nat),V.plain (.s (.sl r o a c))=true)/\(V.plain (.s .ns)=true)/\(∀ (a:Addr) (c:Nat),V.plain (.s (.es a c))=true)/\(∀ (f:FuncId) (cs:List (R×Nat)),V.plain (.s (.fn f cs))=true)/\(V.plain (.s .nf)=true):=by
 refine ⟨?_, ?_, ?_, ?_, ?_, ?_, ?_, ?_, ?_, ?_⟩<;>intros<;>rfl
theorem V_known:(∀ xs,V.known (.agg xs)=known xs)/\(∀ cs,V.known (.tup cs)=cs.all C.known):=by
 refine ⟨?_, ?_⟩<;>intros<;>rfl
theorem V_plain:(∀ xs,V.plain (.agg xs)=known xs)/\(∀ cs,V.plain (.tup cs)=false):=by
 refine ⟨?_, ?_⟩<;>intros<;>rfl
theorem C_known:(∀ x,C.known (.s x)=V.known (.s x))/\(∀ xs,C.known (.agg xs)=known xs):=by
 refine ⟨?_, ?_⟩
 ·intro x; cases x<;>rfl
 ·intros; rfl


/-! ### iterators,piece by piece -/
inductive YF where
 | c (d:DC)
 | blk (id:Nat)
 | lp (X:St->U->Option Ex->Prop)
mutual
def ysw (Γ:FuncId->FSpec) (l np:Nat) (R:Rnd) (K:Ex->St->U->Option Ex->Prop):List YF->St->U->Option Ex->Prop
 | [],s,u,p=>K .nrm s u p
 | .c d::fs,s,u,p=>∃ s',Wk s.h.length s s'/\ydwp Γ l np R d s' u p fun e s u p=>match e with
  | .nrm=>ysw Γ l np R K fs s u p
  | .ext id=>ysx Γ l np R K fs id s u p
  | .ret=>K .ret s u p
 | .blk _::fs,s,u,p=>ysw Γ l np R K fs s u p
 | .lp X::_,s,u,p=>X s u p
def ysx (Γ:FuncId->FSpec) (l np:Nat) (R:Rnd) (K:Ex->St->U->Option Ex->Prop):List YF->Nat->St->U->Option Ex->Prop
 | [],id,s,u,p=>K (.ext id) s u p
 | .blk j::fs,id,s,u,p=>if id=j then ysw Γ l np R K fs s u p else ysx Γ l np R K fs id s u p
 | .c _::fs,id,s,u,p=>ysx Γ l np R K fs id s u p
 | .lp _::fs,id,s,u,p=>ysx Γ l np R K fs id s u p
end
section
variable {Γ:FuncId->FSpec} {l np:Nat} {R:Rnd} {K:Ex->St->U->Option Ex->Prop} {fs:List YF} {s:St} {u:U} {p:Option Ex} {a b c:DC}
theorem ysw_seq (h:ysw Γ l np R K (.c a::.c b::fs) s u p):ysw Γ l np R K (.c (.seq a b)::fs) s u p:=by
 simp only [ysw] at h ⊢
 obtain ⟨s',W,h⟩:=h
 refine ⟨s',W, ?_⟩
 simp only [ydwp]
 refine cast ?_ h
 congr 1
 funext e s u p
 cases e<;>simp only [ysw,ysx]
theorem ysw_block {id:Nat} (hid:id<1000000) (h:ysw Γ l np R K (.c c::.blk id::fs) s u p):ysw Γ l np R K (.c (.block id c)::fs) s u p:=by
 simp only [ysw] at h ⊢
 obtain ⟨s',W,h⟩:=h
 refine ⟨s',W, ?_⟩
 simp only [ydwp]
 refine ⟨hid,cast ?_ h⟩
 congr 1
 funext e s u p
 cases e with
 | nrm=>simp only [ysw]
 | ret=>rfl
 | ext j =>
  simp only [ysw,ysx]
theorem ysw_skip (h:ysw Γ l np R K fs s u p):ysw Γ l np R K (.c .skip::fs) s u p:=by
 simp only [ysw,ydwp]
 exact ⟨s, .refl,h⟩
theorem ysw_blk {id:Nat} (h:ysw Γ l np R K fs s u p):ysw Γ l np R K (.blk id::fs) s u p:=by simp only [ysw]; exact h
theorem ysw_ret (h:K .ret s u p):ysw Γ l np R K (.c .ret::fs) s u p:=by
 simp only [ysw,ydwp]
 exact ⟨s, .refl,h⟩
theorem ysw_exit {id:Nat} (hid:id<1000000) (h:ysx Γ l np R K fs id s u p):ysw Γ l np R K (.c (.exit id)::fs) s u p:=by
 simp only [ysw,ydwp]
 exact ⟨s, .refl,hid,h⟩
theorem ysw_cond {x:Opd} {q:Bool} (hx:ev s.t x=.s (.b q)) (h:ysw Γ l np R K (.c (if q then a else b)::fs) s u p):ysw Γ l np R K (.c (.cond x a b)::fs) s u p:=by
 simp only [ysw] at h ⊢
 obtain ⟨s',W,h⟩:=h
 refine ⟨s, .refl, ?_⟩
 simp only [ydwp,hx]
 cases q
 ·exact ⟨s',W,h⟩
 ·exact ⟨s',W,h⟩
def noCv (gl:List GI):Bool:=gl.all fun x=>match x.op with
 | .callv ..=>false
 | _=>true
theorem ywp_app {gl2:List GI} {K2:List V->List Blk->List Blk->U->Option Ex->Prop}:∀ (gl:List GI),noCv gl=true->∀ (t:List V) (ls h:List Blk),ywp Γ l np R (gl++gl2) t ls h u p K2=rwp Γ gl t ls h (fun t ls h=>ywp Γ l np R gl2 t ls h u p K2)
 | [],_,t,ls,h=>rfl
 | x::gl,hn,t,ls,h=>by
  simp only [noCv,List.all_cons,Bool.and_eq_true] at hn
  have hy:yieldOf x t=none:=by
   unfold yieldOf
   split
   ·rename_i ho _
    have:=hn.1
    rw [ho] at this
    cases this
   ·rfl
  simp only [rwp,List.cons_append,ywp,hy]
  congr 1
  funext t ls h
  exact ywp_app gl hn.2 t ls h
theorem ysw_reg {G:Tab} (hG:G.ok Γ) (n:Nat) {gl:List GI} {t:List V} {ls h:List Blk} (hn:noCv gl=true) (hh:holds Γ h.length (fun _ _=>False) (run G n [.gi gl, .lp fun s=>ysw Γ l np R K fs s u p] t ls h)):ysw Γ l np R K (.c (.reg gl)::fs) ⟨t,ls,h⟩ u p:=by
 have h1:=run_sound hG n _ t ls h hh
 simp only [swp] at h1
 simp only [ysw,ydwp]
 refine ⟨_, .refl, ?_⟩
 have:=ywp_app (Γ:=Γ) (l:=l) (np:=np) (R:=R) (u:=u) (p:=p) (gl2:=[]) (K2:=fun t ls h u p=>ysw Γ l np R K fs ⟨t,ls,h⟩ u p) gl hn t ls h
 rw [List.append_nil] at this
 rw [this]
 simp only [ywp]
 exact h1
theorem ysw_yield {G:Tab} (hG:G.ok Γ) (n:Nat) {pre post:List GI} {y:GI} {t:List V} {ls h:List Blk} (hn:noCv pre=true)
  (hh:holds Γ h.length (fun _ _=>False) (run G n [.gi pre, .lp fun s=>ywp Γ l np R (y::post) s.t s.ls s.h u p fun t ls h u p=>ysw Γ l np R K fs ⟨t,ls,h⟩ u p] t ls h)) :
  ysw Γ l np R K (.c (.reg (pre++y::post))::fs) ⟨t,ls,h⟩ u p:=by
 have h1:=run_sound hG n _ t ls h hh
 simp only [swp] at h1
 simp only [ysw,ydwp]
 refine ⟨_, .refl, ?_⟩
 rw [ywp_app pre hn]
 exact h1
theorem ysw_yieldAt {G:Tab} (hG:G.ok Γ) (n k:Nat) {gl:List GI} {y:GI} {t:List V} {ls h:List Blk} (hk:gl=gl.take k++y::gl.drop (k+1)) (hn:noCv (gl.take k)=true)
  (hh:holds Γ h.length (fun _ _=>False) (run G n [.gi (gl.take k), .lp fun s=>ywp Γ l np R (y::gl.drop (k+1)) s.t s.ls s.h u p fun t ls h u p=>ysw Γ l np R K fs ⟨t,ls,h⟩ u p] t ls h)) :
  ysw Γ l np R K (.c (.reg gl)::fs) ⟨t,ls,h⟩ u p:=by
 rw [hk]
 exact ysw_yield hG n hn hh
theorem ywp_y {y:GI} {post:List GI} {t args:List V} {ls h:List Blk} {K2:List V->List Blk->List Blk->U->Option Ex->Prop} (hy:yieldOf y t=some (l,args)) (hl:args.length=np) (hk:args.all V.known=true) (hno:args.all V.noL=true) (hrw:allRw ls=true)
  (hR:R args u h fun p' u' h'=>ywp Γ l np R post (putD t y.dst (.s (.b p'.isNone))) ls h' u' p' K2):ywp Γ l np R (y::post) t ls h u none K2:=by
 simp only [ywp,hy]
 exact ⟨⟨trivial,trivial,hl,hk,hno,hrw⟩,hR⟩
theorem ywp_run {G:Tab} (hG:G.ok Γ) (n:Nat) {gl:List GI} {t:List V} {ls h:List Blk} (hn:noCv gl=true) (hh:holds Γ h.length (fun _ _=>False) (run G n [.gi gl, .lp fun s=>ysw Γ l np R K fs s u p] t ls h)) :
  ywp Γ l np R gl t ls h u p fun t ls h u p=>ysw Γ l np R K fs ⟨t,ls,h⟩ u p:=by
 have h1:=run_sound hG n _ t ls h hh
 simp only [swp] at h1
 have:=ywp_app (Γ:=Γ) (l:=l) (np:=np) (R:=R) (u:=u) (p:=p) (gl2:=[]) (K2:=fun t ls h u p=>ysw Γ l np R K fs ⟨t,ls,h⟩ u p) gl hn t ls h
 rw [List.append_nil] at this
 rw [this]
 simp only [ywp]
 exact h1
theorem ysw_loop {t:List V} {ls h:List Blk} {α:Type} (dead:List Nat) (upd:α->List (Nat×V)) (L H:α->List Blk) (I:α->U->Option Ex->Prop) (μ:α->Nat) (x0:α) (h0:I x0 u p) (hl:h.length=(H x0).length) (W0:Wk h.length ⟨t,ls,h⟩ ⟨setT (upd x0) (killT dead t),L x0,H x0⟩)
  (step:∀ (X:St->U->Option Ex->Prop) (x:α) (u:U) (p:Option Ex),I x u p->(∀ (y:α) (s:St) (u:U) (p:Option Ex), μ y<μ x->I y u p->s.h.length=(H y).length->Wk s.h.length s ⟨setT (upd y) (killT dead t),L y,H y⟩->X s u p)->ysw Γ l np R K (.c c::.lp X::fs) ⟨setT (upd x) (killT dead t),L x,H x⟩ u p) :
  ysw Γ l np R K (.c (.loop c)::fs) ⟨t,ls,h⟩ u p:=by
 simp only [ysw,ydwp]
 refine ⟨_, .refl,fun X hX=>?_⟩
 have main:∀ (n:Nat) (x:α) (s:St) (u:U) (p:Option Ex), μ x=n->I x u p->s.h.length=(H x).length->Wk s.h.length s ⟨setT (upd x) (killT dead t),L x,H x⟩->X s u p:=by
  intro n
  induction n using Nat.strongRecOn with
  | _ n ih =>
   intro x s u p hn hx hsl hW
   have h1:=step X x u p hx fun y s' u' p' hlt hy hsl' hW'=>ih (μ y) (by omega) y s' u' p' rfl hy hsl' hW'
   simp only [ysw] at h1
   obtain ⟨s2,W2,h1⟩:=h1
   refine hX s u p ⟨s2,hW.trans (by rw [hsl]; exact W2),cast ?_ h1⟩
   congr 1
   funext e s u p
   cases e<;>simp only [ysw,ysx]
 exact main _ x0 _ u p rfl h0 hl W0
theorem isem_of {P:Program} (hP:OkP P) {Γ:FuncId->FSpec} (hΓ:SndΓ P Γ) {f:FuncId} {F:DF} {fn:Func} (hok:FnOk P f) (hf:P.funcs[f]?=some fn) (hF:compF P fn=some F) (hr:F.res=[]) {caps:List V} {np:Nat} {u:U} {h:List Blk} {R:Rnd} {K:Option Ex->U->List Blk->Prop}
  (hk:caps.all V.known=true) (hno:caps.all V.noL=true) (hh:∀ l,ysw Γ l np R (fun e s u p=>match e with
   | .ext _=>False
   | _=>K p u s.h) [.c F.body] ⟨.s (.yl l)::caps++List.replicate (F.ntmps-(caps.length+1)) (.tup []),[],h⟩ u none):isem f caps np u h R K:=by
 obtain ⟨_,hP⟩:=hP
 subst hP
 refine ⟨Γ,F,fn,hΓ,hok,hf,hF,hr,hk,hno,fun l=>?_⟩
 have h1:=hh l
 simp only [ysw] at h1
 obtain ⟨s',W,h1⟩:=h1
 refine ⟨s',W,cast ?_ h1⟩
 congr 1
 funext e s u p
 cases e<;>simp only [ysw,ysx]
theorem rf_rule {Γ:FuncId->FSpec} {n0:Nat} {K:Ex->St->Prop} {g:Opd} {ps:List Nat} {asg body:DC} {fs:List Fr} {t:List V} {ls h:List Blk} {f:FuncId} {cs:List (Go.D.R×Nat)}
  (hev:ev t g=.s (.fn f cs)) (hrw:allRw ls=true) (hs1:asg.simple=true) (hs2:body.simple=true)
  (hi:isem f (cs.map fun x=>.s (.p x.1 x.2)) ps.length (t,ls) h (rndOf Γ ps asg body) fun p u h=>match p.getD .nrm with
   | .nrm=>swp Γ n0 K fs ⟨u.1,u.2,h⟩
   | .ext id=>swx Γ n0 K fs id ⟨u.1,u.2,h⟩
   | .ret=>K .ret ⟨u.1,u.2,h⟩):holds Γ n0 K (.more (.c (.rf g ps asg body)::fs) t ls h):=by
 simp only [holds,swp]
 refine ⟨_, .refl, ?_⟩
 simp only [dwp,hev]
 exact ⟨⟨hrw,hs1,hs2⟩,hi⟩
end
end Go.D

/- The equations by which the machine is evaluated,as one fact. -/
namespace Go.D
set_option linter.all false
variable [Tabs]
set_option maxRecDepth 100000
set_option linter.all false
def EV1:=And.intro (And.intro (And.intro (And.intro (And.intro (@run_je) (@resume_leaf)) (And.intro (@resume_all) (@resume_bad))) (And.intro (And.intro (@resume_res) (@resume_cond)) (And.intro (@resume_ob) (@join_leaf)))) (And.intro (And.intro (And.intro (@join_ob1) (@join_ob2)) (And.intro (@obS_true) (@obS_false))) (And.intro (And.intro (@zipC_nil) (@zipC_cons)) (And.intro (@jv_self) (@jv_b))))) (And.intro (And.intro (And.intro (And.intro (@jv_i) (@cond_ff)) (And.intro (@cond_tt) (@cond_ft))) (And.intro (And.intro (@cond_tf) (@cond_same)) (And.intro (@run_zero) (@run_nil)))) (And.intro (And.intro (And.intro (@run_blk) (@run_lp)) (And.intro (@run_gi0) (@run_gi))) (And.intro (And.intro (@run_gig) (@run_q0)) (And.intro (@run_q) (@run_qg)))))
def EV2:=And.intro (And.intro (And.intro (And.intro (And.intro (@run_skip) (@run_reg)) (And.intro (@run_drt) (@run_drq))) (And.intro (And.intro (@cut_s) (@cut_0)) (And.intro (@run_drm) (@frames_nil)))) (And.intro (And.intro (And.intro (@frames_q) (@frames_g)) (And.intro (@run_seq) (@run_cond))) (And.intro (And.intro (@run_block) (@run_loop)) (And.intro (@run_exit) (And.intro (@run_ret) (@run_rf)))))) (And.intro (And.intro (And.intro (And.intro (@cont_ok) (@cont_br)) (And.intro (@cont_ob) (@cont_call))) (And.intro (And.intro (@cont_app) (@cont_bad)) (And.intro (@cont_all) (@contG_all)))) (And.intro (And.intro (And.intro (@into_all) (@unlend_all)) (And.intro (@contG_ok) (@contG_br))) (And.intro (And.intro (@contG_ob) (@contG_call)) (And.intro (@contG_app) (@contG_bad)))))
def EV3:=And.intro (And.intro (And.intro (And.intro (And.intro (@contQ_ok) (@contQ_br)) (And.intro (@contQ_ob) (@contQ_call))) (And.intro (And.intro (@contQ_callv) (@contQ_bad)) (And.intro (@contQ2_ok) (@contQ2_br)))) (And.intro (And.intro (And.intro (@contQ2_ob) (@contQG_some)) (And.intro (@contQH_ok) (@contQH_br))) (And.intro (And.intro (@contQH_ob) (@guard_b)) (And.intro (@guard_t) (@guardQ_b))))) (And.intro (And.intro (And.intro (And.intro (@guardQ_t) (@condV_b)) (And.intro (@exitV_some) (@callR_t))) (And.intro (And.intro (@callR_f) (@callO_some)) (And.intro (@callO_none) (@callL_some)))) (And.intro (And.intro (And.intro (@callL_none) (@into_ok)) (And.intro (@into_ob) (@into_br))) (And.intro (And.intro (@unlend_ok) (@unlend_ob)) (And.intro (@unlend_br) (@ev_t)))))
def EV4:=And.intro (And.intro (And.intro (And.intro (And.intro (@ev_k) (@tg_some)) (And.intro (@put_nil) (@put_succ))) (And.intro (And.intro (@put_zero) (@known_nil)) (And.intro (@known_cons) (@List.map_cons.{0,0})))) (And.intro (And.intro (And.intro (@List.map_nil.{0,0}) (@q_all_cons.{0})) (And.intro (@q_all_nil.{0}) (@q_get0.{0}))) (And.intro (And.intro (@q_getS.{0}) (@q_getN.{0})) (And.intro (@q_len_cons.{0}) (@q_len_nil.{0}))))) (And.intro (And.intro (And.intro (And.intro (@q_cons_app.{0}) (@q_nil_app.{0})) (And.intro (@List.append_nil.{0}) (@List.append_assoc.{0}))) (And.intro (And.intro (@List.length_append.{0}) (@app_get0)) (And.intro (@app_getn) (@app_set0)))) (And.intro (And.intro (And.intro (@app_setn) (@Bool.and_true)) (And.intro (@Bool.true_and) (@Bool.and_false))) (And.intro (And.intro (@Bool.false_and) (@Bool.or_true)) (And.intro (@Bool.true_or) (@Bool.or_false)))))
def EV5:=And.intro (And.intro (And.intro (And.intro (And.intro (@Bool.false_or) (@Bool.not_true)) (And.intro (@Bool.not_false) (@Bool.false_eq_true))) (And.intro (And.intro (@holds_done) (@holds_obS)) (And.intro (@holds_all) (@holds_lp)))) (And.intro (And.intro (And.intro (@holds_bad) (@holds_cond_eq)) (And.intro (@fin_ret) (@fin_nrm))) (And.intro (And.intro (@finO_some) (@leave_eq)) (And.intro (@leaveB_true) (@rval_t))))) (And.intro (And.intro (And.intro (And.intro (@rval_c) (@rvT_s)) (And.intro (@rvT_agg) (@false_and))) (And.intro (And.intro (@and_false) (@q_cast)) (And.intro (@false_imp_iff) (@true_imp_iff)))) (And.intro (And.intro (And.intro (@not_true_eq_false) (@Classical.not_not)) (And.intro (@true_or) (@or_true))) (And.intro (And.intro (@or_self) (@or_false)) (And.intro (@false_or) (@Nat.lt_irrefl)))))
def EV6:=And.intro (And.intro (And.intro (And.intro (@Nat.one_mul) (@Nat.mul_one)) (And.intro (@decide_true) (And.intro (@decide_false) (@decide_eq_true_eq)))) (And.intro (And.intro (@Bool.not_eq_true') (And.intro (@Bool.not_eq_false') (@Bool.and_eq_true))) (And.intro (@Bool.or_eq_true) (And.intro (@Bool.eq_false_iff) (@Nat.zero_add))))) (And.intro (And.intro (And.intro (@q_add_zero) (@Nat.zero_mul)) (And.intro (@Nat.le_refl) (And.intro (@not_false_eq_true) (@q_toNat)))) (And.intro (And.intro (@sub_succ) (And.intro (@sub_zero) (@sub_none))) (And.intro (@List.length_set.{0}) (And.intro (@beq_self_eq_true.{0}) (@bne_self_eq_false.{0})))))
def EV7:=And.intro (And.intro (And.intro (And.intro (And.intro (And.intro (@addT.eq_1) (@istep.eq_1)) (And.intro (@istep.eq_2) (@istep.eq_3))) (And.intro (And.intro (@istep.eq_4) (@istep.eq_5)) (And.intro (@istep.eq_6) (And.intro (@istep.eq_7) (@istep.eq_8))))) (And.intro (And.intro (And.intro (@istep.eq_9) (@istep.eq_10)) (And.intro (@istep.eq_11) (And.intro (@istep.eq_12) (@istep.eq_13)))) (And.intro (And.intro (@istep.eq_14) (@istep.eq_15)) (And.intro (@istep.eq_16) (And.intro (@istep.eq_17) (@istep.eq_18)))))) (And.intro (And.intro (And.intro (And.intro (@istep.eq_19) (@istep.eq_20)) (And.intro (@istep.eq_21) (@istep.eq_22))) (And.intro (And.intro (@istep.eq_23) (@istep.eq_24)) (And.intro (@istep.eq_25) (And.intro (@istep.eq_26) (@istep.eq_27))))) (And.intro (And.intro (And.intro (@istep.eq_28) (@istep.eq_29)) (And.intro (@istep.eq_30) (And.intro (@istep.eq_31) (@istep.eq_32)))) (And.intro (And.intro (@pickR.eq_1) (@pickR.eq_2)) (And.intro (@pickR.eq_3) (And.intro (@pickR.eq_4) (@putD.eq_1))))))) (And.intro (And.intro (And.intro (And.intro (And.intro (@putD.eq_2) (@bin1R.eq_1)) (And.intro (@bin1R.eq_2) (@bin1R.eq_3))) (And.intro (And.intro (@bin1R.eq_4) (@bin1R.eq_5)) (And.intro (@bin1R.eq_6) (And.intro (@bin1R.eq_7) (@bin1R.eq_8))))) (And.intro (And.intro (And.intro (@bin1R.eq_9) (@bin1R.eq_10)) (And.intro (@bin1R.eq_11) (And.intro (@bin1R.eq_12) (@bin1R.eq_13)))) (And.intro (And.intro (@bin1R.eq_14) (@bin1R.eq_15)) (And.intro (@bin1R.eq_16) (And.intro (@bin1R.eq_17) (@bin1R.eq_18)))))) (And.intro (And.intro (And.intro (And.intro (@un1R.eq_1) (@un1R.eq_2)) (And.intro (@un1R.eq_3) (And.intro (@un1R.eq_4) (@slcR.eq_1)))) (And.intro (And.intro (@bnd.eq_1) (@bnd.eq_2)) (And.intro (@capsOf.eq_1) (And.intro (@capsOf.eq_2) (@fillP.eq_1))))) (And.intro (And.intro (And.intro (@fillP.eq_2) (@V.cells.eq_1)) (And.intro (@V.cells.eq_2) (And.intro (@V.cells.eq_3) (@C.v.eq_1)))) (And.intro (And.intro (@C.v.eq_2) (@blk.eq_1)) (And.intro (@blk.eq_2) (And.intro (@setL.eq_1) (@setL.eq_2)))))))
def EV8:=And.intro (And.intro (And.intro (And.intro (And.intro (And.intro (@setH.eq_1) (@setH.eq_2)) (And.intro (@eqS.eq_1) (@eqS.eq_2))) (And.intro (And.intro (@eqS.eq_3) (@eq1.eq_1)) (And.intro (@eq1.eq_2) (And.intro (@eq1.eq_3) (@cmpS.eq_1))))) (And.intro (And.intro (And.intro (@cmpS.eq_2) (@cmpS.eq_3)) (And.intro (@cmp1.eq_1) (And.intro (@cmp1.eq_2) (@cmp1.eq_3)))) (And.intro (And.intro (@isNil.eq_1) (@isNil.eq_2)) (And.intro (@isNil.eq_3) (And.intro (@isNil.eq_4) (@isNil.eq_5)))))) (And.intro (And.intro (And.intro (And.intro (@popTo.eq_1) (@popTo.eq_2)) (And.intro (@popTo.eq_3) (@popTo.eq_4))) (And.intro (And.intro (@popTo.eq_5) (@popTo.eq_6)) (And.intro (@popTo.eq_7) (And.intro (@popTo.eq_8) (@killT.eq_1))))) (And.intro (And.intro (And.intro (@killT.eq_2) (@setT.eq_1)) (And.intro (@setT.eq_2) (And.intro (@leT.eq_1) (@leT.eq_2)))) (And.intro (And.intro (@leT.eq_3) (@V.below.eq_1)) (And.intro (@V.below.eq_2) (And.intro (@V.below.eq_3) (@C.below.eq_1))))))) (And.intro (And.intro (And.intro (And.intro (And.intro (@C.below.eq_2) (@R.below.eq_1)) (And.intro (@R.below.eq_2) (@V.val.eq_1))) (And.intro (And.intro (@V.val.eq_2) (@V.val.eq_3)) (And.intro (@C.val.eq_1) (And.intro (@C.val.eq_2) (@R.val.eq_1))))) (And.intro (And.intro (And.intro (@R.val.eq_2) (@R.takes.eq_1)) (And.intro (@R.takes.eq_2) (And.intro (@vals.eq_1) (@shows.eq_1)))) (And.intro (And.intro (@shows.eq_2) (@shows.eq_3)) (And.intro (@shows.eq_4) (And.intro (@unnamed.eq_1) (@V.kill.eq_1)))))) (And.intro (And.intro (And.intro (And.intro (@V.names.eq_1) (@V.names.eq_2)) (And.intro (@V.names.eq_3) (And.intro (@C.names.eq_1) (@C.names.eq_2)))) (And.intro (And.intro (@R.names.eq_1) (@R.names.eq_2)) (And.intro (@rvals.eq_1) (And.intro (@rvals.eq_2) (@rvC.eq_1))))) (And.intro (And.intro (And.intro (@rvC.eq_2) (@result.eq_1)) (And.intro (@result.eq_2) (And.intro (@V.noL.eq_1) (@V.noL.eq_2)))) (And.intro (And.intro (@V.noL.eq_3) (@C.noL.eq_1)) (And.intro (@C.noL.eq_2) (And.intro (@R.noL.eq_1) (@R.noL.eq_2)))))))
def EV9:=And.intro (And.intro (And.intro (And.intro (@run_drx) (And.intro (@run_xd) (@run_xq))) (And.intro (And.intro (@run_xg) (@run_xb)) (And.intro (@lenR_sl) (@lenR_ns)))) (And.intro (And.intro (And.intro (@lenR_es) (@S_plain)) (And.intro (@V_plain) (@S_known))) (And.intro (And.intro (@V_known) (@S_below)) (And.intro (@S_val) (@S_names))))) (And.intro (And.intro (And.intro (And.intro (@C_known) (@S_noL)) (And.intro (@q_ite_t.{1}) (@q_ite_f.{1}))) (And.intro (And.intro (@q_ne.{1}) (@List.any_cons.{0})) (And.intro (@List.any_nil.{0}) (@if_true.{1})))) (And.intro (And.intro (And.intro (@if_false.{1}) (@true_and)) (And.intro (@and_true) (@ge_iff_le.{0}))) (And.intro (And.intro (@gt_iff_lt.{0}) (And.intro (@implies_true.{1}) (@implies_true.{0}))) (And.intro (@beq_iff_eq.{0}) (@bne_iff_ne.{0})))))
def EV0:=And.intro (And.intro (And.intro (And.intro (EV1) (And.intro (@Gm_eq) (And.intro (@Gg_eq) (And.intro (@Ki_eq) (@Zi_eq))))) (EV2)) (And.intro (EV3) (EV4))) (And.intro (And.intro (EV5) (EV6)) (And.intro (EV7) (And.intro (EV8) (EV9))))
attribute [go_sem] EV0 istep pickR bin1R un1R eqS eq1 cmpS cmp1 isNil leT shows rvC result List.set List.replicate Option.map
def EVt:=And.intro (@List.take_succ_cons.{0}) (And.intro (@List.take_zero.{0}) (@List.drop_zero.{0}))
end Go.D

