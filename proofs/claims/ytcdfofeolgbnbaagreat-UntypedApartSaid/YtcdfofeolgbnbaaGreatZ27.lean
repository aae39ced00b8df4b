/- Package heap: sizes,slots,apart,within. -/
import Derived.Test.YtcdfofeolgbnbaaGreatZ26
import Derived.Test.YtcdfofeolgbnbaaGreatZ11
import Derived.Test.YtcdfofeolgbnbaaGreatZ17
import Derived.Test.YtcdfofeolgbnbaaGreatZ18
import Derived.Test.YtcdfofeolgbnbaaGreatZ15
/- Law 11: who is below whom,in a list with depths; behind each act. -/
namespace Go.Proofs.YtcdfofeolgbnbaaGreat
open Go.D
set_option linter.all false
set_option maxRecDepth 100000
set_option maxHeartbeats 4000000

def tw (D:Int->Int) (d:Int) (L:List Int):List Int:=L.takeWhile fun y=>decide (d<D y)
def under (D:Int->Int):List Int->Int->List Int
 | [],_=>[]
 | z::L,x=>if z=x then tw D (D x) L else under D L x
theorem tw_cons (D:Int->Int) (d z:Int) (L:List Int):tw D d (z::L)=if d<D z then z::tw D d L else []:=by
 by_cases h:d<D z<;>simp [tw,h]
theorem mem_tw {D:Int->Int} {d z y:Int} {L:List Int}:y∈tw D d (z::L)↔d<D z/\(y=z\/y∈tw D d L):=by
 rw [tw_cons]
 split
 ·rename_i h; simp [h]
 ·rename_i h; simp [h]
theorem tw_sub {D:Int->Int} {d y:Int} {L:List Int} (h:y∈tw D d L):y∈L:=(List.takeWhile_sublist _).subset h
theorem tw_congr {D D':Int->Int} {d:Int}:∀ {L:List Int},(∀ y,y∈L->D' y=D y)->tw D' d L=tw D d L
 | [],_=>rfl
 | z::L,h=>by
  rw [tw_cons,tw_cons,h z List.mem_cons_self,tw_congr fun y hy=>h y (List.mem_cons_of_mem _ hy)]
theorem under_sub {D:Int->Int} {x y:Int}:∀ {L:List Int},y∈under D L x->y∈L/\x∈L
 | [],h=>by cases h
 | z::L,h=>by
  unfold under at h
  split at h
  ·rename_i e; exact ⟨List.mem_cons_of_mem _ (tw_sub h),by rw [e]; exact List.mem_cons_self⟩
  ·obtain ⟨h1,h2⟩:=under_sub h; exact ⟨List.mem_cons_of_mem _ h1,List.mem_cons_of_mem _ h2⟩
theorem under_congr {D D':Int->Int} {x:Int}:∀ {L:List Int},(∀ y,y∈L->D' y=D y)->under D' L x=under D L x
 | [],_=>rfl
 | z::L,h=>by
  unfold under
  have h2:∀ y,y∈L->D' y=D y:=fun y hy=>h y (List.mem_cons_of_mem _ hy)
  by_cases e:z=x
  ·rw [if_pos e,if_pos e,<-e,h z List.mem_cons_self,tw_congr h2]
  ·rw [if_neg e,if_neg e,under_congr h2]
theorem under_split {D:Int->Int} {x:Int} {B:List Int}:∀ {A:List Int},x∉A->under D (A++x::B) x=tw D (D x) B
 | [],_=>by simp [under]
 | z::A,h=>by
  have hz:z≠x:=fun e=>h (by rw [e]; exact List.mem_cons_self)
  rw [List.cons_append,under,if_neg hz,under_split fun h2=>h (List.mem_cons_of_mem _ h2)]
theorem under_none {D:Int->Int} {x:Int}:∀ {L:List Int},x∉L->under D L x=[]
 | [],_=>rfl
 | z::L,h=>by
  have hz:z≠x:=fun e=>h (by rw [e]; exact List.mem_cons_self)
  rw [under,if_neg hz,under_none fun h2=>h (List.mem_cons_of_mem _ h2)]

/-! ### other names -/
/-! ### one more -/
theorem tw_ins {D D':Int->Int} {p a d y:Int} (hDa:D' a=D p+1):∀ {L:List Int},L.Nodup->a∉L->(∀ z,z∈L->D' z=D z)->(y∈tw D' d (insL p a L)↔(y≠a/\y∈tw D d L)\/(y=a/\p∈tw D d L))
 | [],_,_,_=>by simp [insL,tw]
 | z::L,hn,ha,hD=>by
  obtain ⟨n1,n2⟩:=List.nodup_cons.1 hn
  have hza:a≠z:=fun e=>ha (by rw [e]; exact List.mem_cons_self)
  have haL:a∉L:=fun h=>ha (List.mem_cons_of_mem _ h)
  have hz:=hD z List.mem_cons_self
  have hD2:∀ w,w∈L->D' w=D w:=fun w hw=>hD w (List.mem_cons_of_mem _ hw)
  unfold insL
  by_cases e:z=p
  ·subst e
   have hna:¬ a∈tw D d L:=fun h=>haL (tw_sub h)
   have hnp:¬ z∈tw D d L:=fun h=>n1 (tw_sub h)
   rw [if_pos rfl,mem_tw,mem_tw,mem_tw,mem_tw,hz,hDa,tw_congr hD2]
   by_cases c:d<D z
   ·have c2:d<D z+1:=by omega
    by_cases cy:y=a
    ·subst cy; simp [c,c2,hna,hza]
    ·simp [c,c2,cy]
   ·simp [c]
  ·have hpz:p≠z:=fun h=>e h.symm
   rw [if_neg e,mem_tw,mem_tw,mem_tw,hz,tw_ins hDa n2 haL hD2]
   by_cases c:d<D z
   ·by_cases cy:y=a
    ·subst cy; simp [c,hza,hpz]
    ·simp [c,cy]
   ·simp [c]
theorem under_ins {D D':Int->Int} {p a x y:Int} (hDa:D' a=D p+1) (hxa:x≠a):∀ {L:List Int},L.Nodup->a∉L->(∀ z,z∈L->D' z=D z)->(y∈under D' (insL p a L) x↔(y≠a/\y∈under D L x)\/(y=a/\((x=p/\p∈L)\/p∈under D L x)))
 | [],_,_,_=>by simp [insL,under]
 | z::L,hn,ha,hD=>by
  obtain ⟨n1,n2⟩:=List.nodup_cons.1 hn
  have hza:a≠z:=fun e=>ha (by rw [e]; exact List.mem_cons_self)
  have haL:a∉L:=fun h=>ha (List.mem_cons_of_mem _ h)
  have hz:=hD z List.mem_cons_self
  have hD2:∀ w,w∈L->D' w=D w:=fun w hw=>hD w (List.mem_cons_of_mem _ hw)
  unfold insL
  by_cases e:z=p
  ·subst e
   rw [if_pos rfl]
   by_cases ex:z=x
   ·subst ex
    have hna:¬ a∈tw D (D z) L:=fun h=>haL (tw_sub h)
    simp only [under,if_true]
    rw [mem_tw,hz,hDa,tw_congr hD2]
    have c2:D z<D z+1:=by omega
    by_cases cy:y=a
    ·subst cy; simp [c2]
    ·simp [c2,cy]
   ·have hxz:x≠z:=fun h=>ex h.symm
    have hnp:¬ z∈under D L x:=fun h=>n1 (under_sub h).1
    have hna:¬ a∈under D L x:=fun h=>haL (under_sub h).1
    simp only [under,if_neg ex,if_neg (Ne.symm hxa),under_congr hD2,hxz,false_and,false_or,hnp,and_false,or_false]
    by_cases cy:y=a
    ·subst cy; simp [hna]
    ·simp [cy]
  ·have hpz:p≠z:=fun h=>e h.symm
   rw [if_neg e]
   by_cases ex:z=x
   ·subst ex
    have hzp:z≠p:=e
    simp only [under,if_true,hz,tw_ins hDa n2 haL hD2,hzp,false_and,false_or]
   ·simp only [under,if_neg ex,under_ins hDa hxa n2 haL hD2,List.mem_cons,hpz,false_or]
theorem under_new {D D':Int->Int} {p a:Int} (hDa:D' a=D p+1):∀ {L:List Int} {d:Int},a∉L->(∀ z,z∈L->D' z=D z)->dep D d L->under D' (insL p a L) a=[]
 | [],_,_,_,_=>rfl
 | z::L,d,ha,hD,⟨h1,h2⟩=>by
  have hza:¬ z=a:=fun e=>ha (by rw [e]; exact List.mem_cons_self)
  have haL:a∉L:=fun h=>ha (List.mem_cons_of_mem _ h)
  have hD2:∀ w,w∈L->D' w=D w:=fun w hw=>hD w (List.mem_cons_of_mem _ hw)
  unfold insL
  by_cases e:z=p
  ·subst e
   rw [if_pos rfl]
   simp only [under,if_neg hza,if_true]
   cases L with
   | nil=>rfl
   | cons w L =>
    rw [tw_cons,hDa,hD2 w List.mem_cons_self,if_neg]
    have:=h2.1
    omega
  ·rw [if_neg e]
   simp only [under,if_neg hza]
   exact under_new hDa haL hD2 h2
/-! ### one less -/
def headLe (D:Int->Int) (d:Int) (E:List Int):Prop:=E=[]\/∃ z E',E=z::E'/\D z<=d
theorem tw_head {D:Int->Int} {d:Int} {E:List Int} (h:headLe D d E):tw D d E=[]:=by
 rcases h with rfl|⟨z,E',rfl,h⟩
 ·rfl
 ·rw [tw_cons,if_neg (by omega)]
theorem headLe_mono {D D':Int->Int} {d e:Int} {E:List Int} (h:headLe D d E) (hD:∀ z,z∈E->D' z=D z) (hde:d<=e):headLe D' e E:=by
 rcases h with rfl|⟨z,E',rfl,h⟩
 ·exact .inl rfl
 ·exact .inr ⟨z,E',rfl,by rw [hD z List.mem_cons_self]; omega⟩
theorem tw_low1 {D D':Int->Int} {da d:Int} {E:List Int} (hd:da<d) (hE:∀ w,w∈E->D' w=D w) (hh:headLe D da E):∀ {Ds:List Int},(∀ w,w∈Ds->D' w=D w-1)->tw D' (d-1) (Ds++E)=tw D d (Ds++E)
 | [],_=>by
  rw [List.nil_append,tw_head (headLe_mono hh hE (by omega)),tw_head (headLe_mono hh (fun _ _=>rfl) (by omega))]
 | w::Ds,h=>by
  rw [List.cons_append,tw_cons,tw_cons,h w List.mem_cons_self,tw_low1 hd hE hh fun z hz=>h z (List.mem_cons_of_mem _ hz)]
  by_cases c:d<D w
  ·rw [if_pos c,if_pos (by omega)]
  ·rw [if_neg c,if_neg (by omega)]
theorem tw_low2 {D D':Int->Int} {da d:Int} {E:List Int} (hd:d<da) (hE:∀ w,w∈E->D' w=D w):∀ {Ds:List Int},(∀ w,w∈Ds->da<D w/\D' w=D w-1)->tw D' d (Ds++E)=tw D d (Ds++E)
 | [],_=>tw_congr hE
 | w::Ds,h=>by
  obtain ⟨h1,h2⟩:=h w List.mem_cons_self
  rw [List.cons_append,tw_cons,tw_cons,h2,tw_low2 hd hE fun z hz=>h z (List.mem_cons_of_mem _ hz),if_pos (by omega),if_pos (by omega)]
theorem tw_low3 {D D':Int->Int} {da d:Int} {E:List Int} (hd:da<=d) (hE:∀ w,w∈E->D' w=D w) (hh:headLe D da E) {Ds:List Int} (h:∀ w,w∈Ds->D' w=D w-1) (hdep:dep D da (Ds++E)):tw D' d (Ds++E)=[]:=by
 cases Ds with
 | nil=>exact tw_head (headLe_mono hh hE (by omega))
 | cons w Ds =>
  have h1:=hdep.1
  rw [List.cons_append,tw_cons,h w List.mem_cons_self,if_neg (by omega)]
section
variable {D D':Int->Int} {a:Int} {Ds E:List Int}
theorem under_low (hE:∀ w,w∈E->D' w=D w) (hh:headLe D (D a) E) {x:Int}:∀ {Fs:List Int},(∀ w,w∈Fs->D a<D w/\D' w=D w-1)->under D' (Fs++E) x=under D (Fs++E) x
 | [],_=>under_congr hE
 | w::Fs,h=>by
  obtain ⟨h1,h2⟩:=h w List.mem_cons_self
  have h3:∀ z,z∈Fs->D a<D z/\D' z=D z-1:=fun z hz=>h z (List.mem_cons_of_mem _ hz)
  rw [List.cons_append]
  unfold under
  by_cases e:w=x
  ·subst e
   rw [if_pos rfl,if_pos rfl,h2]
   exact tw_low1 h1 hE hh fun z hz=>(h3 z hz).2
  ·rw [if_neg e,if_neg e,under_low hE hh h3]
theorem tw_rem (hE:∀ w,w∈E->D' w=D w) (hh:headLe D (D a) E) (hDs:∀ w,w∈Ds->D a<D w/\D' w=D w-1) (hdep:dep D (D a) (Ds++E)) {y d:Int} (hy:y≠a):∀ {A:List Int},(∀ w,w∈A->D' w=D w)->(y∈tw D' d (A++(Ds++E))↔y∈tw D d (A++a::(Ds++E)))
 | [],_=>by
  rw [List.nil_append,List.nil_append,mem_tw]
  by_cases c:d<D a
  ·rw [tw_low2 c hE hDs]; simp [c,hy]
  ·rw [tw_low3 (by omega) hE hh (fun w hw=>(hDs w hw).2) hdep]; simp [c]
 | w::A,h=>by
  rw [List.cons_append,List.cons_append,mem_tw,mem_tw,h w List.mem_cons_self,tw_rem hE hh hDs hdep hy fun z hz=>h z (List.mem_cons_of_mem _ hz)]
theorem under_rem (hE:∀ w,w∈E->D' w=D w) (hh:headLe D (D a) E) (hDs:∀ w,w∈Ds->D a<D w/\D' w=D w-1) (hdep:dep D (D a) (Ds++E)) {x y:Int} (hx:x≠a) (hy:y≠a):∀ {A:List Int},(∀ w,w∈A->D' w=D w)->(y∈under D' (A++(Ds++E)) x↔y∈under D (A++a::(Ds++E)) x)
 | [],_=>by
  rw [List.nil_append,List.nil_append,under_low hE hh hDs]
  simp only [under,if_neg (Ne.symm hx)]
 | w::A,h=>by
  have h3:∀ z,z∈A->D' z=D z:=fun z hz=>h z (List.mem_cons_of_mem _ hz)
  rw [List.cons_append,List.cons_append]
  unfold under
  by_cases e:w=x
  ·subst e
   rw [if_pos rfl,if_pos rfl,h w List.mem_cons_self]
   exact tw_rem hE hh hDs hdep hy h3
  ·rw [if_neg e,if_neg e]
   exact under_rem hE hh hDs hdep hx hy h3
end

/-! ### a slot's ancestors -/

def slA (n:Nat) (l:List Int) (c:Nat):S:=match l with
 | []=>.ns
 | _::l=>.sl (.g n) 0 (l.length+1) c
def bkA (l:List Int) (c:Nat):List Blk:=match l with
 | []=>[]
 | x::l=>[⟨.rw,intsB (x::l),c⟩]
def lisA (st:M->List Blk) (l:List Int) (e:Int) (m:M):Res:=.all l.length fun c=>.ok (.tup [.s (slA (st m).length l c), .s (.i .i64 e)]) [] (st m++bkA l c)
def erO (o:Option (List Int)):Int:=match o with
 | none=>110
 | some _=>0
theorem dscR_of {st:M->List Blk} {o:Option (List Int)} {m:M} {K:V->List Blk->Prop} (h:(lisA st (o.getD []) (erO o) m).spec K):(dscR st (o,m)).spec K:=by
 cases o with
 | none =>
  have:=h 0 (Nat.zero_le _)
  simp only [slA,bkA,Option.getD_none,List.append_nil,erO] at this
  exact this
 | some l =>
  cases l with
  | nil =>
   have:=h 0 (Nat.zero_le _)
   simp only [slA,bkA,Option.getD_some,List.append_nil,erO] at this
   exact this
  | cons x l=>exact h
def M.lis (m:M):Option (List Int)×M:=dsW (-1) (m.w.length/4) m.fst m.fstX []
def lisAM (b:Nat) (m:M) (st:M->List Blk):List V->Res
 | []=>lisA st (m.lis.1.getD []) (erO m.lis.1) m.lis.2
 | _=>.bad
noncomputable def lisAG:=memF lisAM
theorem lisA_snd:Snd Tryz.prog 33 (FSpec.of lisAG):=lis_snd.weaken fun args h K _ hS=>by
 obtain ⟨a,b,m,rest,rfl,H,hS1⟩:=memF_spec (f:=lisAM) hS
 clear hS
 have hS:=hS1
 clear hS1
 show (memF lisM _ _).spec K
 rw [memF_eq H]
 unfold lisAM at hS
 split at hS
 ·exact dscR_of hS
 ·exact hS.elim

section
variable {m r:M} {L:List Int}
theorem deep_tw (m:M) (d:Int) (L:List Int):deep m.gV d L=tw m.D d L:=rfl
theorem nxX_w (m:M) (a:Int):(m.nxX a).w=m.w:=by
 unfold M.nxX
 split
 ·split
  ·exact gX_w _ _
  ·rw [gX_w,gX_w]
 ·exact gX_w _ _
theorem nxV_w {m m':M} (h:m'.w=m.w) (a:Int):m'.nxV a=m.nxV a:=by unfold M.nxV; simp only [fE_w h,gV_w h]
end
end Go.Proofs.YtcdfofeolgbnbaaGreat

/- Law 11: both memories,new; the document's memory of some words; one heap for both. -/
namespace Go.Proofs.YtcdfofeolgbnbaaGreat
open Go.D
set_option linter.all false
set_option maxRecDepth 100000
set_option maxHeartbeats 8000000

/-! ### shared blocks picked out -/
/-! ### both in one heap -/
section
variable {h:List Blk}
end
open Classical in
noncomputable def ofW (l:List Int):M:=if h:(∀ x,x∈l->u64 x)/\l.length<=65536 then ⟨l,0,h.1,h.2⟩ else M.zero 0
end Go.Proofs.YtcdfofeolgbnbaaGreat

/- Law 11: played: a script over both memories. -/
namespace Go.Proofs.YtcdfofeolgbnbaaGreat
open Go.D
set_option linter.all false
set_option maxRecDepth 100000
set_option maxHeartbeats 1000000

section
variable {m r:M} {L:List Int}
end
end Go.Proofs.YtcdfofeolgbnbaaGreat

/- Law 11: Next and Last; the chapter's example,list by list. -/
namespace Go.Proofs.YtcdfofeolgbnbaaGreat
open Go.D
set_option linter.all false
set_option maxRecDepth 100000
set_option maxHeartbeats 4000000

section
variable {m r:M} {L:List Int}
end
section
variable {m:M} {T T':List (Int×Int)} {U U':List Int}
end

theorem right_size {c:Cap} (h:rightB c=true) (hn:0<szN c):1024<=c.obj/\c.obj+szN c<=65536/\c.obj.tmod (szN c)=0:=by
 have hb:=right_bounds h
 obtain ⟨t,o,b,d,e,g,i,j,k,l,m⟩:=c
 have ho:=hb.obj
 simp only at ho
 simp only [rightB] at h
 simp only [szN] at hn ⊢
 rcases kinds t with rfl|rfl|rfl|rfl|rfl|rfl|rfl|rfl|rfl|rfl|rfl|rfl|rfl|rfl|⟨k0,k1,k2,k3,k4,k5,k6,k7,k8,k9,k10,k11,k12,k13,hx⟩
 case inr.inr.inr.inr.inr.inr.inr.inr.inr.inr.inr.inr.inr.inr=>simp only [k0,k1,k2,k3,k4,k5,k6,k7,k8,k9,k10,k11,k12,k13,if_false] at hn; exact absurd hn (by decide)
 all_goals simp only [Int.reduceEq,if_true,if_false,ite_t,ite_f,not_or,Classical.not_not,nOk_iff,not_and] at h hn ⊢
 all_goals try exact absurd hn (by decide)
 case inr.inl =>
  have hb:4<=b/\b<=15:=by have:=h.1.1; simpa [Classical.not_imp] using this
  have h2:=h.2.1 hn
  have hc:b=4\/b=5\/b=6\/b=7\/b=8\/b=9\/b=10\/b=11\/b=12\/b=13\/b=14\/b=15:=by omega
  rw [uRaw_eq hb] at h2 ⊢
  rcases hc with rfl|rfl|rfl|rfl|rfl|rfl|rfl|rfl|rfl|rfl|rfl|rfl<;>simp only [Int.reduceToNat,Int.reducePow] at h2 ⊢<;>rw [Int.tmod_eq_emod_of_nonneg ho.1] at h2 ⊢<;>omega
 case inr.inr.inl =>
  have hb:1<=b/\b<=8:=by have:=h.1.1; simpa [Classical.not_imp] using this
  have h2:=h.2.1 hn
  have hc:b=1\/b=2\/b=3\/b=4\/b=5\/b=6\/b=7\/b=8:=by omega
  rw [nRaw_eq hb] at h2 ⊢
  rcases hc with rfl|rfl|rfl|rfl|rfl|rfl|rfl|rfl<;>simp only [Int.reduceToNat,Int.reducePow,Int.reduceMul] at h2 ⊢<;>rw [Int.tmod_eq_emod_of_nonneg ho.1] at h2 ⊢<;>omega
 case inr.inr.inr.inr.inr.inr.inr.inr.inr.inr.inl =>
  have h2:=h.2.1 hn
  rcases zrange.1 h.1.1 with rfl|hb
  ·simp only [if_true] at h2 ⊢; rw [Int.tmod_eq_emod_of_nonneg ho.1] at h2 ⊢; omega
  ·have hc:b=1\/b=2\/b=3\/b=4\/b=5\/b=6\/b=7\/b=8:=by omega
   rw [if_neg (by omega),nRaw_eq hb] at h2 ⊢
   rcases hc with rfl|rfl|rfl|rfl|rfl|rfl|rfl|rfl<;>simp only [Int.reduceToNat,Int.reducePow,Int.reduceMul] at h2 ⊢<;>rw [Int.tmod_eq_emod_of_nonneg ho.1] at h2 ⊢<;>omega
 all_goals
  have h2:=h.2.1
  rw [Int.tmod_eq_emod_of_nonneg ho.1] at h2 ⊢
  omega



def knE (k b n:Int):Int:=if k<1\/8<k\/n<1\/16<n then 1 else if k=1 then (if 4<=b/\b<=15 then 0 else 150) else if k=2 then (if 1<=b/\b<=8 then 0 else 150) else if b=0 then 0 else 150
def knG:List V->List Blk->Res
 | [.s (.i .i64 k), .s (.i .i64 b), .s (.i .i64 n)],h=>.ok (.s (.i .i64 (knE k b n))) [] h
 | _,_=>.bad
theorem kn_snd:Snd Tryz.prog 60 (FSpec.of knG):=snd_run (noT_snd _) mixed Tryz.func60 dc60 200 fun args h K hc hS=>by
 unfold knG at hS
 split at hS
 ·rename_i k b n
  simp only [spec_ok,knE] at hS
  by_cases h1:k<1
  ·rw [if_pos (.inl h1)] at hS
   simp (maxSteps:=999999) only [go_sem,simprocAttr,↓qT,↓qF,df60,h1]
   exact hS
  by_cases h2:8<k
  ·rw [if_pos (.inr (.inl h2))] at hS
   simp (maxSteps:=999999) only [go_sem,simprocAttr,↓qT,↓qF,df60,h1,h2]
   exact hS
  by_cases h3:n<1
  ·rw [if_pos (.inr (.inr (.inl h3)))] at hS
   simp (maxSteps:=999999) only [go_sem,simprocAttr,↓qT,↓qF,df60,h1,h2,h3]
   exact hS
  by_cases h4:16<n
  ·rw [if_pos (.inr (.inr (.inr h4)))] at hS
   simp (maxSteps:=999999) only [go_sem,simprocAttr,↓qT,↓qF,df60,h1,h2,h3,h4]
   exact hS
  rw [if_neg (by omega)] at hS
  by_cases k1:k=1
  ·subst k1
   rw [if_pos rfl] at hS
   by_cases h5:4<=b
   ·have h5':¬ b<4:=by omega
    by_cases h6:b<=15
    ·have h6':¬ 15<b:=by omega
     rw [if_pos ⟨h5,h6⟩] at hS
     simp (maxSteps:=999999) only [go_sem,simprocAttr,↓qT,↓qF,df60,h3,h4,h5,h6,h5',h6']
     exact hS
    ·have h6':15<b:=by omega
     rw [if_neg (by omega)] at hS
     simp (maxSteps:=999999) only [go_sem,simprocAttr,↓qT,↓qF,df60,h3,h4,h5,h6,h5',h6']
     exact hS
   ·have h5':b<4:=by omega
    rw [if_neg (by omega)] at hS
    simp (maxSteps:=999999) only [go_sem,simprocAttr,↓qT,↓qF,df60,h3,h4,h5,h5']
    exact hS
  have k1':(k==1)=false:=by simpa using k1
  rw [if_neg k1] at hS
  by_cases k2:k=2
  ·subst k2
   rw [if_pos rfl] at hS
   by_cases h5:1<=b
   ·have h5':¬ b<1:=by omega
    by_cases h6:b<=8
    ·have h6':¬ 8<b:=by omega
     rw [if_pos ⟨h5,h6⟩] at hS
     simp (maxSteps:=999999) only [go_sem,simprocAttr,↓qT,↓qF,df60,h3,h4,h5,h6,h5',h6']
     exact hS
    ·have h6':8<b:=by omega
     rw [if_neg (by omega)] at hS
     simp (maxSteps:=999999) only [go_sem,simprocAttr,↓qT,↓qF,df60,h3,h4,h5,h6,h5',h6']
     exact hS
   ·have h5':b<1:=by omega
    rw [if_neg (by omega)] at hS
    simp (maxSteps:=999999) only [go_sem,simprocAttr,↓qT,↓qF,df60,h3,h4,h5,h5']
    exact hS
  have k2':(k==2)=false:=by simpa using k2
  rw [if_neg k2] at hS
  by_cases h5:b=0
  ·subst h5
   rw [if_pos rfl] at hS
   simp (maxSteps:=999999) only [go_sem,simprocAttr,↓qT,↓qF,df60,h1,h2,h3,h4,k1,k1',k2,k2']
   exact hS
  ·have h5':(b==0)=false:=by simpa using h5
   rw [if_neg h5] at hS
   by_cases h6:b<0
   ·simp (maxSteps:=999999) only [go_sem,simprocAttr,↓qT,↓qF,df60,h1,h2,h3,h4,k1,k1',k2,k2',h5,h5',h6]
    exact hS
   ·have h7:0<b:=by omega
    simp (maxSteps:=999999) only [go_sem,simprocAttr,↓qT,↓qF,df60,h1,h2,h3,h4,k1,k1',k2,k2',h5,h5',h6,h7]
    exact hS
 ·exact hS.elim
theorem rkn_snd:Snd Tryz.prog 61 (FSpec.of knG):=snd_run (noT_snd _) mixed Tryz.func61 dc61 200 fun args h K hc hS=>by
 unfold knG at hS
 split at hS
 ·rename_i k b n
  simp only [spec_ok,knE] at hS
  by_cases h1:k<1
  ·rw [if_pos (.inl h1)] at hS
   simp (maxSteps:=999999) only [go_sem,simprocAttr,↓qT,↓qF,df61,h1]
   exact hS
  by_cases h2:8<k
  ·rw [if_pos (.inr (.inl h2))] at hS
   simp (maxSteps:=999999) only [go_sem,simprocAttr,↓qT,↓qF,df61,h1,h2]
   exact hS
  by_cases h3:n<1
  ·rw [if_pos (.inr (.inr (.inl h3)))] at hS
   simp (maxSteps:=999999) only [go_sem,simprocAttr,↓qT,↓qF,df61,h1,h2,h3]
   exact hS
  by_cases h4:16<n
  ·rw [if_pos (.inr (.inr (.inr h4)))] at hS
   simp (maxSteps:=999999) only [go_sem,simprocAttr,↓qT,↓qF,df61,h1,h2,h3,h4]
   exact hS
  rw [if_neg (by omega)] at hS
  by_cases k1:k=1
  ·subst k1
   rw [if_pos rfl] at hS
   by_cases h5:4<=b
   ·have h5':¬ b<4:=by omega
    by_cases h6:b<=15
    ·have h6':¬ 15<b:=by omega
     rw [if_pos ⟨h5,h6⟩] at hS
     simp (maxSteps:=999999) only [go_sem,simprocAttr,↓qT,↓qF,df61,h3,h4,h5,h6,h5',h6']
     exact hS
    ·have h6':15<b:=by omega
     rw [if_neg (by omega)] at hS
     simp (maxSteps:=999999) only [go_sem,simprocAttr,↓qT,↓qF,df61,h3,h4,h5,h6,h5',h6']
     exact hS
   ·have h5':b<4:=by omega
    rw [if_neg (by omega)] at hS
    simp (maxSteps:=999999) only [go_sem,simprocAttr,↓qT,↓qF,df61,h3,h4,h5,h5']
    exact hS
  have k1':(k==1)=false:=by simpa using k1
  rw [if_neg k1] at hS
  by_cases k2:k=2
  ·subst k2
   rw [if_pos rfl] at hS
   by_cases h5:1<=b
   ·have h5':¬ b<1:=by omega
    by_cases h6:b<=8
    ·have h6':¬ 8<b:=by omega
     rw [if_pos ⟨h5,h6⟩] at hS
     simp (maxSteps:=999999) only [go_sem,simprocAttr,↓qT,↓qF,df61,h3,h4,h5,h6,h5',h6']
     exact hS
    ·have h6':8<b:=by omega
     rw [if_neg (by omega)] at hS
     simp (maxSteps:=999999) only [go_sem,simprocAttr,↓qT,↓qF,df61,h3,h4,h5,h6,h5',h6']
     exact hS
   ·have h5':b<1:=by omega
    rw [if_neg (by omega)] at hS
    simp (maxSteps:=999999) only [go_sem,simprocAttr,↓qT,↓qF,df61,h3,h4,h5,h5']
    exact hS
  have k2':(k==2)=false:=by simpa using k2
  rw [if_neg k2] at hS
  by_cases h5:b=0
  ·subst h5
   rw [if_pos rfl] at hS
   simp (maxSteps:=999999) only [go_sem,simprocAttr,↓qT,↓qF,df61,h1,h2,h3,h4,k1,k1',k2,k2']
   exact hS
  ·have h5':(b==0)=false:=by simpa using h5
   rw [if_neg h5] at hS
   by_cases h6:b<0
   ·simp (maxSteps:=999999) only [go_sem,simprocAttr,↓qT,↓qF,df61,h1,h2,h3,h4,k1,k1',k2,k2',h5,h5',h6]
    exact hS
   ·have h7:0<b:=by omega
    simp (maxSteps:=999999) only [go_sem,simprocAttr,↓qT,↓qF,df61,h1,h2,h3,h4,k1,k1',k2,k2',h5,h5',h6,h7]
    exact hS
 ·exact hS.elim

/-! ### a new object's cap -/
def frC (k b a:Int):Cap:=⟨k,a,if k=1\/k=2 then b else 0,0,0,0,0,if k=4\/k=5\/k=8 then 7 else 0,0,0,0⟩
def frG:List V->List Blk->Res
 | [.s (.i .i64 k), .s (.i .i64 b), .s (.i .i64 a)],h=>.ok (.agg (frC k b a).cl) [] h
 | _,_=>.bad
theorem fr_snd:Snd Tryz.prog 70 (FSpec.of frG):=snd_run (noT_snd _) mixed Tryz.func70 dc70 200 fun args h K hc hS=>by
 unfold frG at hS
 split at hS
 ·rename_i k b a
  simp only [spec_ok,frC,Cap.cl] at hS
  by_cases k1:k=1
  ·subst k1
   simp only [true_or,if_true,Int.reduceEq,or_self,if_false] at hS
   simp (maxSteps:=999999) only [go_sem,simprocAttr,↓qT,↓qF,df70,put,fillP,sub,EVt]
   exact hS
  by_cases k2:k=2
  ·subst k2
   simp only [or_true,if_true,Int.reduceEq,or_self,if_false] at hS
   simp (maxSteps:=999999) only [go_sem,simprocAttr,↓qT,↓qF,df70,put,fillP,sub,EVt]
   exact hS
  by_cases k4:k=4
  ·subst k4
   simp only [true_or,if_true,Int.reduceEq,or_self,if_false] at hS
   simp (maxSteps:=999999) only [go_sem,simprocAttr,↓qT,↓qF,df70,put,fillP,sub,EVt]
   exact hS
  by_cases k5:k=5
  ·subst k5
   simp only [true_or,or_true,if_true,Int.reduceEq,or_self,if_false] at hS
   simp (maxSteps:=999999) only [go_sem,simprocAttr,↓qT,↓qF,df70,put,fillP,sub,EVt]
   exact hS
  by_cases k8:k=8
  ·subst k8
   simp only [or_true,if_true,Int.reduceEq,or_self,if_false] at hS
   simp (maxSteps:=999999) only [go_sem,simprocAttr,↓qT,↓qF,df70,put,fillP,sub,EVt]
   exact hS
  have q1:(k==1)=false:=by simpa using k1
  have q2:(k==2)=false:=by simpa using k2
  have q4:(k==4)=false:=by simpa using k4
  have q5:(k==5)=false:=by simpa using k5
  have q8:(k==8)=false:=by simpa using k8
  simp only [k1,k2,k4,k5,k8,or_self,if_false] at hS
  simp (maxSteps:=999999) only [go_sem,simprocAttr,↓qT,↓qF,df70,q1,q2,q4,q5,q8,k1,k2,k4,k5,k8,put,fillP,sub,EVt]
  exact hS
 ·exact hS.elim
theorem rfr_snd:Snd Tryz.prog 145 (FSpec.of frG):=snd_run (noT_snd _) mixed Tryz.func145 dc145 200 fun args h K hc hS=>by
 unfold frG at hS
 split at hS
 ·rename_i k b a
  simp only [spec_ok,frC,Cap.cl] at hS
  by_cases k1:k=1
  ·subst k1
   simp only [true_or,if_true,Int.reduceEq,or_self,if_false] at hS
   simp (maxSteps:=999999) only [go_sem,simprocAttr,↓qT,↓qF,df145,put,fillP,sub,EVt]
   exact hS
  by_cases k2:k=2
  ·subst k2
   simp only [or_true,if_true,Int.reduceEq,or_self,if_false] at hS
   simp (maxSteps:=999999) only [go_sem,simprocAttr,↓qT,↓qF,df145,put,fillP,sub,EVt]
   exact hS
  by_cases k4:k=4
  ·subst k4
   simp only [true_or,if_true,Int.reduceEq,or_self,if_false] at hS
   simp (maxSteps:=999999) only [go_sem,simprocAttr,↓qT,↓qF,df145,put,fillP,sub,EVt]
   exact hS
  by_cases k5:k=5
  ·subst k5
   simp only [true_or,or_true,if_true,Int.reduceEq,or_self,if_false] at hS
   simp (maxSteps:=999999) only [go_sem,simprocAttr,↓qT,↓qF,df145,put,fillP,sub,EVt]
   exact hS
  by_cases k8:k=8
  ·subst k8
   simp only [or_true,if_true,Int.reduceEq,or_self,if_false] at hS
   simp (maxSteps:=999999) only [go_sem,simprocAttr,↓qT,↓qF,df145,put,fillP,sub,EVt]
   exact hS
  have q1:(k==1)=false:=by simpa using k1
  have q2:(k==2)=false:=by simpa using k2
  have q4:(k==4)=false:=by simpa using k4
  have q5:(k==5)=false:=by simpa using k5
  have q8:(k==8)=false:=by simpa using k8
  simp only [k1,k2,k4,k5,k8,or_self,if_false] at hS
  simp (maxSteps:=999999) only [go_sem,simprocAttr,↓qT,↓qF,df145,q1,q2,q4,q5,q8,k1,k2,k4,k5,k8,put,fillP,sub,EVt]
  exact hS
 ·exact hS.elim

def hsizesG:List V->List Blk->Res
 | [],h=>.ok (.agg [.i .i64 0, .i .i64 0, .i .i64 0, .i .i64 64, .i .i64 4, .i .i64 8, .i .i64 8, .i .i64 8, .i .i64 16]) [] h
 | _,_=>.bad
theorem hsizes_snd:Snd Tryz.prog 65 (FSpec.of hsizesG):=snd_run (noT_snd _) mixed Tryz.func65 dc65 100 fun args h K hc hS=>by
 unfold hsizesG at hS
 split at hS
 ·simp only [spec_ok] at hS
  simp (maxSteps:=999999) only [go_sem,simprocAttr,↓qT,↓qF,df65,put,fillP,sub,EVt]
  exact hS
 ·exact hS.elim

def hszV (k b:Int):Int :=
 if k=1/\4<=b/\b<=15 then IntKind.i64.wrap (1*2^min b.toNat IntKind.i64.bits)
 else if k=2/\1<=b/\b<=8 then IntKind.i64.wrap (4*2^min b.toNat IntKind.i64.bits)
 else if 3<=k/\k<=8/\b=0 then (if k=3 then 64 else if k=4 then 4 else if k=8 then 16 else 8) else 0
def hszE (k b:Int):Int:=if k=1/\4<=b/\b<=15\/k=2/\1<=b/\b<=8\/3<=k/\k<=8/\b=0 then 0 else 90
def hsizeG:List V->List Blk->Res
 | [.s (.i .i64 k), .s (.i .i64 b)],h=>.ok (.tup [.s (.i .i64 (hszV k b)), .s (.i .i64 (hszE k b))]) [] h
 | _,_=>.bad
def THs:Tab:=addT 65 hsizesG noT
theorem THs_snd:THs.Snd Tryz.prog:=addT_snd ok65 hsizes_snd (noT_snd _)
theorem kinds8 (t:Int):t=1\/t=2\/t=3\/t=4\/t=5\/t=6\/t=7\/t=8\/(¬ t=1/\¬ t=2/\¬ t=3/\¬ t=4/\¬ t=5/\¬ t=6/\¬ t=7/\¬ t=8/\¬ (3<=t/\t<=8)):=by omega
theorem hsize_snd:Snd Tryz.prog 19 (FSpec.of hsizeG):=snd_run THs_snd mixed Tryz.func19 dc19 100 fun args h K hc hS=>by
 unfold hsizeG at hS
 split at hS
 ·rename_i t b
  simp only [spec_ok,hszV,hszE] at hS
  have b0:4<=b->0<=b:=by omega
  have b1:1<=b->0<=b:=by omega
  by_cases c4:4<=b
  all_goals by_cases c15:b<=15
  all_goals by_cases c1:1<=b
  all_goals by_cases c8:b<=8
  all_goals by_cases c0:b=0
  all_goals try (exfalso; omega)
  all_goals try subst c0
  all_goals rcases kinds8 t with rfl|rfl|rfl|rfl|rfl|rfl|rfl|rfl|⟨k1,k2,k3,k4,k5,k6,k7,k8,kr⟩
  all_goals simp only [*,if_true,if_false,Int.reduceEq,Int.reduceLE,and_true,true_and,and_false,false_and,or_false,false_or,or_true,true_or] at hS
  all_goals (try have b2:=b0 c4)
  all_goals (try have b2:=b1 c1)
  all_goals (try have kr1:¬ (3<=t)\/¬ (t<=8):=by omega)
  all_goals (try rcases kr1 with kr1|kr1)
  all_goals (try by_cases kr2:3<=t)
  all_goals (simp (maxSteps:=999999) only [go_sem,simprocAttr,↓qT,↓qF,df19,THs,hsizesG, *,put,fillP])
  all_goals exact hS
 ·exact hS.elim
theorem rhsize_snd:Snd Tryz.prog 62 (FSpec.of hsizeG):=snd_run THs_snd mixed Tryz.func62 dc62 100 fun args h K hc hS=>by
 unfold hsizeG at hS
 split at hS
 ·rename_i t b
  simp only [spec_ok,hszV,hszE] at hS
  have b0:4<=b->0<=b:=by omega
  have b1:1<=b->0<=b:=by omega
  by_cases c4:4<=b
  all_goals by_cases c15:b<=15
  all_goals by_cases c1:1<=b
  all_goals by_cases c8:b<=8
  all_goals by_cases c0:b=0
  all_goals try (exfalso; omega)
  all_goals try subst c0
  all_goals rcases kinds8 t with rfl|rfl|rfl|rfl|rfl|rfl|rfl|rfl|⟨k1,k2,k3,k4,k5,k6,k7,k8,kr⟩
  all_goals simp only [*,if_true,if_false,Int.reduceEq,Int.reduceLE,and_true,true_and,and_false,false_and,or_false,false_or,or_true,true_or] at hS
  all_goals (try have b2:=b0 c4)
  all_goals (try have b2:=b1 c1)
  all_goals (try have kr1:¬ (3<=t)\/¬ (t<=8):=by omega)
  all_goals (try rcases kr1 with kr1|kr1)
  all_goals (try by_cases kr2:3<=t)
  all_goals (simp (maxSteps:=999999) only [go_sem,simprocAttr,↓qT,↓qF,df62,THs,hsizesG, *,put,fillP])
  all_goals exact hS
 ·exact hS.elim

def hplaceG:List V->List Blk->Res
 | [.s (.i .i64 i), .s (.i .i64 n)],h=>.ok (.s (.b (decide (0<=i)&&decide (i<n)))) [] h
 | _,_=>.bad
theorem hplace_snd:Snd Tryz.prog 96 (FSpec.of hplaceG):=snd_run (noT_snd _) mixed Tryz.func96 dc96 100 fun args h K hc hS=>by
 unfold hplaceG at hS
 split at hS
 ·simp only [spec_ok] at hS
  simp (maxSteps:=999999) only [go_sem,simprocAttr,↓qT,↓qF,df96]
  exact hS
 ·exact hS.elim
end Go.Proofs.YtcdfofeolgbnbaaGreat

