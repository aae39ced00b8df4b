/- Packages untyped,hand,heap: chunks (a range over a function),a unit,noughts; the document's units. -/
import Derived.Test.YtcdfofeolgbnbaaGreatZ24
import Derived.Test.YtcdfofeolgbnbaaGreatZ20
import Derived.Test.YtcdfofeolgbnbaaGreatZ11
import Derived.Test.YtcdfofeolgbnbaaGreatZ17
import Derived.Test.YtcdfofeolgbnbaaGreatZ18
import Derived.Test.YtcdfofeolgbnbaaGreatZ15
import Derived.Test.YtcdfofeolgbnbaaGreatZ23
import Derived.Test.YtcdfofeolgbnbaaGreatZ21
/- Law 11: the memories that a script makes: a list that is a forest; each act by both. -/
namespace Go.Proofs.YtcdfofeolgbnbaaGreat
open Go.D
set_option linter.all false
set_option maxRecDepth 100000
set_option maxHeartbeats 4000000

def dep (D:Int->Int):Int->List Int->Prop
 | _,[]=>True
 | d,x::L=>D x<=d+1/\dep D (D x) L
def lastD (D:Int->Int):Int->List Int->Int
 | d,[]=>d
 | _,x::L=>lastD D (D x) L
theorem dep_app {D:Int->Int}:∀ {A B:List Int} {d:Int},dep D d (A++B)↔dep D d A/\dep D (lastD D d A) B
 | [],B,d=>by simp [dep,lastD]
 | x::A,B,d=>by simp only [List.cons_append,dep,lastD,dep_app (A:=A),and_assoc]
theorem dep_mono {D:Int->Int} {d e:Int} (h:d<=e):∀ {L:List Int},dep D d L->dep D e L
 | [],_=>trivial
 | x::L,⟨h1,h2⟩=>⟨by omega,h2⟩
theorem dep_congr {D D':Int->Int}:∀ {L:List Int} {d:Int},(∀ x,x∈L->D' x=D x)->dep D d L->dep D' d L
 | [],_,_,_=>trivial
 | x::L,d,h,⟨h1,h2⟩=>by
  have e:=h x List.mem_cons_self
  exact ⟨by rw [e]; exact h1,by rw [e]; exact dep_congr (fun y hy=>h y (List.mem_cons_of_mem _ hy)) h2⟩
theorem lastD_congr {D D':Int->Int}:∀ {L:List Int} {d:Int},(∀ x,x∈L->D' x=D x)->lastD D' d L=lastD D d L
 | [],_,_=>rfl
 | x::L,d,h=>by
  simp only [lastD,h x List.mem_cons_self]
  exact lastD_congr fun y hy=>h y (List.mem_cons_of_mem _ hy)
theorem dep_rem {D D':Int->Int} {da:Int}:∀ {Ds E:List Int} {e d:Int},dep D e (Ds++E)->da<=e->e<=d+1->(∀ y,y∈Ds->da<D y/\D' y=D y-1)->(∀ y,y∈E->D' y=D y)->(E=[]\/∃ z E',E=z::E'/\D z<=da)->dep D' d (Ds++E)
 | [],[],e,d,_,_,_,_,_,_=>trivial
 | [],z::E,e,d,⟨h1,h2⟩,ha,hd,_,hE,hz=>by
  have hz:D z<=da:=by
   rcases hz with h|⟨z',E',h,h3⟩
   ·cases h
   ·cases h; exact h3
  have e1:=hE z List.mem_cons_self
  refine ⟨by rw [e1]; omega, ?_⟩
  rw [e1]
  exact dep_congr (fun y hy=>hE y (List.mem_cons_of_mem _ hy)) h2
 | y::Ds,E,e,d,⟨h1,h2⟩,ha,hd,hD,hE,hz=>by
  obtain ⟨k1,k2⟩:=hD y List.mem_cons_self
  exact ⟨by omega,dep_rem h2 (by omega) (by omega) (fun z hz=>hD z (List.mem_cons_of_mem _ hz)) hE hz⟩

def M.D (m:M) (x:Int):Int:=(m.gV x).depth
section
variable {m r:M} {L:List Int}
theorem D_w {m m':M} (e:m'.w=m.w):m'.D=m.D:=funext fun x=>congrArg Slot.depth (gV_w e x)
theorem rem_D {m':M} {a:Int} {Ds:List Int} (T:m.To m' (m.remV a Ds) (m.remF a)) {x:Int} (hx:x≠0) (hxa:x≠a):m'.D x=if x∈Ds then m.D x-1 else m.D x:=by
 unfold M.D
 rw [T.V _ hx]
 unfold M.remV decV
 rw [if_neg hxa]
 simp only
 split<;>rfl
theorem deep_split (V:Int->Slot) (d:Int) (L:List Int):∃ E,L=deep V d L++E/\(E=[]\/∃ z E',E=z::E'/\(V z).depth<=d)/\∀ y,y∈deep V d L->d<(V y).depth:=by
 induction L with
 | nil=>exact ⟨[],rfl, .inl rfl,fun y hy=>by cases hy⟩
 | cons z L ih =>
  by_cases h:d<(V z).depth
  ·obtain ⟨E,h1,h2,h3⟩:=ih
   have e:deep V d (z::L)=z::deep V d L:=by simp [deep,h]
   refine ⟨E, ?_,h2,fun y hy=>?_⟩
   ·rw [e,List.cons_append,<-h1]
   ·rw [e] at hy
    rcases List.mem_cons.1 hy with rfl|hy
    ·exact h
    ·exact h3 y hy
  ·have e:deep V d (z::L)=[]:=by simp [deep,h]
   exact ⟨z::L,by rw [e]; rfl, .inr ⟨z,L,rfl,by omega⟩,fun y hy=>by rw [e] at hy; cases hy⟩
end

def tw (D:Int->Int) (d:Int) (L:List Int):List Int:=L.takeWhile fun y=>decide (d<D y)
def under (D:Int->Int):List Int->Int->List Int
 | [],_=>[]
 | z::L,x=>if z=x then tw D (D x) L else under D L x
theorem tw_cons (D:Int->Int) (d z:Int) (L:List Int):tw D d (z::L)=if d<D z then z::tw D d L else []:=by
 by_cases h:d<D z<;>simp [tw,h]
theorem mem_tw {D:Int->Int} {d z y:Int} {L:List Int}:y∈tw D d (z::L)↔d<D z/\(y=z\/y∈tw D d L):=by
 rw [tw_cons]
 split
 ·rename_i h; simp [h]
 ·rename_i h; simp [h]
theorem tw_sub {D:Int->Int} {d y:Int} {L:List Int} (h:y∈tw D d L):y∈L:=(List.takeWhile_sublist _).subset h
theorem tw_congr {D D':Int->Int} {d:Int}:∀ {L:List Int},(∀ y,y∈L->D' y=D y)->tw D' d L=tw D d L
 | [],_=>rfl
 | z::L,h=>by
  rw [tw_cons,tw_cons,h z List.mem_cons_self,tw_congr fun y hy=>h y (List.mem_cons_of_mem _ hy)]
theorem under_sub {D:Int->Int} {x y:Int}:∀ {L:List Int},y∈under D L x->y∈L/\x∈L
 | [],h=>by cases h
 | z::L,h=>by
  unfold under at h
  split at h
  ·rename_i e; exact ⟨List.mem_cons_of_mem _ (tw_sub h),by rw [e]; exact List.mem_cons_self⟩
  ·obtain ⟨h1,h2⟩:=under_sub h; exact ⟨List.mem_cons_of_mem _ h1,List.mem_cons_of_mem _ h2⟩
theorem under_congr {D D':Int->Int} {x:Int}:∀ {L:List Int},(∀ y,y∈L->D' y=D y)->under D' L x=under D L x
 | [],_=>rfl
 | z::L,h=>by
  unfold under
  have h2:∀ y,y∈L->D' y=D y:=fun y hy=>h y (List.mem_cons_of_mem _ hy)
  by_cases e:z=x
  ·rw [if_pos e,if_pos e,<-e,h z List.mem_cons_self,tw_congr h2]
  ·rw [if_neg e,if_neg e,under_congr h2]
theorem under_split {D:Int->Int} {x:Int} {B:List Int}:∀ {A:List Int},x∉A->under D (A++x::B) x=tw D (D x) B
 | [],_=>by simp [under]
 | z::A,h=>by
  have hz:z≠x:=fun e=>h (by rw [e]; exact List.mem_cons_self)
  rw [List.cons_append,under,if_neg hz,under_split fun h2=>h (List.mem_cons_of_mem _ h2)]
theorem under_none {D:Int->Int} {x:Int}:∀ {L:List Int},x∉L->under D L x=[]
 | [],_=>rfl
 | z::L,h=>by
  have hz:z≠x:=fun e=>h (by rw [e]; exact List.mem_cons_self)
  rw [under,if_neg hz,under_none fun h2=>h (List.mem_cons_of_mem _ h2)]

/-! ### other names -/
/-! ### one more -/
theorem tw_ins {D D':Int->Int} {p a d y:Int} (hDa:D' a=D p+1):∀ {L:List Int},L.Nodup->a∉L->(∀ z,z∈L->D' z=D z)->(y∈tw D' d (insL p a L)↔(y≠a/\y∈tw D d L)\/(y=a/\p∈tw D d L))
 | [],_,_,_=>by simp [insL,tw]
 | z::L,hn,ha,hD=>by
  obtain ⟨n1,n2⟩:=List.nodup_cons.1 hn
  have hza:a≠z:=fun e=>ha (by rw [e]; exact List.mem_cons_self)
  have haL:a∉L:=fun h=>ha (List.mem_cons_of_mem _ h)
  have hz:=hD z List.mem_cons_self
  have hD2:∀ w,w∈L->D' w=D w:=fun w hw=>hD w (List.mem_cons_of_mem _ hw)
  unfold insL
  by_cases e:z=p
  ·subst e
   have hna:¬ a∈tw D d L:=fun h=>haL (tw_sub h)
   have hnp:¬ z∈tw D d L:=fun h=>n1 (tw_sub h)
   rw [if_pos rfl,mem_tw,mem_tw,mem_tw,mem_tw,hz,hDa,tw_congr hD2]
   by_cases c:d<D z
   ·have c2:d<D z+1:=by omega
    by_cases cy:y=a
    ·subst cy; simp [c,c2,hna,hza]
    ·simp [c,c2,cy]
   ·simp [c]
  ·have hpz:p≠z:=fun h=>e h.symm
   rw [if_neg e,mem_tw,mem_tw,mem_tw,hz,tw_ins hDa n2 haL hD2]
   by_cases c:d<D z
   ·by_cases cy:y=a
    ·subst cy; simp [c,hza,hpz]
    ·simp [c,cy]
   ·simp [c]
theorem under_ins {D D':Int->Int} {p a x y:Int} (hDa:D' a=D p+1) (hxa:x≠a):∀ {L:List Int},L.Nodup->a∉L->(∀ z,z∈L->D' z=D z)->(y∈under D' (insL p a L) x↔(y≠a/\y∈under D L x)\/(y=a/\((x=p/\p∈L)\/p∈under D L x)))
 | [],_,_,_=>by simp [insL,under]
 | z::L,hn,ha,hD=>by
  obtain ⟨n1,n2⟩:=List.nodup_cons.1 hn
  have hza:a≠z:=fun e=>ha (by rw [e]; exact List.mem_cons_self)
  have haL:a∉L:=fun h=>ha (List.mem_cons_of_mem _ h)
  have hz:=hD z List.mem_cons_self
  have hD2:∀ w,w∈L->D' w=D w:=fun w hw=>hD w (List.mem_cons_of_mem _ hw)
  unfold insL
  by_cases e:z=p
  ·subst e
   rw [if_pos rfl]
   by_cases ex:z=x
   ·subst ex
    have hna:¬ a∈tw D (D z) L:=fun h=>haL (tw_sub h)
    simp only [under,if_true]
    rw [mem_tw,hz,hDa,tw_congr hD2]
    have c2:D z<D z+1:=by omega
    by_cases cy:y=a
    ·subst cy; simp [c2]
    ·simp [c2,cy]
   ·have hxz:x≠z:=fun h=>ex h.symm
    have hnp:¬ z∈under D L x:=fun h=>n1 (under_sub h).1
    have hna:¬ a∈under D L x:=fun h=>haL (under_sub h).1
    simp only [under,if_neg ex,if_neg (Ne.symm hxa),under_congr hD2,hxz,false_and,false_or,hnp,and_false,or_false]
    by_cases cy:y=a
    ·subst cy; simp [hna]
    ·simp [cy]
  ·have hpz:p≠z:=fun h=>e h.symm
   rw [if_neg e]
   by_cases ex:z=x
   ·subst ex
    have hzp:z≠p:=e
    simp only [under,if_true,hz,tw_ins hDa n2 haL hD2,hzp,false_and,false_or]
   ·simp only [under,if_neg ex,under_ins hDa hxa n2 haL hD2,List.mem_cons,hpz,false_or]
theorem under_new {D D':Int->Int} {p a:Int} (hDa:D' a=D p+1):∀ {L:List Int} {d:Int},a∉L->(∀ z,z∈L->D' z=D z)->dep D d L->under D' (insL p a L) a=[]
 | [],_,_,_,_=>rfl
 | z::L,d,ha,hD,⟨h1,h2⟩=>by
  have hza:¬ z=a:=fun e=>ha (by rw [e]; exact List.mem_cons_self)
  have haL:a∉L:=fun h=>ha (List.mem_cons_of_mem _ h)
  have hD2:∀ w,w∈L->D' w=D w:=fun w hw=>hD w (List.mem_cons_of_mem _ hw)
  unfold insL
  by_cases e:z=p
  ·subst e
   rw [if_pos rfl]
   simp only [under,if_neg hza,if_true]
   cases L with
   | nil=>rfl
   | cons w L =>
    rw [tw_cons,hDa,hD2 w List.mem_cons_self,if_neg]
    have:=h2.1
    omega
  ·rw [if_neg e]
   simp only [under,if_neg hza]
   exact under_new hDa haL hD2 h2
/-! ### one less -/
def headLe (D:Int->Int) (d:Int) (E:List Int):Prop:=E=[]\/∃ z E',E=z::E'/\D z<=d
theorem tw_head {D:Int->Int} {d:Int} {E:List Int} (h:headLe D d E):tw D d E=[]:=by
 rcases h with rfl|⟨z,E',rfl,h⟩
 ·rfl
 ·rw [tw_cons,if_neg (by omega)]
theorem headLe_mono {D D':Int->Int} {d e:Int} {E:List Int} (h:headLe D d E) (hD:∀ z,z∈E->D' z=D z) (hde:d<=e):headLe D' e E:=by
 rcases h with rfl|⟨z,E',rfl,h⟩
 ·exact .inl rfl
 ·exact .inr ⟨z,E',rfl,by rw [hD z List.mem_cons_self]; omega⟩
theorem tw_low1 {D D':Int->Int} {da d:Int} {E:List Int} (hd:da<d) (hE:∀ w,w∈E->D' w=D w) (hh:headLe D da E):∀ {Ds:List Int},(∀ w,w∈Ds->D' w=D w-1)->tw D' (d-1) (Ds++E)=tw D d (Ds++E)
 | [],_=>by
  rw [List.nil_append,tw_head (headLe_mono hh hE (by omega)),tw_head (headLe_mono hh (fun _ _=>rfl) (by omega))]
 | w::Ds,h=>by
  rw [List.cons_append,tw_cons,tw_cons,h w List.mem_cons_self,tw_low1 hd hE hh fun z hz=>h z (List.mem_cons_of_mem _ hz)]
  by_cases c:d<D w
  ·rw [if_pos c,if_pos (by omega)]
  ·rw [if_neg c,if_neg (by omega)]
theorem tw_low2 {D D':Int->Int} {da d:Int} {E:List Int} (hd:d<da) (hE:∀ w,w∈E->D' w=D w):∀ {Ds:List Int},(∀ w,w∈Ds->da<D w/\D' w=D w-1)->tw D' d (Ds++E)=tw D d (Ds++E)
 | [],_=>tw_congr hE
 | w::Ds,h=>by
  obtain ⟨h1,h2⟩:=h w List.mem_cons_self
  rw [List.cons_append,tw_cons,tw_cons,h2,tw_low2 hd hE fun z hz=>h z (List.mem_cons_of_mem _ hz),if_pos (by omega),if_pos (by omega)]
theorem tw_low3 {D D':Int->Int} {da d:Int} {E:List Int} (hd:da<=d) (hE:∀ w,w∈E->D' w=D w) (hh:headLe D da E) {Ds:List Int} (h:∀ w,w∈Ds->D' w=D w-1) (hdep:dep D da (Ds++E)):tw D' d (Ds++E)=[]:=by
 cases Ds with
 | nil=>exact tw_head (headLe_mono hh hE (by omega))
 | cons w Ds =>
  have h1:=hdep.1
  rw [List.cons_append,tw_cons,h w List.mem_cons_self,if_neg (by omega)]
section
variable {D D':Int->Int} {a:Int} {Ds E:List Int}
theorem under_low (hE:∀ w,w∈E->D' w=D w) (hh:headLe D (D a) E) {x:Int}:∀ {Fs:List Int},(∀ w,w∈Fs->D a<D w/\D' w=D w-1)->under D' (Fs++E) x=under D (Fs++E) x
 | [],_=>under_congr hE
 | w::Fs,h=>by
  obtain ⟨h1,h2⟩:=h w List.mem_cons_self
  have h3:∀ z,z∈Fs->D a<D z/\D' z=D z-1:=fun z hz=>h z (List.mem_cons_of_mem _ hz)
  rw [List.cons_append]
  unfold under
  by_cases e:w=x
  ·subst e
   rw [if_pos rfl,if_pos rfl,h2]
   exact tw_low1 h1 hE hh fun z hz=>(h3 z hz).2
  ·rw [if_neg e,if_neg e,under_low hE hh h3]
theorem tw_rem (hE:∀ w,w∈E->D' w=D w) (hh:headLe D (D a) E) (hDs:∀ w,w∈Ds->D a<D w/\D' w=D w-1) (hdep:dep D (D a) (Ds++E)) {y d:Int} (hy:y≠a):∀ {A:List Int},(∀ w,w∈A->D' w=D w)->(y∈tw D' d (A++(Ds++E))↔y∈tw D d (A++a::(Ds++E)))
 | [],_=>by
  rw [List.nil_append,List.nil_append,mem_tw]
  by_cases c:d<D a
  ·rw [tw_low2 c hE hDs]; simp [c,hy]
  ·rw [tw_low3 (by omega) hE hh (fun w hw=>(hDs w hw).2) hdep]; simp [c]
 | w::A,h=>by
  rw [List.cons_append,List.cons_append,mem_tw,mem_tw,h w List.mem_cons_self,tw_rem hE hh hDs hdep hy fun z hz=>h z (List.mem_cons_of_mem _ hz)]
theorem under_rem (hE:∀ w,w∈E->D' w=D w) (hh:headLe D (D a) E) (hDs:∀ w,w∈Ds->D a<D w/\D' w=D w-1) (hdep:dep D (D a) (Ds++E)) {x y:Int} (hx:x≠a) (hy:y≠a):∀ {A:List Int},(∀ w,w∈A->D' w=D w)->(y∈under D' (A++(Ds++E)) x↔y∈under D (A++a::(Ds++E)) x)
 | [],_=>by
  rw [List.nil_append,List.nil_append,under_low hE hh hDs]
  simp only [under,if_neg (Ne.symm hx)]
 | w::A,h=>by
  have h3:∀ z,z∈A->D' z=D z:=fun z hz=>h z (List.mem_cons_of_mem _ hz)
  rw [List.cons_append,List.cons_append]
  unfold under
  by_cases e:w=x
  ·subst e
   rw [if_pos rfl,if_pos rfl,h w List.mem_cons_self]
   exact tw_rem hE hh hDs hdep hy h3
  ·rw [if_neg e,if_neg e]
   exact under_rem hE hh hDs hdep hx hy h3
end

/-! ### a slot's ancestors -/


section
variable {m r:M} {L:List Int}
theorem deep_tw (m:M) (d:Int) (L:List Int):deep m.gV d L=tw m.D d L:=rfl
theorem nxX_w (m:M) (a:Int):(m.nxX a).w=m.w:=by
 unfold M.nxX
 split
 ·split
  ·exact gX_w _ _
  ·rw [gX_w,gX_w]
 ·exact gX_w _ _
theorem nxV_w {m m':M} (h:m'.w=m.w) (a:Int):m'.nxV a=m.nxV a:=by unfold M.nxV; simp only [fE_w h,gV_w h]
end
end Go.Proofs.YtcdfofeolgbnbaaGreat

/- Law 11: both memories,new; the document's memory of some words; one heap for both. -/
namespace Go.Proofs.YtcdfofeolgbnbaaGreat
open Go.D
set_option linter.all false
set_option maxRecDepth 100000
set_option maxHeartbeats 8000000

/-! ### shared blocks picked out -/
/-! ### both in one heap -/
section
variable {h:List Blk}
end
open Classical in
noncomputable def ofW (l:List Int):M:=if h:(∀ x,x∈l->u64 x)/\l.length<=65536 then ⟨l,0,h.1,h.2⟩ else M.zero 0
end Go.Proofs.YtcdfofeolgbnbaaGreat

/- Law 11: played: a script over both memories. -/
namespace Go.Proofs.YtcdfofeolgbnbaaGreat
open Go.D
set_option linter.all false
set_option maxRecDepth 100000
set_option maxHeartbeats 1000000

section
variable {m r:M} {L:List Int}
end
end Go.Proofs.YtcdfofeolgbnbaaGreat

/- Law 11: Next and Last; the chapter's example,list by list. -/
namespace Go.Proofs.YtcdfofeolgbnbaaGreat
open Go.D
set_option linter.all false
set_option maxRecDepth 100000
set_option maxHeartbeats 4000000

section
variable {m r:M} {L:List Int}
end
section
variable {m:M} {T T':List (Int×Int)} {U U':List Int}
end



def knE (k b n:Int):Int:=if k<1\/8<k\/n<1\/16<n then 1 else if k=1 then (if 4<=b/\b<=15 then 0 else 150) else if k=2 then (if 1<=b/\b<=8 then 0 else 150) else if b=0 then 0 else 150
def knG:List V->List Blk->Res
 | [.s (.i .i64 k), .s (.i .i64 b), .s (.i .i64 n)],h=>.ok (.s (.i .i64 (knE k b n))) [] h
 | _,_=>.bad
theorem kn_snd:Snd Tryz.prog 60 (FSpec.of knG):=snd_run (noT_snd _) mixed Tryz.func60 dc60 200 fun args h K hc hS=>by
 unfold knG at hS
 split at hS
 ·rename_i k b n
  simp only [spec_ok,knE] at hS
  by_cases h1:k<1
  ·rw [if_pos (.inl h1)] at hS
   simp (maxSteps:=999999) only [go_sem,simprocAttr,↓qT,↓qF,df60,h1]
   exact hS
  by_cases h2:8<k
  ·rw [if_pos (.inr (.inl h2))] at hS
   simp (maxSteps:=999999) only [go_sem,simprocAttr,↓qT,↓qF,df60,h1,h2]
   exact hS
  by_cases h3:n<1
  ·rw [if_pos (.inr (.inr (.inl h3)))] at hS
   simp (maxSteps:=999999) only [go_sem,simprocAttr,↓qT,↓qF,df60,h1,h2,h3]
   exact hS
  by_cases h4:16<n
  ·rw [if_pos (.inr (.inr (.inr h4)))] at hS
   simp (maxSteps:=999999) only [go_sem,simprocAttr,↓qT,↓qF,df60,h1,h2,h3,h4]
   exact hS
  rw [if_neg (by omega)] at hS
  by_cases k1:k=1
  ·subst k1
   rw [if_pos rfl] at hS
   by_cases h5:4<=b
   ·have h5':¬ b<4:=by omega
    by_cases h6:b<=15
    ·have h6':¬ 15<b:=by omega
     rw [if_pos ⟨h5,h6⟩] at hS
     simp (maxSteps:=999999) only [go_sem,simprocAttr,↓qT,↓qF,df60,h3,h4,h5,h6,h5',h6']
     exact hS
    ·have h6':15<b:=by omega
     rw [if_neg (by omega)] at hS
     simp (maxSteps:=999999) only [go_sem,simprocAttr,↓qT,↓qF,df60,h3,h4,h5,h6,h5',h6']
     exact hS
   ·have h5':b<4:=by omega
    rw [if_neg (by omega)] at hS
    simp (maxSteps:=999999) only [go_sem,simprocAttr,↓qT,↓qF,df60,h3,h4,h5,h5']
    exact hS
  have k1':(k==1)=false:=by simpa using k1
  rw [if_neg k1] at hS
  by_cases k2:k=2
  ·subst k2
   rw [if_pos rfl] at hS
   by_cases h5:1<=b
   ·have h5':¬ b<1:=by omega
    by_cases h6:b<=8
    ·have h6':¬ 8<b:=by omega
     rw [if_pos ⟨h5,h6⟩] at hS
     simp (maxSteps:=999999) only [go_sem,simprocAttr,↓qT,↓qF,df60,h3,h4,h5,h6,h5',h6']
     exact hS
    ·have h6':8<b:=by omega
     rw [if_neg (by omega)] at hS
     simp (maxSteps:=999999) only [go_sem,simprocAttr,↓qT,↓qF,df60,h3,h4,h5,h6,h5',h6']
     exact hS
   ·have h5':b<1:=by omega
    rw [if_neg (by omega)] at hS
    simp (maxSteps:=999999) only [go_sem,simprocAttr,↓qT,↓qF,df60,h3,h4,h5,h5']
    exact hS
  have k2':(k==2)=false:=by simpa using k2
  rw [if_neg k2] at hS
  by_cases h5:b=0
  ·subst h5
   rw [if_pos rfl] at hS
   simp (maxSteps:=999999) only [go_sem,simprocAttr,↓qT,↓qF,df60,h1,h2,h3,h4,k1,k1',k2,k2']
   exact hS
  ·have h5':(b==0)=false:=by simpa using h5
   rw [if_neg h5] at hS
   by_cases h6:b<0
   ·simp (maxSteps:=999999) only [go_sem,simprocAttr,↓qT,↓qF,df60,h1,h2,h3,h4,k1,k1',k2,k2',h5,h5',h6]
    exact hS
   ·have h7:0<b:=by omega
    simp (maxSteps:=999999) only [go_sem,simprocAttr,↓qT,↓qF,df60,h1,h2,h3,h4,k1,k1',k2,k2',h5,h5',h6,h7]
    exact hS
 ·exact hS.elim
/-! ### a new object's cap -/
def frC (k b a:Int):Cap:=⟨k,a,if k=1\/k=2 then b else 0,0,0,0,0,if k=4\/k=5\/k=8 then 7 else 0,0,0,0⟩
def frG:List V->List Blk->Res
 | [.s (.i .i64 k), .s (.i .i64 b), .s (.i .i64 a)],h=>.ok (.agg (frC k b a).cl) [] h
 | _,_=>.bad
theorem fr_snd:Snd Tryz.prog 70 (FSpec.of frG):=snd_run (noT_snd _) mixed Tryz.func70 dc70 200 fun args h K hc hS=>by
 unfold frG at hS
 split at hS
 ·rename_i k b a
  simp only [spec_ok,frC,Cap.cl] at hS
  by_cases k1:k=1
  ·subst k1
   simp only [true_or,if_true,Int.reduceEq,or_self,if_false] at hS
   simp (maxSteps:=999999) only [go_sem,simprocAttr,↓qT,↓qF,df70,put,fillP,sub,EVt]
   exact hS
  by_cases k2:k=2
  ·subst k2
   simp only [or_true,if_true,Int.reduceEq,or_self,if_false] at hS
   simp (maxSteps:=999999) only [go_sem,simprocAttr,↓qT,↓qF,df70,put,fillP,sub,EVt]
   exact hS
  by_cases k4:k=4
  ·subst k4
   simp only [true_or,if_true,Int.reduceEq,or_self,if_false] at hS
   simp (maxSteps:=999999) only [go_sem,simprocAttr,↓qT,↓qF,df70,put,fillP,sub,EVt]
   exact hS
  by_cases k5:k=5
  ·subst k5
   simp only [true_or,or_true,if_true,Int.reduceEq,or_self,if_false] at hS
   simp (maxSteps:=999999) only [go_sem,simprocAttr,↓qT,↓qF,df70,put,fillP,sub,EVt]
   exact hS
  by_cases k8:k=8
  ·subst k8
   simp only [or_true,if_true,Int.reduceEq,or_self,if_false] at hS
   simp (maxSteps:=999999) only [go_sem,simprocAttr,↓qT,↓qF,df70,put,fillP,sub,EVt]
   exact hS
  have q1:(k==1)=false:=by simpa using k1
  have q2:(k==2)=false:=by simpa using k2
  have q4:(k==4)=false:=by simpa using k4
  have q5:(k==5)=false:=by simpa using k5
  have q8:(k==8)=false:=by simpa using k8
  simp only [k1,k2,k4,k5,k8,or_self,if_false] at hS
  simp (maxSteps:=999999) only [go_sem,simprocAttr,↓qT,↓qF,df70,q1,q2,q4,q5,q8,k1,k2,k4,k5,k8,put,fillP,sub,EVt]
  exact hS
 ·exact hS.elim

def hsizesG:List V->List Blk->Res
 | [],h=>.ok (.agg [.i .i64 0, .i .i64 0, .i .i64 0, .i .i64 64, .i .i64 4, .i .i64 8, .i .i64 8, .i .i64 8, .i .i64 16]) [] h
 | _,_=>.bad
theorem hsizes_snd:Snd Tryz.prog 65 (FSpec.of hsizesG):=snd_run (noT_snd _) mixed Tryz.func65 dc65 100 fun args h K hc hS=>by
 unfold hsizesG at hS
 split at hS
 ·simp only [spec_ok] at hS
  simp (maxSteps:=999999) only [go_sem,simprocAttr,↓qT,↓qF,df65,put,fillP,sub,EVt]
  exact hS
 ·exact hS.elim

def hszV (k b:Int):Int :=
 if k=1/\4<=b/\b<=15 then IntKind.i64.wrap (1*2^min b.toNat IntKind.i64.bits)
 else if k=2/\1<=b/\b<=8 then IntKind.i64.wrap (4*2^min b.toNat IntKind.i64.bits)
 else if 3<=k/\k<=8/\b=0 then (if k=3 then 64 else if k=4 then 4 else if k=8 then 16 else 8) else 0
def hszE (k b:Int):Int:=if k=1/\4<=b/\b<=15\/k=2/\1<=b/\b<=8\/3<=k/\k<=8/\b=0 then 0 else 90
def hsizeG:List V->List Blk->Res
 | [.s (.i .i64 k), .s (.i .i64 b)],h=>.ok (.tup [.s (.i .i64 (hszV k b)), .s (.i .i64 (hszE k b))]) [] h
 | _,_=>.bad
def THs:Tab:=addT 65 hsizesG noT
theorem THs_snd:THs.Snd Tryz.prog:=addT_snd ok65 hsizes_snd (noT_snd _)
theorem kinds8 (t:Int):t=1\/t=2\/t=3\/t=4\/t=5\/t=6\/t=7\/t=8\/(¬ t=1/\¬ t=2/\¬ t=3/\¬ t=4/\¬ t=5/\¬ t=6/\¬ t=7/\¬ t=8/\¬ (3<=t/\t<=8)):=by omega
theorem hsize_snd:Snd Tryz.prog 19 (FSpec.of hsizeG):=snd_run THs_snd mixed Tryz.func19 dc19 100 fun args h K hc hS=>by
 unfold hsizeG at hS
 split at hS
 ·rename_i t b
  simp only [spec_ok,hszV,hszE] at hS
  have b0:4<=b->0<=b:=by omega
  have b1:1<=b->0<=b:=by omega
  by_cases c4:4<=b
  all_goals by_cases c15:b<=15
  all_goals by_cases c1:1<=b
  all_goals by_cases c8:b<=8
  all_goals by_cases c0:b=0
  all_goals try (exfalso; omega)
  all_goals try subst c0
  all_goals rcases kinds8 t with rfl|rfl|rfl|rfl|rfl|rfl|rfl|rfl|⟨k1,k2,k3,k4,k5,k6,k7,k8,kr⟩
  all_goals simp only [*,if_true,if_false,Int.reduceEq,Int.reduceLE,and_true,true_and,and_false,false_and,or_false,false_or,or_true,true_or] at hS
  all_goals (try have b2:=b0 c4)
  all_goals (try have b2:=b1 c1)
  all_goals (try have kr1:¬ (3<=t)\/¬ (t<=8):=by omega)
  all_goals (try rcases kr1 with kr1|kr1)
  all_goals (try by_cases kr2:3<=t)
  all_goals (simp (maxSteps:=999999) only [go_sem,simprocAttr,↓qT,↓qF,df19,THs,hsizesG, *,put,fillP])
  all_goals exact hS
 ·exact hS.elim
def hplaceG:List V->List Blk->Res
 | [.s (.i .i64 i), .s (.i .i64 n)],h=>.ok (.s (.b (decide (0<=i)&&decide (i<n)))) [] h
 | _,_=>.bad
theorem hplace_snd:Snd Tryz.prog 96 (FSpec.of hplaceG):=snd_run (noT_snd _) mixed Tryz.func96 dc96 100 fun args h K hc hS=>by
 unfold hplaceG at hS
 split at hS
 ·simp only [spec_ok] at hS
  simp (maxSteps:=999999) only [go_sem,simprocAttr,↓qT,↓qF,df96]
  exact hS
 ·exact hS.elim
end Go.Proofs.YtcdfofeolgbnbaaGreat

/- Package untyped: Room; the document's. -/
namespace Go.Proofs.YtcdfofeolgbnbaaGreat
open Go.D
open Nat (reduceAdd reducePow reduceMul reduceSub reduceLeDiff reduceLT reduceEqDiff)
open Int (reduceNeg reduceLE reduceEq reduceNe reduceToNat)
open Go.D renaming istep → zy,pickR → zx,bin1R → zw,un1R → zv,eqS → zu,eq1 → zq,cmpS → zp,cmp1 → zj,isNil → zk,shows → zg,result → zZ,qT → zV,qF → zU
open List renaming set → zY,replicate → zX
open Option renaming map → zW
open Nat renaming reduceAdd → zQ,reducePow → yz,reduceMul → yy,reduceSub → yx,reduceLeDiff → yw,reduceLT → yv,reduceEqDiff → yu
open Int renaming reduceNeg → yq,reduceLE → yp,reduceEq → yj,reduceNe → yk,reduceToNat → yg,reducePow → yZ,reduceLT → yY,reduceAdd → yX,reduceSub → yW,reduceMul → yV,reduceBEq → yU,reduceBNe → yQ
set_option linter.all false
set_option maxRecDepth 100000
set_option maxHeartbeats 4000000

def utB (c:Cap):Prop:=c.ty=1/\0<=c.obj/\c.obj<=65536/\0<=c.mark/\c.mark<=65536/\0<=c.bits/\c.bits<=16
instance (c:Cap):Decidable (utB c):=by unfold utB; infer_instance
def upV (x s:Int):Int:=(x+s-1)/s*s
def roV (c:Cap) (k b n:Int):Int×Int :=
 if utB c then (if knE k b n=0 then
  (if c.obj+2^c.bits.toNat<upV (c.obj+c.mark) (hszV k b)+n*hszV k b then (0,151) else (upV (c.obj+c.mark) (hszV k b),0))
  else (0,knE k b n)) else (0,60)
def roG:List V->List Blk->Res
 | [x, .s (.i .i64 k), .s (.i .i64 b), .s (.i .i64 n)],h=>capF (fun c=>.ok (.tup [.s (.i .i64 (roV c k b n).1), .s (.i .i64 (roV c k b n).2)]) [] h) [x]
 | _,_=>.bad
theorem pow_b {b:Int} (h0:0<=b) (h1:b<=16):1<=(2:Int)^b.toNat/\(2:Int)^b.toNat<=65536/\min b.toNat IntKind.i64.bits=b.toNat:=by
 have:b=0\/b=1\/b=2\/b=3\/b=4\/b=5\/b=6\/b=7\/b=8\/b=9\/b=10\/b=11\/b=12\/b=13\/b=14\/b=15\/b=16:=by omega
 rcases this with rfl|rfl|rfl|rfl|rfl|rfl|rfl|rfl|rfl|rfl|rfl|rfl|rfl|rfl|rfl|rfl|rfl<;>decide
theorem kn_sz {k b n:Int} (h:knE k b n=0):1<=hszV k b/\hszV k b<=32768/\hszE k b=0/\1<=n/\n<=16/\1<=k/\k<=8:=by
 unfold knE at h
 split at h
 ·cases h
 rename_i h0
 have hk:1<=k/\k<=8/\1<=n/\n<=16:=by omega
 obtain ⟨hk1,hk2,hn1,hn2⟩:=hk
 refine (fun (q:1<=hszV k b/\hszV k b<=32768/\hszE k b=0)=>⟨q.1,q.2.1,q.2.2,hn1,hn2,hk1,hk2⟩) ?_
 unfold hszV hszE
 by_cases k1:k=1
 ·subst k1
  simp only [if_true] at h
  split at h
  ·rename_i hb
   obtain ⟨p1,p2,p3⟩:=pow_b (b:=b) (by omega) (by omega)
   rw [if_pos ⟨rfl,hb.1,hb.2⟩,if_pos (.inl ⟨rfl,hb.1,hb.2⟩),p3]
   have:b=4\/b=5\/b=6\/b=7\/b=8\/b=9\/b=10\/b=11\/b=12\/b=13\/b=14\/b=15:=by omega
   rcases this with rfl|rfl|rfl|rfl|rfl|rfl|rfl|rfl|rfl|rfl|rfl|rfl<;>decide
  ·cases h
 rw [if_neg k1] at h
 by_cases k2:k=2
 ·subst k2
  simp only [if_true] at h
  split at h
  ·rename_i hb
   rw [if_neg (by omega),if_pos ⟨rfl,hb.1,hb.2⟩,if_pos (c:=_\/_) (.inr (.inl ⟨rfl,hb.1,hb.2⟩))]
   have:b=1\/b=2\/b=3\/b=4\/b=5\/b=6\/b=7\/b=8:=by omega
   rcases this with rfl|rfl|rfl|rfl|rfl|rfl|rfl|rfl<;>decide
  ·cases h
 rw [if_neg k2] at h
 split at h
 ·rename_i hb
  refine ⟨?_, ?_,if_pos (.inr (.inr ⟨by omega,hk2,hb⟩))⟩
  all_goals
   rw [if_neg (by omega),if_neg (by omega),if_pos ⟨by omega,hk2,hb⟩]
   split
   ·omega
   ·split
    ·omega
    ·split<;>omega
 ·cases h
theorem up_is {x s:Int} (hs:1<=s):x<=upV x s/\upV x s<x+s/\upV x s%s=0:=by
 unfold upV
 have h1:=Int.emod_add_mul_ediv (x+s-1) s
 have h2:=Int.emod_nonneg (x+s-1) (show s≠0 by omega)
 have h3:=Int.emod_lt_of_pos (x+s-1) (show 0<s by omega)
 have h4:(x+s-1)/s*s=s*((x+s-1)/s):=Int.mul_comm _ _
 refine ⟨by omega,by omega, ?_⟩
 exact Int.mul_emod_left _ _
noncomputable def TRo:Tab:=addT 60 knG (addT 19 hsizeG (noT))
theorem TRo_snd:TRo.Snd Tryz.prog:=addT_snd ok60 kn_snd (addT_snd ok19 hsize_snd ((noT_snd _)))
theorem ro_snd:Snd Tryz.prog 15 (FSpec.of roG):=snd_run TRo_snd mixed Tryz.func15 dc15 300 fun args h K hc hS=>by
 unfold roG at hS
 split at hS
 ·rename_i x k b n
  obtain ⟨c,e,hR⟩:=capF_spec hS
  clear hS
  simp only [List.cons.injEq,and_true] at e
  subst e
  simp only [spec_ok,roV] at hR
  obtain ⟨ty,obj,bits',mark,gu,gb,bd,ri,asd,va,li⟩:=c
  simp only [Cap.cl]
  by_cases hu:utB ⟨ty,obj,bits',mark,gu,gb,bd,ri,asd,va,li⟩
  rotate_left
  ·rw [if_neg hu] at hR
   simp only [utB] at hu
   by_cases h1:ty=1
   ·by_cases h2:obj<0
    ·simp (maxSteps:=999999) only [EV0,zy,zx,zw,zv,zu,zq,zp,zj,zk,leT,zg,rvC,zZ,zY,zX,zW,↓zV,↓zU,reduceCtorEq,zQ,yz,yZ,yy,yx,yw,yv,yu,yq,yY,yp,yj,yk,yX,yW,yV,yg,yU,yQ,df15,h1,h2,bne,put,fillP,sub,EVt]
     exact hR
    ·by_cases h3:65536<obj
     ·simp (maxSteps:=999999) only [EV0,zy,zx,zw,zv,zu,zq,zp,zj,zk,leT,zg,rvC,zZ,zY,zX,zW,↓zV,↓zU,reduceCtorEq,zQ,yz,yZ,yy,yx,yw,yv,yu,yq,yY,yp,yj,yk,yX,yW,yV,yg,yU,yQ,df15,h1,h2,h3,bne,put,fillP,sub,EVt]
      exact hR
     ·by_cases h4:mark<0
      ·simp (maxSteps:=999999) only [EV0,zy,zx,zw,zv,zu,zq,zp,zj,zk,leT,zg,rvC,zZ,zY,zX,zW,↓zV,↓zU,reduceCtorEq,zQ,yz,yZ,yy,yx,yw,yv,yu,yq,yY,yp,yj,yk,yX,yW,yV,yg,yU,yQ,df15,h1,h2,h3,h4,bne,put,fillP,sub,EVt]
       exact hR
      ·by_cases h5:65536<mark
       ·simp (maxSteps:=999999) only [EV0,zy,zx,zw,zv,zu,zq,zp,zj,zk,leT,zg,rvC,zZ,zY,zX,zW,↓zV,↓zU,reduceCtorEq,zQ,yz,yZ,yy,yx,yw,yv,yu,yq,yY,yp,yj,yk,yX,yW,yV,yg,yU,yQ,df15,h1,h2,h3,h4,h5,bne,put,fillP,sub,EVt]
        exact hR
       ·by_cases h6:bits'<0
        ·simp (maxSteps:=999999) only [EV0,zy,zx,zw,zv,zu,zq,zp,zj,zk,leT,zg,rvC,zZ,zY,zX,zW,↓zV,↓zU,reduceCtorEq,zQ,yz,yZ,yy,yx,yw,yv,yu,yq,yY,yp,yj,yk,yX,yW,yV,yg,yU,yQ,df15,h1,h2,h3,h4,h5,h6,bne,put,fillP,sub,EVt]
         exact hR
        ·have h7:16<bits':=by
          apply Decidable.byContradiction
          intro h8
          exact hu ⟨h1,by omega,by omega,by omega,by omega,by omega,by omega⟩
         simp (maxSteps:=999999) only [EV0,zy,zx,zw,zv,zu,zq,zp,zj,zk,leT,zg,rvC,zZ,zY,zX,zW,↓zV,↓zU,reduceCtorEq,zQ,yz,yZ,yy,yx,yw,yv,yu,yq,yY,yp,yj,yk,yX,yW,yV,yg,yU,yQ,df15,h1,h2,h3,h4,h5,h6,h7,bne,put,fillP,sub,EVt]
         exact hR
   ·have h1':(ty==1)=false:=by simpa using h1
    simp (maxSteps:=999999) only [EV0,zy,zx,zw,zv,zu,zq,zp,zj,zk,leT,zg,rvC,zZ,zY,zX,zW,↓zV,↓zU,reduceCtorEq,zQ,yz,yZ,yy,yx,yw,yv,yu,yq,yY,yp,yj,yk,yX,yW,yV,yg,yU,yQ,df15,h1,h1',bne,put,fillP,sub,EVt]
    exact hR
  rw [if_pos hu] at hR
  simp only [utB] at hu
  obtain ⟨rfl,u1,u2,u3,u4,u5,u6⟩:=hu
  have v1:¬ obj<0:=by omega
  have v2:¬ 65536<obj:=by omega
  have v3:¬ mark<0:=by omega
  have v4:¬ 65536<mark:=by omega
  have v5:¬ bits'<0:=by omega
  have v6:¬ 16<bits':=by omega
  by_cases hk:knE k b n=0
  rotate_left
  ·rw [if_neg hk] at hR
   have hk':(knE k b n==0)=false:=by simpa using hk
   simp (maxSteps:=999999) only [EV0,zy,zx,zw,zv,zu,zq,zp,zj,zk,leT,zg,rvC,zZ,zY,zX,zW,↓zV,↓zU,reduceCtorEq,zQ,yz,yZ,yy,yx,yw,yv,yu,yq,yY,yp,yj,yk,yX,yW,yV,yg,yU,yQ,df15,TRo,knG,hk,hk',v1,v2,v3,v4,v5,v6,bne,put,fillP,sub,EVt]
   exact hR
  rw [if_pos hk] at hR
  obtain ⟨s1,s2,s3,n1,n2,_,_⟩:=kn_sz hk
  obtain ⟨s,hs⟩:∃ s,hszV k b=s:=⟨_,rfl⟩
  rw [hs] at hR s1 s2
  obtain ⟨p1,p2,p3⟩:=pow_b u5 u6
  obtain ⟨P,hP⟩:∃ P:Int,2^bits'.toNat=P:=⟨_,rfl⟩
  rw [hP] at hR p1 p2
  obtain ⟨a1,a2,a3⟩:=up_is (x:=obj+mark) s1
  obtain ⟨A,hA⟩:∃ A,upV (obj+mark) s=A:=⟨_,rfl⟩
  have s0:¬ s=0:=by omega
  have ns:n*s<=524288/\0<=n*s:=by
   have h1:n*s<=16*s:=Int.mul_le_mul_of_nonneg_right n2 (by omega)
   have h2:0<=n*s:=Int.mul_nonneg (by omega) (by omega)
   omega
  have w1:IntKind.i64.wrap (obj+mark)=obj+mark:=by rw [wrap64]<;>omega
  have w2:IntKind.i64.wrap (obj+mark+s)=obj+mark+s:=by rw [wrap64]<;>omega
  have w3:IntKind.i64.wrap (obj+mark+s-1)=obj+mark+s-1:=by rw [wrap64]<;>omega
  have w4:IntKind.i64.wrap ((obj+mark+s-1).tdiv s)=(obj+mark+s-1)/s:=by
   have h1:0<=(obj+mark+s-1)/s:=Int.ediv_nonneg (by omega) (by omega)
   have h2:(obj+mark+s-1)/s<=obj+mark+s-1:=Int.ediv_le_self _ (by omega)
   rw [Int.tdiv_eq_ediv_of_nonneg (by omega),wrap64]<;>omega
  have w5:IntKind.i64.wrap ((obj+mark+s-1)/s*s)=A:=by
   have:(obj+mark+s-1)/s*s=A:=hA
   rw [this,wrap64]<;>omega
  have w6:IntKind.i64.wrap (n*s)=n*s:=by rw [wrap64]<;>omega
  have w7:IntKind.i64.wrap (A+n*s)=A+n*s:=by rw [wrap64]<;>omega
  have w8:IntKind.i64.wrap (1*2^min bits'.toNat IntKind.i64.bits)=P:=by rw [p3,hP,Int.one_mul,wrap64]<;>omega
  have w9:IntKind.i64.wrap (obj+P)=obj+P:=by rw [wrap64]<;>omega
  rw [hA] at hR a1 a2 a3
  by_cases hz:obj+P<A+n*s
  ·rw [if_pos hz] at hR
   simp (maxSteps:=999999) only [EV0,zy,zx,zw,zv,zu,zq,zp,zj,zk,leT,zg,rvC,zZ,zY,zX,zW,↓zV,↓zU,reduceCtorEq,zQ,yz,yZ,yy,yx,yw,yv,yu,yq,yY,yp,yj,yk,yX,yW,yV,yg,yU,yQ,df15,TRo,knG,hsizeG,hk,hs,s3,s0,u5,v1,v2,v3,v4,v5,v6,w1,w2,w3,w4,w5,w6,w7,w8,w9,bne,put,fillP,sub,EVt,hz]
   exact hR
  ·rw [if_neg hz] at hR
   simp (maxSteps:=999999) only [EV0,zy,zx,zw,zv,zu,zq,zp,zj,zk,leT,zg,rvC,zZ,zY,zX,zW,↓zV,↓zU,reduceCtorEq,zQ,yz,yZ,yy,yx,yw,yv,yu,yq,yY,yp,yj,yk,yX,yW,yV,yg,yU,yQ,df15,TRo,knG,hsizeG,hk,hs,s3,s0,u5,v1,v2,v3,v4,v5,v6,w1,w2,w3,w4,w5,w6,w7,w8,w9,bne,put,fillP,sub,EVt,hz]
   exact hR
 ·exact hS.elim
end Go.Proofs.YtcdfofeolgbnbaaGreat

/- Packages untyped,hand,heap: chunks (a range over a function),a unit,noughts; the document's units. -/
namespace Go.Proofs.YtcdfofeolgbnbaaGreat
open Go.D
set_option linter.all false
set_option maxRecDepth 100000
set_option maxHeartbeats 4000000

/-! ### noughts -/
def zeroX (m:M) (x k:Int):M:=if m.has x k=true then (m.fill x.toNat 0 k.toNat).tick k else m
def zeroM (b:Nat) (m:M) (st:M->List Blk):List V->Res
 | [.s (.i .i64 x), .s (.i .i64 k)]=>.br (decide (x<1024)) (.ok (.s (.i .i64 20)) [] (st m)) (.ok (.s (.i .i64 (if m.has x k=true then 0 else 20))) [] (st (zeroX m x k)))
 | _=>.bad
noncomputable def zeroG:=memF zeroM
noncomputable def TZe:Tab:=addT 154 fillG (noT)
theorem TZe_snd:TZe.Snd Tryz.prog:=addT_snd ok154 mfill_snd ((noT_snd _))
theorem zero_snd:Snd Tryz.prog 92 (FSpec.of zeroG):=snd_run TZe_snd mixed Tryz.func92 dc92 200 fun args h K hc hS=>by
 obtain ⟨a,b,m,rest,rfl,H,hS1⟩:=memF_spec hS
 clear hS
 have hS:=hS1
 clear hS1
 unfold zeroM at hS
 split at hS
 ·rename_i x k
  simp only [spec_br,spec_ok,decide_eq_true_eq,decide_eq_false_iff_not] at hS
  have hu:=u64_0
  by_cases h1:x<1024
  ·have hS:=hS.1 h1
   simp (maxSteps:=999999) only [go_sem,simprocAttr,↓qT,↓qF,df92,TZe,fillG,memF_eq H,fillM,h1,setM_self H]
   simp only [setM_self H] at hS
   exact hS
  ·have hS:=hS.2 h1
   cases hh:m.has x k with
   | true =>
    simp only [zeroX,hh,if_true] at hS
    simp (maxSteps:=999999) only [go_sem,simprocAttr,↓qT,↓qF,df92,TZe,fillG,memF_eq H,fillM,h1,hh,hu]
    exact hS
   | false =>
    simp only [zeroX,hh,Bool.false_eq_true,if_false] at hS
    simp (maxSteps:=999999) only [go_sem,simprocAttr,↓qT,↓qF,df92,TZe,fillG,memF_eq H,fillM,h1,hh,hu]
    exact hS
 ·exact hS.elim

/-! ### units -/
def uB (u:Int):Blk:=⟨.rw,[.i .i64 u],1⟩
def i64 (u:Int):Prop:=-9223372036854775808<=u/\u<9223372036854775808
instance (u:Int):Decidable (i64 u):=by unfold i64; infer_instance
def unitG:List V->List Blk->Res
 | [.s .np],h=>.ok (.s (.b true)) [] h
 | [.s (.p (.g d) 0)],h=>match h[d]? with
  | some ⟨.rw,[.i .i64 u],1⟩=>.ob (i64 u) (.br (decide (u<=0)) (.ok (.s (.b false)) [] h) (.ok (.s (.b true)) [] (h.set d (uB (u-1)))))
  | _=>.bad
 | _,_=>.bad
theorem unit_snd:Snd Tryz.prog 91 (FSpec.of unitG):=snd_run (noT_snd _) mixed Tryz.func91 dc91 200 fun args h K hc hS=>by
 unfold unitG at hS
 split at hS
 ·simp only [spec_ok] at hS
  simp (maxSteps:=999999) only [go_sem,simprocAttr,↓qT,↓qF,df91]
  exact hS
 ·rename_i d
  split at hS
  ·rename_i u hd
   simp only [spec_ob,spec_br,spec_ok,decide_eq_true_eq,decide_eq_false_iff_not,uB] at hS
   obtain ⟨hu,hS⟩:=hS
   unfold i64 at hu
   by_cases h1:u<=0
   ·have hS:=hS.1 h1
    simp (maxSteps:=999999) only [go_sem,simprocAttr,↓qT,↓qF,df91,hd,h1]
    exact hS
   ·have hS:=hS.2 h1
    have hw:IntKind.i64.wrap (u-1)=u-1:=by rw [wrap64]<;>omega
    simp (maxSteps:=999999) only [go_sem,simprocAttr,↓qT,↓qF,df91,hd,h1,hw,put,fillP]
    exact hS
  ·exact hS.elim
 ·exact hS.elim
/-! ### chunks -/
def ckG:List V->List Blk->Res
 | [.s (.i .i64 x)],h=>.ok (.s (.fn 153 [(.g h.length,0)])) [] (h++[uB x])
 | _,_=>.bad
theorem ck_snd:Snd Tryz.prog 90 (FSpec.of ckG):=snd_run (noT_snd _) mixed Tryz.func90 dc90 100 fun args h K hc hS=>by
 unfold ckG at hS
 split at hS
 ·rename_i x
  simp only [spec_ok,uB] at hS
  simp (maxSteps:=999999) only [go_sem,simprocAttr,↓qT,↓qF,df90]
  refine ⟨[0],by simp,rfl, ?_⟩
  simp only [getAll,List.getElem?_cons_zero,List.getElem?_cons_succ]
  refine ⟨?_, ?_⟩
  ·simp [S.kept,R.kept]
  ·refine cast ?_ hS
   simp [Blk.ren,S.ren,R.prom,V.ren,List.idxOf,List.findIdx,List.findIdx.go]
 ·exact hS.elim
def cw (R:Rnd) (K:Option Ex->U->List Blk->Prop):Nat->Int->List Blk->U->Prop
 | 0,x,h,u=>x<=0/\K none u (h++[uB x])
 | k+1,x,h,u=>if x<=0 then K none u (h++[uB x]) else
   RM R [.s (.i .i64 ((x-1)/64*64))] u (h++[uB ((x-1)/64*64)]) fun p u' h'=>∃ h2,h2.length=h.length/\h'=h2++[uB ((x-1)/64*64)]/\match p with
    | none=>cw R K k ((x-1)/64*64) h2 u'
    | some e=>K (some e) u' h'
noncomputable def TCk:Tab:=addT 91 unitG (noT)
theorem TCk_snd:TCk.Snd Tryz.prog:=addT_snd ok91 unit_snd ((noT_snd _))
theorem chunks1_is {h:List Blk} {x:Int} {u:U} {R:Rnd} {K:Option Ex->U->List Blk->Prop} {k:Nat} (hx:x<=1000000000000) (hw:cw R K k x h u) :
  isem 153 [.s (.p (.g h.length) 0)] 1 u (h++[uB x]) R K:=by
 refine isem_of mixed (Tab.snd_Γ TCk_snd) ok153 Tryz.func153 dc153 rfl rfl rfl fun l=>?_
 have h1:∀ (h2:List Blk) (y:Int),h2.length=h.length->(h2++([⟨.rw,[.i .i64 y],1⟩]:List Blk))[h.length]?=some ⟨.rw,[.i .i64 y],1⟩:=fun h2 y e=>by
  rw [<-e,List.getElem?_append_right (Nat.le_refl _),Nat.sub_self]; rfl
 have h3:∀ (h2:List Blk) (y z:Int),h2.length=h.length->(h2++([⟨.rw,[.i .i64 y],1⟩]:List Blk)).set h.length ⟨.rw,[.i .i64 z],1⟩=h2++([⟨.rw,[.i .i64 z],1⟩]:List Blk):=fun h2 y z e=>by
  rw [<-e,List.set_append_right _ _ (Nat.le_refl _),Nat.sub_self]; rfl
 refine ysw_block (by decide) ?_
 refine ysw_loop (α:=Nat×Int×List Blk) [3,4,5,6,7,8,9,10,11,12] (fun _=>[]) (fun _=>[]) (fun y=>y.2.2++[uB y.2.1]) (fun y u p=>p=none/\y.2.1<=1000000000000/\y.2.2.length=h.length/\cw R K y.1 y.2.1 y.2.2 u) (fun y=>y.1) (k,x,h) ⟨rfl,hx,rfl,hw⟩ rfl ?_ ?_
 ·refine Wk.same rfl rfl ?_
  simp (maxSteps:=999999) only [go_sem,simprocAttr,↓qT,↓qF,df153]
 ·rintro X ⟨k,y,h2⟩ u p ⟨rfl,hy,hl,hw⟩ IH
  simp only at hy hl hw ⊢
  have g1:=h1 h2 y hl
  have g3:=fun z=>h3 h2 y z hl
  refine ysw_seq (ysw_seq (ysw_reg (Tab.ok_Γ _) 60 rfl ?_))
  by_cases h0:y<=0
  ·have h0':¬ 0<y:=by omega
   have hK:K none u (h2++[uB y]):=by
    cases k with
    | zero=>exact hw.2
    | succ k=>simp only [cw,h0,if_true] at hw; exact hw
   simp (maxSteps:=999999) only [go_sem,simprocAttr,↓qT,↓qF,df153,TCk,uB,g1,h0']
   refine ysw_cf rfl (ysw_exit (by decide) ?_)
   simp only [ysx,if_true]
   simp only [ysw]
   exact hK
  ·have h0':0<y:=by omega
   cases k with
   | zero=>exact absurd hw.1 h0
   | succ k =>
   simp only [cw,h0,if_false] at hw
   obtain ⟨z,hz⟩:∃ z,(y-1)/64*64=z:=⟨_,rfl⟩
   rw [hz] at hw
   have q1:IntKind.i64.wrap (y-1)=y-1:=by rw [wrap64]<;>omega
   have q2:IntKind.i64.wrap ((y-1).tdiv 64)=(y-1)/64:=by rw [Int.tdiv_eq_ediv_of_nonneg (by omega),wrap64]<;>omega
   have q3:IntKind.i64.wrap ((y-1)/64*64)=z:=by rw [<-hz,wrap64]<;>omega
   have g4:=h1 h2 z hl
   simp (maxSteps:=999999) only [go_sem,simprocAttr,↓qT,↓qF,df153,TCk,uB,g1,h0']
   refine ysw_ct rfl (ysw_skip (ysw_block (by decide) (ysw_seq (ysw_reg (Tab.ok_Γ _) 60 rfl ?_))))
   simp (maxSteps:=999999) only [go_sem,simprocAttr,↓qT,↓qF,df153,TCk,g1,g3,q1,q2,q3,put,fillP,sub]
   refine ysw_seq (ysw_yieldAt (Tab.ok_Γ _) 60 2 rfl rfl ?_)
   simp (maxSteps:=999999) only [go_sem,simprocAttr,↓qT,↓qF,df153,TCk,g4,sub,EVt,List.drop_succ_cons]
   refine ywp_y rfl rfl rfl rfl rfl (hw _ fun p' u' h' hk'=>?_)
   obtain ⟨h5,hl5,rfl,hk'⟩:=hk'
   refine ywp_run (Tab.ok_Γ _) 60 rfl ?_
   cases p' with
   | some e =>
    simp (maxSteps:=999999) only [go_sem,simprocAttr,↓qT,↓qF,df153,TCk,Option.isNone_some]
    exact ysw_ct rfl (ysw_ret hk')
   | none =>
    simp (maxSteps:=999999) only [go_sem,simprocAttr,↓qT,↓qF,df153,TCk,Option.isNone_none]
    refine ysw_cf rfl (ysw_skip (ysw_blk ?_))
    simp only [ysw]
    exact IH (k,z,h5) _ _ _ (by simp only; omega) ⟨rfl,by simp only; omega,by simp only; omega,hk'⟩ (by simp only [List.length_append,List.length_cons]) (Wk.keep 0 rfl rfl (by simp only [go_sem,simprocAttr,↓qT,↓qF,df153]) (by rfl) (by simp))
end Go.Proofs.YtcdfofeolgbnbaaGreat

