/- Package objs: a thread's words. -/
import Derived.Test.YtcdfofeolgbnbaaGreatZ11
import Derived.Test.YtcdfofeolgbnbaaGreatZ21
import Derived.Test.YtcdfofeolgbnbaaGreatZ19
import Derived.Test.YtcdfofeolgbnbaaGreatZ17
import Derived.Test.YtcdfofeolgbnbaaGreatZ15
import Derived.Test.YtcdfofeolgbnbaaGreatZ14
/- Package derive,and the document's: Copy,Mint,Move,Mutate,Rotate. -/
namespace Go.Proofs.YtcdfofeolgbnbaaGreat
open Go.D
set_option linter.all false
set_option maxRecDepth 100000
set_option maxHeartbeats 8000000

/-! ### Mint -/
/-! ### Move,Mutate -/
/-! ### Rotate -/

def pickV (c n:Int):Int:=(if c<0 then IntKind.i64.wrap (0-IntKind.i64.wrap (c+1)) else c).tmod n
def pickG:List V->List Blk->Res
 | [.s (.i .i64 c), .s (.i .i64 n)],h=>.ob (n≠0) (.ok (.s (.i .i64 (pickV c n))) [] h)
 | _,_=>.bad
theorem pick_snd:Snd Tryz.prog 18 (FSpec.of pickG):=snd_run (noT_snd _) mixed Tryz.func18 dc18 100 fun args h K hc hS=>by
 unfold pickG at hS
 split at hS
 ·rename_i c n
  obtain ⟨hn,hS⟩:=hS
  have hn:¬ n=0:=hn
  simp only [spec_ok,pickV] at hS
  by_cases c1:c<0
  ·simp only [c1,if_true] at hS
   simp (maxSteps:=999999) only [go_sem,simprocAttr,↓qT,↓qF,df18,c1,hn]
   exact hS
  ·simp only [c1,if_false] at hS
   simp (maxSteps:=999999) only [go_sem,simprocAttr,↓qT,↓qF,df18,c1,hn]
   exact hS
 ·exact hS.elim
def plcV (n:Int):Int:=if pickV n 44<32 then IntKind.i64.wrap (2048+IntKind.i64.wrap (4*pickV n 44)) else if pickV n 44<40 then IntKind.i64.wrap (3072+IntKind.i64.wrap (4*IntKind.i64.wrap (pickV n 44-32)))
 else IntKind.i64.wrap (3104+IntKind.i64.wrap (4*IntKind.i64.wrap (pickV n 44-40)))
def plcG:List V->List Blk->Res
 | [.s (.i .i64 n)],h=>.ok (.s (.i .i64 (plcV n))) [] h
 | _,_=>.bad
noncomputable def TPk:Tab:=addT 18 pickG (noT)
theorem TPk_snd:TPk.Snd Tryz.prog:=addT_snd ok18 pick_snd ((noT_snd _))
theorem plc_snd:Snd Tryz.prog 39 (FSpec.of plcG):=snd_run TPk_snd mixed Tryz.func39 dc39 100 fun args h K hc hS=>by
 unfold plcG at hS
 split at hS
 ·rename_i n
  simp only [spec_ok,plcV] at hS
  by_cases c1:pickV n 44<32
  ·simp only [c1,if_true] at hS
   simp (maxSteps:=999999) only [go_sem,simprocAttr,↓qT,↓qF,df39,TPk,pickG,c1]
   exact hS
  ·by_cases c2:pickV n 44<40
   ·simp only [c1,c2,if_true,if_false] at hS
    simp (maxSteps:=999999) only [go_sem,simprocAttr,↓qT,↓qF,df39,TPk,pickG,c1,c2]
    exact hS
   ·simp only [c1,c2,if_false] at hS
    simp (maxSteps:=999999) only [go_sem,simprocAttr,↓qT,↓qF,df39,TPk,pickG,c1,c2]
    exact hS
 ·exact hS.elim

/-! ### a world -/
def wB (n:Nat):Blk:=⟨.rw,[.p (.g (n+2)) 0, .p (.g n) 0],2⟩
def wH (h:List Blk) (m r:M) (X:List Blk):List Blk:=memH (memH h r) m++(wB h.length::X)
theorem wH_len (h:List Blk) (m r:M) (X:List Blk):(wH h m r X).length=h.length+5+X.length:=by
 simp only [wH,List.length_append,memH_len,List.length_cons]; omega
theorem wH_at (h:List Blk) (m r:M) (X:List Blk):(wH h m r X)[h.length+4]?=some (wB h.length):=by
 unfold wH
 rw [List.getElem?_append_right (by simp only [memH_len]; omega)]
 simp only [memH_len,show h.length+4-(h.length+2+2)=0 by omega,List.getElem?_cons_zero]
theorem wH_ism (h:List Blk) (m r:M) (X:List Blk):IsMem (wH h m r X) (h.length+2) (h.length+3) m:=(memH_is2 h r m).app
theorem wH_isr (h:List Blk) (m r:M) (X:List Blk):IsMem (wH h m r X) h.length (h.length+1) r:=(memH_is1 h r m).app
theorem wH_app (h:List Blk) (m r:M) (X Y:List Blk):wH h m r X++Y=wH h m r (X++Y):=by simp [wH]
theorem wH_m {f:Nat->M->(M->List Blk)->List V->Res} {h X:List Blk} {m r:M} {rest:List V}:memF f (.s (.p (.g (h.length+2)) 0)::rest) (wH h m r X)=f (h.length+3) m (fun m=>wH h m r X) rest:=memF_new2A
theorem wH_r {f:Nat->M->(M->List Blk)->List V->Res} {h X:List Blk} {m r:M} {rest:List V}:memF f (.s (.p (.g h.length) 0)::rest) (wH h m r X)=f (h.length+1) r (fun r=>wH h m r X) rest:=memF_new1A
theorem wH_inj {h h':List Blk} {m m' r r':M} {X X':List Blk} (e:wH h m r X=wH h' m' r' X') (hl:h.length=h'.length):h=h'/\m=m'/\r=r'/\X=X':=by
 have e1:h=h':=by
  have:=congrArg (List.take h.length) e
  simp only [wH,memH,List.append_assoc] at this
  rw [List.take_left,hl,List.take_left] at this
  exact this
 subst e1
 have a1:=wH_ism h m r X
 have a2:=wH_ism h m' r' X'
 have b1:=wH_isr h m r X
 have b2:=wH_isr h m' r' X'
 rw [<-e] at a2 b2
 have hm:m=m':=by
  have x1:=a1.ha.symm.trans a2.ha
  have x2:=a1.hb.symm.trans a2.hb
  simp only [Option.some.injEq] at x1 x2
  exact M.ext' (MW_inj x2) (MB_inj x1)
 have hr:r=r':=by
  have x1:=b1.ha.symm.trans b2.ha
  have x2:=b1.hb.symm.trans b2.hb
  simp only [Option.some.injEq] at x1 x2
  exact M.ext' (MW_inj x2) (MB_inj x1)
 subst hm
 subst hr
 refine ⟨rfl,rfl,rfl, ?_⟩
 unfold wH at e
 have:=List.append_cancel_left e
 simpa using this
open Classical in
noncomputable def wldOf (H:List Blk) (w:Nat):Option (List Blk×M×M×List Blk):=if hx:∃ x:List Blk×M×M×List Blk,H=wH x.1 x.2.1 x.2.2.1 x.2.2.2/\w=x.1.length+4 then some (Classical.choose hx) else none
theorem wldOf_eq (h:List Blk) (m r:M) (X:List Blk):wldOf (wH h m r X) (h.length+4)=some (h,m,r,X):=by
 have hx:∃ x:List Blk×M×M×List Blk,wH h m r X=wH x.1 x.2.1 x.2.2.1 x.2.2.2/\h.length+4=x.1.length+4:=⟨(h,m,r,X),rfl,rfl⟩
 unfold wldOf
 rw [dif_pos hx]
 have:=Classical.choose_spec hx
 obtain ⟨e1,e2⟩:=this
 obtain ⟨a,b,c,d⟩:=wH_inj e1 (by omega)
 generalize Classical.choose hx=y at a b c d
 obtain ⟨y1,y2,y3,y4⟩:=y
 simp only at a b c d
 subst a; subst b; subst c; subst d; rfl
theorem wldOf_some {H h X:List Blk} {w:Nat} {m r:M} (e:wldOf H w=some (h,m,r,X)):H=wH h m r X/\w=h.length+4:=by
 unfold wldOf at e
 split at e
 ·rename_i hx
  have:=Classical.choose_spec hx
  rw [Option.some.injEq] at e
  rw [e] at this
  exact this
 ·cases e
noncomputable def wldF (f:M->M->(M->M->List Blk)->List V->Res):List V->List Blk->Res
 | .s (.p (.g w) 0)::rest,H=>match wldOf H w with
  | some (h,m,r,X)=>f m r (fun m r=>wH h m r X) rest
  | none=>.bad
 | _,_=>.bad
theorem wldF_spec {f:M->M->(M->M->List Blk)->List V->Res} {args:List V} {H:List Blk} {K:V->List Blk->Prop} (hS:(wldF f args H).spec K) :
  ∃ h m r X rest,args=.s (.p (.g (h.length+4)) 0)::rest/\H=wH h m r X/\(f m r (fun m r=>wH h m r X) rest).spec K:=by
 unfold wldF at hS
 split at hS
 ·split at hS
  ·rename_i e
   obtain ⟨e1,e2⟩:=wldOf_some e
   subst e2
   exact ⟨_,_,_,_,_,rfl,e1,hS⟩
  ·exact hS.elim
 ·exact hS.elim
theorem wldF_eq {f:M->M->(M->M->List Blk)->List V->Res} {h X:List Blk} {m r:M} {rest:List V}:wldF f (.s (.p (.g (h.length+4)) 0)::rest) (wH h m r X)=f m r (fun m r=>wH h m r X) rest:=by
 simp only [wldF,wldOf_eq]

/-! ### an act -/
structure Act where
 wh:Int
 a:Int
 b:Int
 c:Int
 rg:Int
 bd:Int
 g:Int
 n:Int
def Act.cl (x:Act):List S:=[.i .i64 x.wh, .i .i64 x.a, .i .i64 x.b, .i .i64 x.c, .i .i64 x.rg, .i .i64 x.bd, .i .i64 x.g, .i .i64 x.n]
def actF (f:Act->Res):List V->Res
 | [.agg [.i .i64 a, .i .i64 b, .i .i64 c, .i .i64 d, .i .i64 e, .i .i64 g, .i .i64 i, .i .i64 j]]=>f ⟨a,b,c,d,e,g,i,j⟩
 | _=>.bad
theorem actF_spec {f:Act->Res} {args:List V} {K:V->List Blk->Prop} (h:(actF f args).spec K):∃ x:Act,args=[.agg x.cl]/\(f x).spec K:=by
 unfold actF at h
 split at h
 ·exact ⟨_,rfl,h⟩
 ·exact h.elim
end Go.Proofs.YtcdfofeolgbnbaaGreat

/- Law 12: the memories that acts make of the plan's: in order,whatever is done; code and document make the same words. -/
namespace Go.Proofs.YtcdfofeolgbnbaaGreat
open Go.D
set_option linter.all false
set_option maxRecDepth 100000
set_option maxHeartbeats 4000000

/-! ### the places -/
def placeN (k:Nat):Int:=if k<32 then 2048+4*(k:Int) else if k<40 then 3072+4*((k:Int)-32) else 3104+4*((k:Int)-40)
theorem pick_lt {c:Int} (hc : -9223372036854775808<=c/\c<9223372036854775808):0<=pickV c 44/\pickV c 44<44:=by
 unfold pickV
 have:0<=(if c<0 then IntKind.i64.wrap (0-IntKind.i64.wrap (c+1)) else c):=by
  split
  ·rw [wrap64 (n:=c+1) (by omega) (by omega),wrap64 (by omega) (by omega)]; omega
  ·omega
 rw [Int.tmod_eq_emod_of_nonneg this]
 omega
theorem plc_is {c:Int} (hc : -9223372036854775808<=c/\c<9223372036854775808):∃ k:Nat,k<44/\plcV c=placeN k:=by
 obtain ⟨h1,h2⟩:=pick_lt hc
 refine ⟨(pickV c 44).toNat,by omega, ?_⟩
 have e:((pickV c 44).toNat:Int)=pickV c 44:=by omega
 unfold plcV placeN
 generalize pickV c 44=q at *
 rw [e]
 by_cases c1:q<32
 ·have c2:q.toNat<32:=by omega
  rw [if_pos c1,if_pos c2,wrap64 (n:=4*q) (by omega) (by omega),wrap64 (by omega) (by omega)]
 ·have c2:¬ q.toNat<32:=by omega
  rw [if_neg c1,if_neg c2]
  by_cases c3:q<40
  ·have c4:q.toNat<40:=by omega
   rw [if_pos c3,if_pos c4,wrap64 (n:=q-32) (by omega) (by omega),wrap64 (n:=4*(q-32)) (by omega) (by omega),wrap64 (by omega) (by omega)]
  ·have c4:¬ q.toNat<40:=by omega
   rw [if_neg c3,if_neg c4,wrap64 (n:=q-40) (by omega) (by omega),wrap64 (n:=4*(q-40)) (by omega) (by omega),wrap64 (by omega) (by omega)]
/-! ### what stays -/

theorem insL_mem {p a x:Int}:∀ {L:List Int},x∈insL p a L->x=a\/x∈L
 | [],h=>by simp [insL] at h
 | y::L,h=>by
  unfold insL at h
  split at h
  ·rcases List.mem_cons.1 h with e|h
   ·exact .inr (by rw [e]; exact List.mem_cons_self)
   ·rcases List.mem_cons.1 h with e|h
    ·exact .inl e
    ·exact .inr (List.mem_cons_of_mem _ h)
  ·rcases List.mem_cons.1 h with e|h
   ·exact .inr (by rw [e]; exact List.mem_cons_self)
   ·exact (insL_mem h).imp id fun h=>List.mem_cons_of_mem _ h
theorem mem_insL {p a x:Int}:∀ {L:List Int},x∈L->x∈insL p a L
 | y::L,h=>by
  unfold insL
  split
  ·rcases List.mem_cons.1 h with e|h
   ·rw [e]; exact List.mem_cons_self
   ·exact List.mem_cons_of_mem _ (List.mem_cons_of_mem _ h)
  ·rcases List.mem_cons.1 h with e|h
   ·rw [e]; exact List.mem_cons_self
   ·exact List.mem_cons_of_mem _ (mem_insL h)
theorem a_insL {p a:Int}:∀ {L:List Int},p∈L->a∈insL p a L
 | y::L,h=>by
  unfold insL
  split
  ·simp
  ·rename_i e
   rcases List.mem_cons.1 h with h|h
   ·exact absurd h.symm e
   ·exact List.mem_cons_of_mem _ (a_insL h)


section
variable {m r:M} {L:List Int}
end

section
variable {m r:M} {L:List Int}
end
end Go.Proofs.YtcdfofeolgbnbaaGreat

/- Package objs: fields of a word. -/
namespace Go.Proofs.YtcdfofeolgbnbaaGreat
open Go.D
set_option linter.all false
set_option maxRecDepth 100000
set_option maxHeartbeats 8000000

structure Fi where
 b:Int
 n:Int
def Fi.c (f:Fi):List S:=[.i .i64 f.b, .i .i64 f.n]
theorem Fi.c_len (f:Fi):f.c.length=2:=rfl
instance:Cells Fi.c:=⟨⟨2,Fi.c_len⟩,fun x y e=>by
 obtain ⟨a,b⟩:=x
 obtain ⟨c,d⟩:=y
 simp only [Fi.c,List.cons.injEq,S.i.injEq,true_and,and_true] at e
 rw [e.1,e.2]⟩
def Fi.z:Fi:=⟨0,0⟩
def Fi.fd (f:Fi):Fd:=⟨f.b,IntKind.u64.wrap f.n⟩
theorem fd_u (f:Fi):u64 f.fd.v:=by
 show u64 (IntKind.u64.wrap f.n)
 rw [IntKind.wrap_u64]; simp only [u64]; omega
def posB (L:List Fi):Bool:=L.all fun f=>decide (0<=f.n)
def opB (L:List Fi):Bool:=posB L&&packB (L.map Fi.fd) 0
def opV (L:List Fi):Int:=if opB L then packV (L.map Fi.fd) 0 else 0
noncomputable def opackG:List V->List Blk->Res
 | [.s s],h=>match arrOf Fi.c h s with
  | some L=>.ob (L.length<=64) (.ok (.tup [.s (.i .u64 (opV L)), .s (.b (opB L))]) [] h)
  | none=>.bad
 | _,_=>.bad
def slF:List Fd->Nat->S
 | [],_=>.ns
 | _::M,c=>.sl (.l 0) 0 (M.length+1) c
def lsF:List Fd->Nat->List Blk
 | [],_=>[]
 | x::M,c=>[⟨.rw,arr Fd.c (x::M),c*2⟩]
section
variable (L:List Fd)
theorem fd_all {p:S->Bool} (hp:∀ k x,p (.i k x)=true):(arr Fd.c L).all p=true:=by
 rw [arr_all,List.all_eq_true]
 intro x _
 simp [Fd.c,hp]
theorem fd_known:known (arr Fd.c L)=true:=by unfold known; exact fd_all L fun _ _=>rfl
theorem fd_names (n:Nat):(arr Fd.c L).all (fun s=>!s.names n)=true:=fd_all L fun _ _=>rfl
theorem fd_below (n:Nat):(arr Fd.c L).all (S.below n)=true:=fd_all L fun _ _=>rfl
theorem fd_ren (ρ:R->R):(arr Fd.c L).map (S.ren ρ)=arr Fd.c L:=by
 induction L with
 | nil=>rfl
 | cons x L ih=>simp only [arr,List.map_append,ih]; rfl
theorem fd_len:(arr Fd.c L).length=L.length*2:=arr_length Fd.c_len L
end
theorem fd_snoc (L:List Fd) (x:Fd):arr Fd.c (L++[x])=arr Fd.c L++x.c:=by rw [arr_append]; simp [arr]
noncomputable def To1:Tab:=addT 140 packG (addT 88 unpackG (noT))
theorem To1_snd:To1.Snd Tryz.prog:=addT_snd ok140 pack_snd (addT_snd ok88 unpack_snd ((noT_snd _)))
theorem opack_snd:Snd Tryz.prog 198 (FSpec.of opackG):=snd_run To1_snd mixed Tryz.func198 dc198 200 fun args h K hc hS=>by
 unfold opackG at hS
 split at hS
 ·split at hS
  ·rename_i s _ L e
   obtain ⟨hl,hS⟩:=hS
   simp only [spec_ok] at hS
   have H1:=arrOf_some e
   have hlen:=fun ls h'=>H1.sl.len (ls:=ls) (h:=h')
   have hb1:∀ k,S.below k s=true:=H1.sl.below
   have hnm:=fun k=>H1.sl.names k
   have hp1:=fun l=>H1.sl.pick l
   have hv1:=fun k=>H1.sl.val (k:=h.length) (m:=k) (Nat.le_refl _)
   have hcq:=hc
   have hnq:h.length<=h.length:=Nat.le_refl _
   simp (maxSteps:=999999) only [go_sem,simprocAttr,↓qT,↓qF,df198,hlen]
   refine loop_rule (α:=Nat×Nat) [2,3,4,6,11,12,13,14,15,16,17,18,19,20,21,22,23,24,25,26,27] (fun x=>[(4, .s (slF ((L.take x.1).map Fi.fd) x.2)),(11, .s (.i .i64 x.1))]) (fun x=>lsF ((L.take x.1).map Fi.fd) x.2) (fun _=>h)
    (fun x=>x.1<=L.length/\posB (L.take x.1)=true/\x.1<=x.2) (fun x=>L.length-x.1) (0,0) ⟨Nat.zero_le _,rfl,Nat.le_refl _⟩ ?_ ?_
   ·refine Wk.same rfl rfl ?_
    simp (maxSteps:=999999) only [go_sem,simprocAttr,↓qT,↓qF,slF,Int.natCast_zero,List.map_nil,List.take_zero]
   ·rintro X ⟨i,cp⟩ ⟨hi,hp,hcp⟩ IH
    simp only at hi hp hcp IH ⊢
    rcases Nat.lt_or_ge i L.length with g1|g1
    ·obtain ⟨d1,d2,d3,d4⟩:=idx g1 (by omega)
     obtain ⟨j,c',st,room,hse,hj,hd⟩:=H1.at g1
     obtain ⟨y,hy⟩:∃ y,nth Fi.z L i=y:=⟨_,rfl⟩
     have hs:sub (arr Fi.c L) (i*2) 2=y.c:=by rw [<-hy,nth_eq g1]; exact arr_sub Fi.c_len g1
     have hle:i*2+2<=(arr Fi.c L).length:=by
      rw [arr_length Fi.c_len]
      have:(i+1)*2<=L.length*2:=Nat.mul_le_mul_right _ g1
      omega
     have hjl:j<h.length:=(List.getElem?_eq_some_iff.1 hj).1
     have hyL:L[i]=y:=by rw [<-hy,nth_eq g1]
     simp only [Fi.c] at hs
     have z2:L.length-(i+1)<L.length-i:=by omega
     by_cases c2:y.n<0
     ·have hB:opB L=false:=by
       have:posB L=false:=by
        rw [Bool.eq_false_iff]
        intro e
        simp only [posB,List.all_eq_true,decide_eq_true_eq] at e
        have:=e y (by rw [<-hyL]; exact List.getElem_mem _)
        omega
       simp [opB,this]
      have hV:opV L=0:=by simp [opV,hB]
      rw [hB,hV] at hS
      refine run_sound (Tab.ok_Γ _) 200 _ _ _ _ ?_
      simp (maxSteps:=999999) only [go_sem,simprocAttr,↓qT,↓qF,hse,d1,d2,d3,d4,hj,hd,hs,hle,c2,Int.toNat_natCast,put,fillP]
      exact hS
     ·have hpo:posB (L.take (i+1))=true:=by
       rw [List.take_succ_eq_append_getElem g1]
       simp only [posB,List.all_append,Bool.and_eq_true,List.all_cons,List.all_nil,Bool.and_true,decide_eq_true_eq] at hp ⊢
       exact ⟨hp,by rw [hyL]; omega⟩
      have hms:(L.take (i+1)).map Fi.fd=(L.take i).map Fi.fd++[y.fd]:=by
       rw [List.take_succ_eq_append_getElem g1,List.map_append,hyL]; rfl
      obtain ⟨M,hM⟩:∃ M,(L.take i).map Fi.fd=M:=⟨_,rfl⟩
      have hMl:M.length=i:=by rw [<-hM,List.length_map,List.length_take]; omega
      rw [hM] at hms ⊢
      cases M with
      | nil =>
       refine run_sound (Tab.ok_Γ _) 300 _ _ _ _ ?_
       simp (maxSteps:=999999) only [go_sem,simprocAttr,↓qT,↓qF,To1,hse,d1,d2,d3,d4,hj,hd,hs,hle,c2,slF,lsF,Int.toNat_natCast,put,fillP]
       intro c3 hc3
       refine IH (i+1,c3) _ z2 ⟨g1,hpo,by show i+1<=c3; simp only [List.length_nil] at hMl; omega⟩ ?_
       simp only
       rw [hms]
       simp only [List.nil_append]
       refine Wk.sel [2] (by decide) hnq ?_ ?_ ?_ ?_ hcq (clean_pick hcq _)
       ·simp (maxSteps:=999999) only [go_sem,simprocAttr,↓qT,↓qF,List.nil_append,Blk.ren,V.ren,C.ren,S_ren,wc_ren,R.pick_g,R.pick_0,R.pick_s,List.map_append,wc_cons,wc_snoc,wc_nil,slF,lsF,hjl,hse,hp1,hv1,arr,Fd.c,Fi.fd]
       ·simp (maxSteps:=999999) only [go_sem,simprocAttr,↓qT,↓qF,List.nil_append,Blk.ren,V.ren,C.ren,S_ren,wc_ren,R.pick_g,R.pick_0,R.pick_s,slF,lsF,hjl,hse,hp1,hv1,arr,Fd.c,Fi.fd]
       ·simp (maxSteps:=999999) only [go_sem,simprocAttr,↓qT,↓qF,List.nil_append,app_len,nlt0,nltn,Nat.reduceLT,Nat.le_add_right,slF,lsF,hjl,hse,hp1,hv1,arr,Fd.c,Fi.fd]
       ·simp (maxSteps:=999999) only [go_sem,simprocAttr,↓qT,↓qF,List.nil_append,app_len,nlt0,nltn,Nat.reduceLT,Nat.le_add_right,vals_cons,vals_nil,wc_val,wc_vals,slF,lsF,hjl,hse,hp1,hv1,arr,Fd.c,Fi.fd]
      | cons z M =>
       have hk2:=fd_known (z::M)
       have hn2:=fd_names (z::M)
       have hl2:=fd_len (z::M)
       have hsn:=fd_snoc (z::M) y.fd
       simp only [List.length_cons] at hMl hl2
       have hby:(M.length+1+1)*16<=140737488355328:=by omega
       have hcp2:M.length+1<=cp:=by omega
       simp only [Fd.c,Fi.fd,List.cons_append] at hsn
       refine run_sound (Tab.ok_Γ _) 300 _ _ _ _ ?_
       simp (maxSteps:=999999) only [go_sem,simprocAttr,↓qT,↓qF,To1,hse,d1,d2,d3,d4,hj,hd,hs,hle,c2,slF,lsF,hk2,hn2,hl2,hby,hcp2,hnm,Int.toNat_natCast,put,fillP]
       intro c3 hc3
       refine IH (i+1,c3) _ z2 ⟨g1,hpo,by show i+1<=c3; omega⟩ ?_
       simp only
       rw [hms]
       refine Wk.keep 1 ?_ rfl ?_ ?_ ?_
       all_goals simp (maxSteps:=999999) only [go_sem,simprocAttr,↓qT,↓qF,hse,hsn,slF,lsF,hb1,fd_below,List.cons_append,List.all_append,List.length_append,List.take_succ_cons,List.take_zero,Fi.fd,Fd.c]
    ·have hiL:i=L.length:=by omega
     subst hiL
     have g2:¬ ((L.length:Int)<L.length):=Int.lt_irrefl _
     rw [List.take_length] at hp ⊢
     obtain ⟨M,hM⟩:∃ M,L.map Fi.fd=M:=⟨_,rfl⟩
     have hMl:M.length=L.length:=by rw [<-hM,List.length_map]
     have hB:opB L=packB M 0:=by simp only [opB,hp,Bool.true_and,hM]
     have hV:opV L=if packB M 0 then packV M 0 else 0:=by simp only [opV,hB,hM]
     rw [hB,hV] at hS
     rw [hM]
     cases M with
     | nil =>
      simp only [packB,packV,if_true] at hS
      refine run_sound (Tab.ok_Γ _) 300 _ _ _ _ ?_
      simp (maxSteps:=999999) only [go_sem,simprocAttr,↓qT,↓qF,To1,g2,slF,lsF,packG]
      exact hS
     | cons z M =>
      have hu:∀ f,f∈z::M->u64 f.v:=fun f hf=>by
       rw [<-hM] at hf
       obtain ⟨x,_,rfl⟩:=List.mem_map.1 hf
       exact fd_u x
      have hdf:=decF_arr (z::M)
      have hts:List.take M.length M=M:=List.take_length
      have hl9:M.length+1<=9223372036854775807:=by simp only [List.length_cons] at hMl; omega
      have hl8:M.length+1<=(z::M).length:=Nat.le_refl _
      cases hb:packB (z::M) 0 with
      | true =>
       simp only [hb,if_true] at hS
       refine run_sound (Tab.ok_Γ _) 300 _ _ _ _ ?_
       simp (maxSteps:=999999) only [go_sem,simprocAttr,↓qT,↓qF,To1,g2,slF,lsF,packG,R.lend,R.unlend,S_ren,C.ren,V.ren,app_taken,app_dropn,app_take0,app_drop0,List.take_succ_cons,List.take_zero,List.drop_succ_cons,List.drop_zero,Nat.not_lt_zero,Nat.lt_irrefl,Nat.add_sub_cancel_left,Nat.not_lt,Nat.le_add_right,Blk.ren,fd_ren,↓hdf,hts,hl9,hl8,hu,hb]
       exact ⟨hu,hc,hS⟩
      | false =>
       simp only [hb,if_false,Bool.false_eq_true] at hS
       refine run_sound (Tab.ok_Γ _) 300 _ _ _ _ ?_
       simp (maxSteps:=999999) only [go_sem,simprocAttr,↓qT,↓qF,To1,g2,slF,lsF,packG,R.lend,R.unlend,S_ren,C.ren,V.ren,app_taken,app_dropn,app_take0,app_drop0,List.take_succ_cons,List.take_zero,List.drop_succ_cons,List.drop_zero,Nat.not_lt_zero,Nat.lt_irrefl,Nat.add_sub_cancel_left,Nat.not_lt,Nat.le_add_right,Blk.ren,fd_ren,↓hdf,hts,hl9,hl8,hu,hb]
       exact ⟨hu,hc,hS⟩
  ·exact hS.elim
 ·exact hS.elim

def ic (l:List Int):List S:=l.map (S.i .i64)
section
variable (l:List Int)
end
def fI (b:Bool):Int:=if b then 1 else 0
def flagG:List V->List Blk->Res
 | [.s (.b q)],h=>.ok (.agg [.i .i64 1, .i .i64 (fI q)]) [] h
 | _,_=>.bad
theorem flag_snd:Snd Tryz.prog 199 (FSpec.of flagG):=snd_run (noT_snd _) mixed Tryz.func199 dc199 100 fun args h K hc hS=>by
 unfold flagG at hS
 split at hS
 ·rename_i q
  simp only [spec_ok,fI] at hS
  cases q
  ·simp (maxSteps:=999999) only [go_sem,simprocAttr,↓qT,↓qF,df199,put,fillP,sub,EVt]
   exact hS
  ·simp (maxSteps:=999999) only [go_sem,simprocAttr,↓qT,↓qF,df199,put,fillP,sub,EVt]
   exact hS
 ·exact hS.elim
def in3 (n a b:Int):Bool:=decide (a<=n)&&decide (n<=b)
def orinG:List V->List Blk->Res
 | [.s (.i .i64 n), .s (.i .i64 a), .s (.i .i64 b)],h=>.ok (.s (.b (in3 n a b))) [] h
 | _,_=>.bad
theorem orin_snd:Snd Tryz.prog 200 (FSpec.of orinG):=snd_run (noT_snd _) mixed Tryz.func200 dc200 100 fun args h K hc hS=>by
 unfold orinG at hS
 split at hS
 ·simp only [spec_ok,in3] at hS
  simp (maxSteps:=999999) only [go_sem,simprocAttr,↓qT,↓qF,df200]
  exact hS
 ·exact hS.elim
theorem in3_iff {n a b:Int}:in3 n a b=true↔a<=n/\n<=b:=by simp [in3]

def otB (m:M) (a n:Int):Bool:=decide (1024<=a/\a%n=0/\a+n<=m.w.length)
theorem otB_iff {m:M} {a n:Int}:otB m a n=true↔1024<=a/\a%n=0/\a+n<=m.w.length:=by simp [otB]
def otM (b:Nat) (m:M) (st:M->List Blk):List V->Res
 | [.s (.i .i64 a), .s (.i .i64 n)]=>.ob (0<n/\n<=64) (.ok (.s (.b (otB m a n))) [] (st m))
 | _=>.bad
noncomputable def otG:=memF otM
noncomputable def To2:Tab:=addT 150 wordsG (addT 189 thereG (noT))
theorem To2_snd:To2.Snd Tryz.prog:=addT_snd ok150 mwords_snd (addT_snd ok189 rthere_snd ((noT_snd _)))
theorem ot_snd:Snd Tryz.prog 183 (FSpec.of otG):=snd_run To2_snd mixed Tryz.func183 dc183 100 fun args h K hc hS=>by
 obtain ⟨a,b,m,rest,rfl,H,hS1⟩:=memF_spec hS
 clear hS
 have hS:=hS1
 clear hS1
 unfold otM at hS
 split at hS
 ·rename_i a n
  obtain ⟨hn,hS⟩:=hS
  simp only [spec_ok,setM_self H] at hS
  have hl:=m.l
  have w1:IntKind.i64.wrap ((m.w.length:Int)-n)=m.w.length-n:=wrap64 (by omega) (by omega)
  have hn0:n≠0:=by omega
  by_cases c1:1024<=a
  ·have ht:a.tmod n=a%n:=Int.tmod_eq_emod_of_nonneg (by omega)
   by_cases c2:a%n=0
   ·by_cases c3:a<=m.w.length-n
    ·rw [otB_iff.2 ⟨c1,c2,by omega⟩] at hS
     simp (maxSteps:=999999) only [go_sem,simprocAttr,↓qT,↓qF,df183,To2,wordsG,memF_eq H,wordsM,setM_self H,c1,hn0,ht,c2,w1,c3]
     exact hS
    ·have:otB m a n=false:=by simp only [otB,decide_eq_false_iff_not]; omega
     rw [this] at hS
     simp (maxSteps:=999999) only [go_sem,simprocAttr,↓qT,↓qF,df183,To2,wordsG,memF_eq H,wordsM,setM_self H,c1,hn0,ht,c2,w1,c3]
     exact hS
   ·have:otB m a n=false:=by simp only [otB,decide_eq_false_iff_not]; omega
    rw [this] at hS
    have c2':(a%n==0)=false:=by simpa using c2
    simp (maxSteps:=999999) only [go_sem,simprocAttr,↓qT,↓qF,df183,To2,wordsG,memF_eq H,wordsM,setM_self H,c1,hn0,ht,c2',w1]
    exact hS
  ·have:otB m a n=false:=by simp only [otB,decide_eq_false_iff_not]; omega
   rw [this] at hS
   simp (maxSteps:=999999) only [go_sem,simprocAttr,↓qT,↓qF,df183,To2,wordsG,memF_eq H,wordsM,setM_self H,c1,hn0]
   exact hS
 ·exact hS.elim
theorem rot_snd:Snd Tryz.prog 195 (FSpec.of otG):=snd_run To2_snd mixed Tryz.func195 dc195 100 fun args h K hc hS=>by
 obtain ⟨a,b,m,rest,rfl,H,hS1⟩:=memF_spec hS
 clear hS
 have hS:=hS1
 clear hS1
 unfold otM at hS
 split at hS
 ·rename_i a n
  obtain ⟨hn,hS⟩:=hS
  simp only [spec_ok,setM_self H] at hS
  have hl:=m.l
  have hn0:n≠0:=by omega
  cases hh:m.has a n with
  | false =>
   have hh2:=M.has_not hh
   have:otB m a n=false:=by simp only [otB,decide_eq_false_iff_not]; omega
   rw [this] at hS
   simp (maxSteps:=999999) only [go_sem,simprocAttr,↓qT,↓qF,df195,To2,thereG,memF_eq H,thereM,setM_self H,hh]
   exact hS
  | true =>
   have hh2:=M.has_iff.1 hh
   by_cases c1:1024<=a
   ·have ht:a.tmod n=a%n:=Int.tmod_eq_emod_of_nonneg (by omega)
    by_cases c2:a%n=0
    ·rw [otB_iff.2 ⟨c1,c2,by omega⟩] at hS
     simp (maxSteps:=999999) only [go_sem,simprocAttr,↓qT,↓qF,df195,To2,thereG,memF_eq H,thereM,setM_self H,hh,c1,hn0,ht,c2]
     exact hS
    ·have:otB m a n=false:=by simp only [otB,decide_eq_false_iff_not]; omega
     rw [this] at hS
     have c2':(a%n==0)=false:=by simpa using c2
     simp (maxSteps:=999999) only [go_sem,simprocAttr,↓qT,↓qF,df195,To2,thereG,memF_eq H,thereM,setM_self H,hh,c1,hn0,ht,c2']
     exact hS
   ·have:otB m a n=false:=by simp only [otB,decide_eq_false_iff_not]; omega
    rw [this] at hS
    simp (maxSteps:=999999) only [go_sem,simprocAttr,↓qT,↓qF,df195,To2,thereG,memF_eq H,thereM,setM_self H,hh,c1]
    exact hS
 ·exact hS.elim

noncomputable def To3:Tab:=addT 200 orinG (noT)
theorem To3_snd:To3.Snd Tryz.prog:=addT_snd ok200 orin_snd ((noT_snd _))
/-! ### Queue,SetQueue -/
def sml (n:Int):Prop:=n<9223372036854775808

theorem fi_lent {h X:List Blk} {k c room:Nat} {L:List Fi} {cells:List S} (hX:X[k]?=some ⟨.rw,cells,room⟩) (hc:cells=arr Fi.c L) (hn:0<L.length):arrOf Fi.c (h++X) (.sl (.g (h.length+k)) 0 L.length c)=some L :=
 arrOf_eq (.inr ⟨h.length+k,c, .rw,room,rfl,by rw [app_getn,hX,hc],fun _=>by simp⟩)
theorem nl0 {a k:Nat}:(a+k<a)=False:=by simp
/-! ### SetQueue -/
theorem fd_eq {b n:Int} (h:0<=n/\sml n):Fi.fd ⟨b,n⟩=⟨b,n⟩:=by
 have:IntKind.u64.wrap n=n:=wrapu h.1 (by have:=h.2; unfold sml at this; omega)
 simp only [Fi.fd,this]
theorem packB_cons {f:Fd} {L:List Fd} {k:Int}:packB (f::L) k=true↔(0<=k/\k<=63/\1<=f.b/\f.b<=64-k)/\f.v.toNat<2^f.b.toNat/\packB L (k+f.b)=true:=by
 simp only [packB,setB,fieldB,Bool.and_eq_true,decide_eq_true_eq,and_assoc]
theorem packB_nil {k:Int}:(packB [] k=true)=True:=by simp [packB]

/-! ### Signal,SetSignal -/

/-! ### SetSignal -/
end Go.Proofs.YtcdfofeolgbnbaaGreat

/- Package walk: entries,indices. -/
namespace Go.Proofs.YtcdfofeolgbnbaaGreat
open Go.D
set_option linter.all false
set_option maxRecDepth 100000
set_option maxHeartbeats 4000000

def bI (b:Bool):Int:=if b then 1 else 0
/-! ### bits -/
/-! ### package walk -/

/-! ### the document's -/
/-! ### indices -/

/-! ### a walk -/
end Go.Proofs.YtcdfofeolgbnbaaGreat

/- Package objs: registers,entries,roots,in code and document. -/
namespace Go.Proofs.YtcdfofeolgbnbaaGreat
open Go.D
set_option linter.all false
set_option maxRecDepth 100000
set_option maxHeartbeats 8000000

end Go.Proofs.YtcdfofeolgbnbaaGreat

/- Package objs: a thread's words. -/
namespace Go.Proofs.YtcdfofeolgbnbaaGreat
open Go.D
open Nat (reduceAdd reducePow reduceMul reduceSub reduceLeDiff reduceLT reduceEqDiff)
open Int (reduceNeg reduceLE reduceEq reduceNe reduceToNat)
open Go.D renaming istep → zy,pickR → zx,bin1R → zw,un1R → zv,eqS → zu,eq1 → zq,cmpS → zp,cmp1 → zj,isNil → zk,shows → zg,result → zZ,qT → zV,qF → zU
open List renaming set → zY,replicate → zX
open Option renaming map → zW
open Nat renaming reduceAdd → zQ,reducePow → yz,reduceMul → yy,reduceSub → yx,reduceLeDiff → yw,reduceLT → yv,reduceEqDiff → yu
open Int renaming reduceNeg → yq,reduceLE → yp,reduceEq → yj,reduceNe → yk,reduceToNat → yg,reducePow → yZ,reduceLT → yY,reduceAdd → yX,reduceSub → yW,reduceMul → yV,reduceBEq → yU,reduceBNe → yQ
set_option linter.all false
set_option maxRecDepth 100000
set_option maxHeartbeats 8000000

structure Th where
 st:Int
 pr:Int
 sl:Int
 qd:Bool
 pv:Int
 nx:Int
 bl:Int
 bg:Int
 cg:Bool
 ic:Bool
 bo:Int
 ha:Int
 fk:Int
 fa:Int
 rg:List Int
def Th.c (t:Th):List S:=.i .i64 t.st::.i .i64 t.pr::.i .i64 t.sl::.b t.qd::.i .i64 t.pv::.i .i64 t.nx::.i .i64 t.bl::.i .i64 t.bg::.b t.cg::.b t.ic::.i .i64 t.bo::.i .i64 t.ha::.i .i64 t.fk::.i .i64 t.fa::wc t.rg
def thF (f:Th->Res):List V->Res
 | [.agg (.i .i64 a::.i .i64 b::.i .i64 c::.b d::.i .i64 e::.i .i64 g::.i .i64 i::.i .i64 j::.b k::.b l::.i .i64 n::.i .i64 o::.i .i64 p::.i .i64 q::r)] =>
  match unwc r with
  | some v=>.ob (v.length=16) (f ⟨a,b,c,d,e,g,i,j,k,l,n,o,p,q,v⟩)
  | none=>.bad
 | _=>.bad
theorem thF_spec {f:Th->Res} {args:List V} {K:V->List Blk->Prop} (h:(thF f args).spec K):∃ t:Th,args=[.agg t.c]/\t.rg.length=16/\(f t).spec K:=by
 unfold thF at h
 split at h
 ·split at h
  ·rename_i v e
   obtain ⟨h1,h2⟩:=h
   exact ⟨⟨_,_,_,_,_,_,_,_,_,_,_,_,_,_,v⟩,by rw [wc_unwc e]; rfl,h1,h2⟩
  ·exact h.elim
 ·exact h.elim
theorem th_eta (t:Th):(⟨t.st,t.pr,t.sl,t.qd,t.pv,t.nx,t.bl,t.bg,t.cg,t.ic,t.bo,t.ha,t.fk,t.fa,t.rg⟩:Th)=t:=rfl
def Th.B (t:Th):Bool:=in3 t.pv 0 65535&&(in3 t.nx 0 65535&&(in3 t.bl 0 65535&&(in3 t.bo 0 65535&&(in3 t.st 0 5&&(in3 t.pr 0 255&&(in3 t.sl 0 5&&(in3 t.fk 0 3&&(in3 t.bg 0 268435455&&(in3 t.ha 0 4294967295&&in3 t.fa 0 4294967295)))))))))
theorem Th.B_iff {t:Th}:t.B=true↔(0<=t.pv/\t.pv<=65535)/\(0<=t.nx/\t.nx<=65535)/\(0<=t.bl/\t.bl<=65535)/\(0<=t.bo/\t.bo<=65535)/\(0<=t.st/\t.st<=5)/\(0<=t.pr/\t.pr<=255)/\(0<=t.sl/\t.sl<=5)/\(0<=t.fk/\t.fk<=3)/\(0<=t.bg/\t.bg<=268435455)/\(0<=t.ha/\t.ha<=4294967295)/\(0<=t.fa/\t.fa<=4294967295):=by
 simp only [Th.B,Bool.and_eq_true,in3_iff]
def Th.h0 (t:Th):Int:=t.st+8*t.pr+2048*t.sl+16384*bI t.qd+32768*bI t.cg+65536*bI t.ic+131072*t.fk
def Th.h1 (t:Th):Int:=t.pv+65536*t.nx+4294967296*t.bl+281474976710656*t.bo
def Th.h3 (t:Th):Int:=t.ha+4294967296*t.fa
theorem bI_u (b:Bool):0<=bI b/\bI b<=1:=by cases b<;>decide
theorem Th.h_u {t:Th} (h:t.B=true):u64 t.h0/\u64 t.h1/\u64 t.bg/\u64 t.h3:=by
 have:=Th.B_iff.1 h
 have b1:=bI_u t.qd
 have b2:=bI_u t.cg
 have b3:=bI_u t.ic
 simp only [u64,Th.h0,Th.h1,Th.h3]; omega
def thBG (args:List V) (h:List Blk):Res:=thF (fun t=>.ok (.s (.b t.B)) [] h) args
def thHG (args:List V) (h:List Blk):Res:=thF (fun t=>.ob (t.B=true) (.ok (.agg [.i .u64 t.h0, .i .u64 t.h1, .i .u64 t.bg, .i .u64 t.h3]) [] h)) args
theorem wc_take {L:List Int} (h:L.length=16):List.take 16 (wc L)=wc L:=by rw [List.take_of_length_le]; rw [wc_len]; omega
theorem thB_snd:Snd Tryz.prog 196 (FSpec.of thBG):=snd_run To3_snd mixed Tryz.func196 dc196 200 fun args h K hc hS=>by
 obtain ⟨t,rfl,hl,hR⟩:=thF_spec hS
 clear hS
 simp only [spec_ok,Th.B] at hR
 simp only [Th.c]
 have w1:=wc_known t.rg
 simp (maxSteps:=999999) only [EV0,zy,zx,zw,zv,zu,zq,zp,zj,zk,leT,zg,rvC,zZ,zY,zX,zW,↓zV,↓zU,reduceCtorEq,zQ,yz,yZ,yy,yx,yw,yv,yu,yq,yY,yp,yj,yk,yX,yW,yV,yg,yU,yQ,df196,To3,orinG,w1,Bool.and_assoc,sub,put,fillP,EVt]
 exact hR
def bitG:List V->List Blk->Res
 | [.s (.b q)],h=>.ok (.s (.i .u64 (bI q))) [] h
 | _,_=>.bad
theorem bit_snd:Snd Tryz.prog 201 (FSpec.of bitG):=snd_run (noT_snd _) mixed Tryz.func201 dc201 100 fun args h K hc hS=>by
 unfold bitG at hS
 split at hS
 ·rename_i q
  simp only [spec_ok,bI] at hS
  cases q
  ·simp (maxSteps:=999999) only [EV0,zy,zx,zw,zv,zu,zq,zp,zj,zk,leT,zg,rvC,zZ,zY,zX,zW,↓zV,↓zU,reduceCtorEq,zQ,yz,yZ,yy,yx,yw,yv,yu,yq,yY,yp,yj,yk,yX,yW,yV,yg,yU,yQ,df201]
   exact hS
  ·simp (maxSteps:=999999) only [EV0,zy,zx,zw,zv,zu,zq,zp,zj,zk,leT,zg,rvC,zZ,zY,zX,zW,↓zV,↓zU,reduceCtorEq,zQ,yz,yZ,yy,yx,yw,yv,yu,yq,yY,yp,yj,yk,yX,yW,yV,yg,yU,yQ,df201]
   exact hS
 ·exact hS.elim
noncomputable def To8:Tab:=addT 201 bitG (noT)
theorem To8_snd:To8.Snd Tryz.prog:=addT_snd ok201 bit_snd ((noT_snd _))
theorem thH_snd:Snd Tryz.prog 197 (FSpec.of thHG):=snd_run To8_snd mixed Tryz.func197 dc197 200 fun args h K hc hS=>by
 obtain ⟨t,rfl,hl,hB,hR⟩:=thF_spec hS
 clear hS
 have hb:=Th.B_iff.1 hB
 have b1:=bI_u t.qd
 have b2:=bI_u t.cg
 have b3:=bI_u t.ic
 simp only [spec_ok,Th.h0,Th.h1,Th.h3] at hR
 simp only [Th.c]
 have w1:=wc_known t.rg
 obtain ⟨q,hq⟩:∃ q,bI t.qd=q:=⟨_,rfl⟩
 obtain ⟨g,hg⟩:∃ q,bI t.cg=q:=⟨_,rfl⟩
 obtain ⟨i,hi⟩:∃ q,bI t.ic=q:=⟨_,rfl⟩
 rw [hq] at b1
 rw [hg] at b2
 rw [hi] at b3
 rw [hq,hg,hi] at hR
 have m3:min 3 IntKind.u64.bits=3:=rfl
 have m11:min 11 IntKind.u64.bits=11:=rfl
 have m14:min 14 IntKind.u64.bits=14:=rfl
 have m15:min 15 IntKind.u64.bits=15:=rfl
 have m16:min 16 IntKind.u64.bits=16:=rfl
 have m17:min 17 IntKind.u64.bits=17:=rfl
 have m32:min 32 IntKind.u64.bits=32:=rfl
 have m48:min 48 IntKind.u64.bits=48:=rfl
 have y1:IntKind.u64.wrap t.st=t.st:=wrapu (by omega) (by omega)
 have y2:IntKind.u64.wrap t.pr=t.pr:=wrapu (by omega) (by omega)
 have y3:IntKind.u64.wrap (t.pr*8)=t.pr*8:=wrapu (by omega) (by omega)
 have y4:IntKind.u64.wrap (t.st+t.pr*8)=t.st+t.pr*8:=wrapu (by omega) (by omega)
 have y5:IntKind.u64.wrap t.sl=t.sl:=wrapu (by omega) (by omega)
 have y6:IntKind.u64.wrap (t.sl*2048)=t.sl*2048:=wrapu (by omega) (by omega)
 have y7:IntKind.u64.wrap (t.st+t.pr*8+t.sl*2048)=t.st+t.pr*8+t.sl*2048:=wrapu (by omega) (by omega)
 have y8:IntKind.u64.wrap (q*16384)=q*16384:=wrapu (by omega) (by omega)
 have y9:IntKind.u64.wrap (t.st+t.pr*8+t.sl*2048+q*16384)=t.st+t.pr*8+t.sl*2048+q*16384:=wrapu (by omega) (by omega)
 have y10:IntKind.u64.wrap (g*32768)=g*32768:=wrapu (by omega) (by omega)
 have y11:IntKind.u64.wrap (t.st+t.pr*8+t.sl*2048+q*16384+g*32768)=t.st+t.pr*8+t.sl*2048+q*16384+g*32768:=wrapu (by omega) (by omega)
 have y12:IntKind.u64.wrap (i*65536)=i*65536:=wrapu (by omega) (by omega)
 have y13:IntKind.u64.wrap (t.st+t.pr*8+t.sl*2048+q*16384+g*32768+i*65536)=t.st+t.pr*8+t.sl*2048+q*16384+g*32768+i*65536:=wrapu (by omega) (by omega)
 have y14:IntKind.u64.wrap t.fk=t.fk:=wrapu (by omega) (by omega)
 have y15:IntKind.u64.wrap (t.fk*131072)=t.fk*131072:=wrapu (by omega) (by omega)
 have y16:IntKind.u64.wrap (t.st+t.pr*8+t.sl*2048+q*16384+g*32768+i*65536+t.fk*131072)=t.st+8*t.pr+2048*t.sl+16384*q+32768*g+65536*i+131072*t.fk:=by rw [wrapu (by omega) (by omega)]; omega
 have z1:IntKind.u64.wrap t.pv=t.pv:=wrapu (by omega) (by omega)
 have z2:IntKind.u64.wrap t.nx=t.nx:=wrapu (by omega) (by omega)
 have z3:IntKind.u64.wrap (t.nx*65536)=t.nx*65536:=wrapu (by omega) (by omega)
 have z4:IntKind.u64.wrap (t.pv+t.nx*65536)=t.pv+t.nx*65536:=wrapu (by omega) (by omega)
 have z5:IntKind.u64.wrap t.bl=t.bl:=wrapu (by omega) (by omega)
 have z6:IntKind.u64.wrap (t.bl*4294967296)=t.bl*4294967296:=wrapu (by omega) (by omega)
 have z7:IntKind.u64.wrap (t.pv+t.nx*65536+t.bl*4294967296)=t.pv+t.nx*65536+t.bl*4294967296:=wrapu (by omega) (by omega)
 have z8:IntKind.u64.wrap t.bo=t.bo:=wrapu (by omega) (by omega)
 have z9:IntKind.u64.wrap (t.bo*281474976710656)=t.bo*281474976710656:=wrapu (by omega) (by omega)
 have z10:IntKind.u64.wrap (t.pv+t.nx*65536+t.bl*4294967296+t.bo*281474976710656)=t.pv+65536*t.nx+4294967296*t.bl+281474976710656*t.bo:=by rw [wrapu (by omega) (by omega)]; omega
 have v1:IntKind.u64.wrap t.bg=t.bg:=wrapu (by omega) (by omega)
 have v2:IntKind.u64.wrap t.ha=t.ha:=wrapu (by omega) (by omega)
 have v3:IntKind.u64.wrap t.fa=t.fa:=wrapu (by omega) (by omega)
 have v4:IntKind.u64.wrap (t.fa*4294967296)=t.fa*4294967296:=wrapu (by omega) (by omega)
 have v5:IntKind.u64.wrap (t.ha+t.fa*4294967296)=t.ha+4294967296*t.fa:=by rw [wrapu (by omega) (by omega)]; omega
 simp (maxSteps:=999999) only [EV0,zy,zx,zw,zv,zu,zq,zp,zj,zk,leT,zg,rvC,zZ,zY,zX,zW,↓zV,↓zU,reduceCtorEq,zQ,yz,yZ,yy,yx,yw,yv,yu,yq,yY,yp,yj,yk,yX,yW,yV,yg,yU,yQ,df197,To8,bitG,w1,hq,hg,hi,m3,m11,m14,m15,m16,m17,m32,m48,y1,y2,y3,y4,y5,y6,y7,y8,y9,y10,y11,y12,y13,y14,y15,y16,z1,z2,z3,z4,z5,z6,z7,z8,z9,z10,v1,v2,v3,v4,v5,sub,put,fillP,EVt]
 exact hR
end Go.Proofs.YtcdfofeolgbnbaaGreat

