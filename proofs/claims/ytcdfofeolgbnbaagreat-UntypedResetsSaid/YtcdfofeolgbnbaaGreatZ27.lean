/- Law 15: where objects lie: each in what it was made of,all others apart; noughts above the mark. -/
import Derived.Test.YtcdfofeolgbnbaaGreatZ22
import Derived.Test.YtcdfofeolgbnbaaGreatZ11
import Derived.Test.YtcdfofeolgbnbaaGreatZ26
import Derived.Test.YtcdfofeolgbnbaaGreatZ25
/- Package objs: threads,the code's: plain. -/
namespace Go.Proofs.YtcdfofeolgbnbaaGreat
open Go.D
set_option linter.all false
set_option maxRecDepth 100000
set_option maxHeartbeats 8000000

theorem posB_iff {L:List Fi}:posB L=true↔∀ f,f∈L->0<=f.n:=by simp [posB]
theorem opB_iff {L:List Fi}:opB L=true↔(∀ f,f∈L->0<=f.n)/\packB (L.map Fi.fd) 0=true:=by
 simp only [opB,Bool.and_eq_true,posB_iff]
theorem fm_cons {p:Fi->Prop} {x:Fi} {L:List Fi}:(∀ f,f∈x::L->p f)↔p x/\∀ f,f∈L->p f:=by simp
theorem fm_nil {p:Fi->Prop}:(∀ f,f∈([]:List Fi)->p f)↔True:=by simp
def Th.l0 (t:Th):List Fi:=[⟨3,t.st⟩,⟨8,t.pr⟩,⟨3,t.sl⟩,⟨1,bI t.qd⟩,⟨1,bI t.cg⟩,⟨1,bI t.ic⟩,⟨2,t.fk⟩]
def Th.l1 (t:Th):List Fi:=[⟨16,t.pv⟩,⟨16,t.nx⟩,⟨16,t.bl⟩,⟨16,t.bo⟩]
def Th.l2 (t:Th):List Fi:=[⟨28,t.bg⟩]
def Th.l3 (t:Th):List Fi:=[⟨32,t.ha⟩,⟨32,t.fa⟩]
theorem bI_s (b:Bool):sml (bI b):=by have:=bI_u b; unfold sml; omega
section
variable {t:Th} (u:t.up)
include u
theorem l0_B:opB t.l0=true↔(0<=t.st/\t.st<8)/\(0<=t.pr/\t.pr<256)/\(0<=t.sl/\t.sl<8)/\(0<=t.fk/\t.fk<4):=by
 have b1:=bI_u t.qd
 have b2:=bI_u t.cg
 have b3:=bI_u t.ic
 have s1:=bI_s t.qd
 have s2:=bI_s t.cg
 have s3:=bI_s t.ic
 obtain ⟨q,hq⟩:∃ q,bI t.qd=q:=⟨_,rfl⟩
 obtain ⟨g,hg⟩:∃ q,bI t.cg=q:=⟨_,rfl⟩
 obtain ⟨i,hi⟩:∃ q,bI t.ic=q:=⟨_,rfl⟩
 simp only [Th.l0,hq,hg,hi] at *
 obtain ⟨v1,v2,v3,_,_,_,_,_,_,v4,_⟩:=u
 rw [opB_iff]
 simp only [fm_cons,fm_nil,and_true]
 constructor
 ·rintro ⟨⟨h1,h2,h3,h4,h5,h6,h7⟩,h⟩
  simp only [List.map_cons,List.map_nil,fd_eq ⟨h1,v1⟩,fd_eq ⟨h2,v2⟩,fd_eq ⟨h3,v3⟩,fd_eq ⟨h4,s1⟩,fd_eq ⟨h5,s2⟩,fd_eq ⟨h6,s3⟩,fd_eq ⟨h7,v4⟩,packB_cons,packB_nil,Int.reduceAdd,Int.reduceSub,Int.reduceLE,Int.reduceToNat,Nat.reducePow,and_true,true_and] at h
  omega
 ·rintro ⟨h1,h2,h3,h7⟩
  refine ⟨⟨h1.1,h2.1,h3.1,b1.1,b2.1,b3.1,h7.1⟩, ?_⟩
  simp only [List.map_cons,List.map_nil,fd_eq ⟨h1.1,v1⟩,fd_eq ⟨h2.1,v2⟩,fd_eq ⟨h3.1,v3⟩,fd_eq ⟨b1.1,s1⟩,fd_eq ⟨b2.1,s2⟩,fd_eq ⟨b3.1,s3⟩,fd_eq ⟨h7.1,v4⟩,packB_cons,packB_nil,Int.reduceAdd,Int.reduceSub,Int.reduceLE,Int.reduceToNat,Nat.reducePow,and_true,true_and]
  omega
theorem l0_V (h:opB t.l0=true):opV t.l0=t.h0:=by
 rw [opV,if_pos h]
 have h:=(l0_B u).1 h
 have b1:=bI_u t.qd
 have b2:=bI_u t.cg
 have b3:=bI_u t.ic
 have s1:=bI_s t.qd
 have s2:=bI_s t.cg
 have s3:=bI_s t.ic
 simp only [Th.l0,Th.h0]
 obtain ⟨v1,v2,v3,_,_,_,_,_,_,v4,_⟩:=u
 obtain ⟨h1,h2,h3,h7⟩:=h
 simp only [List.map_cons,List.map_nil,fd_eq ⟨h1.1,v1⟩,fd_eq ⟨h2.1,v2⟩,fd_eq ⟨h3.1,v3⟩,fd_eq ⟨b1.1,s1⟩,fd_eq ⟨b2.1,s2⟩,fd_eq ⟨b3.1,s3⟩,fd_eq ⟨h7.1,v4⟩,packV,Int.reduceAdd,Int.reduceToNat,Nat.reducePow]
 omega
theorem l1_B:opB t.l1=true↔(0<=t.pv/\t.pv<65536)/\(0<=t.nx/\t.nx<65536)/\(0<=t.bl/\t.bl<65536)/\(0<=t.bo/\t.bo<65536):=by
 obtain ⟨_,_,_,v1,v2,v3,_,v4,_⟩:=u
 rw [opB_iff]
 simp only [Th.l1,fm_cons,fm_nil,and_true]
 constructor
 ·rintro ⟨⟨h1,h2,h3,h4⟩,h⟩
  simp only [List.map_cons,List.map_nil,fd_eq ⟨h1,v1⟩,fd_eq ⟨h2,v2⟩,fd_eq ⟨h3,v3⟩,fd_eq ⟨h4,v4⟩,packB_cons,packB_nil,Int.reduceAdd,Int.reduceSub,Int.reduceLE,Int.reduceToNat,Nat.reducePow,and_true,true_and] at h
  omega
 ·rintro ⟨h1,h2,h3,h4⟩
  refine ⟨⟨h1.1,h2.1,h3.1,h4.1⟩, ?_⟩
  simp only [List.map_cons,List.map_nil,fd_eq ⟨h1.1,v1⟩,fd_eq ⟨h2.1,v2⟩,fd_eq ⟨h3.1,v3⟩,fd_eq ⟨h4.1,v4⟩,packB_cons,packB_nil,Int.reduceAdd,Int.reduceSub,Int.reduceLE,Int.reduceToNat,Nat.reducePow,and_true,true_and]
  omega
theorem l1_V (h:opB t.l1=true):opV t.l1=t.h1:=by
 rw [opV,if_pos h]
 have h:=(l1_B u).1 h
 simp only [Th.l1,Th.h1]
 obtain ⟨_,_,_,v1,v2,v3,_,v4,_⟩:=u
 obtain ⟨h1,h2,h3,h4⟩:=h
 simp only [List.map_cons,List.map_nil,fd_eq ⟨h1.1,v1⟩,fd_eq ⟨h2.1,v2⟩,fd_eq ⟨h3.1,v3⟩,fd_eq ⟨h4.1,v4⟩,packV,Int.reduceAdd,Int.reduceToNat,Nat.reducePow]
 omega
theorem l2_B:opB t.l2=true↔(0<=t.bg/\t.bg<268435456):=by
 obtain ⟨_,_,_,_,_,_,v1,_⟩:=u
 rw [opB_iff]
 simp only [Th.l2,fm_cons,fm_nil,and_true]
 constructor
 ·rintro ⟨h1,h⟩
  simp only [List.map_cons,List.map_nil,fd_eq ⟨h1,v1⟩,packB_cons,packB_nil,Int.reduceAdd,Int.reduceSub,Int.reduceLE,Int.reduceToNat,Nat.reducePow,and_true,true_and] at h
  omega
 ·rintro h1
  refine ⟨h1.1, ?_⟩
  simp only [List.map_cons,List.map_nil,fd_eq ⟨h1.1,v1⟩,packB_cons,packB_nil,Int.reduceAdd,Int.reduceSub,Int.reduceLE,Int.reduceToNat,Nat.reducePow,and_true,true_and]
  omega
theorem l2_V (h:opB t.l2=true):opV t.l2=t.bg:=by
 rw [opV,if_pos h]
 have h1:=(l2_B u).1 h
 simp only [Th.l2]
 obtain ⟨_,_,_,_,_,_,v1,_⟩:=u
 simp only [List.map_cons,List.map_nil,fd_eq ⟨h1.1,v1⟩,packV,Int.reduceAdd,Int.reduceToNat,Nat.reducePow]
 omega
theorem l3_B:opB t.l3=true↔(0<=t.ha/\t.ha<4294967296)/\(0<=t.fa/\t.fa<4294967296):=by
 obtain ⟨_,_,_,_,_,_,_,_,v1,_,v2⟩:=u
 rw [opB_iff]
 simp only [Th.l3,fm_cons,fm_nil,and_true]
 constructor
 ·rintro ⟨⟨h1,h2⟩,h⟩
  simp only [List.map_cons,List.map_nil,fd_eq ⟨h1,v1⟩,fd_eq ⟨h2,v2⟩,packB_cons,packB_nil,Int.reduceAdd,Int.reduceSub,Int.reduceLE,Int.reduceToNat,Nat.reducePow,and_true,true_and] at h
  omega
 ·rintro ⟨h1,h2⟩
  refine ⟨⟨h1.1,h2.1⟩, ?_⟩
  simp only [List.map_cons,List.map_nil,fd_eq ⟨h1.1,v1⟩,fd_eq ⟨h2.1,v2⟩,packB_cons,packB_nil,Int.reduceAdd,Int.reduceSub,Int.reduceLE,Int.reduceToNat,Nat.reducePow,and_true,true_and]
  omega
theorem l3_V (h:opB t.l3=true):opV t.l3=t.h3:=by
 rw [opV,if_pos h]
 have h:=(l3_B u).1 h
 simp only [Th.l3,Th.h3]
 obtain ⟨_,_,_,_,_,_,_,_,v1,_,v2⟩:=u
 obtain ⟨h1,h2⟩:=h
 simp only [List.map_cons,List.map_nil,fd_eq ⟨h1.1,v1⟩,fd_eq ⟨h2.1,v2⟩,packV,Int.reduceAdd,Int.reduceToNat,Nat.reducePow]
 omega
theorem th_pk:(opB t.l0&&(opB t.l1&&(opB t.l2&&(opB t.l3&&(decide (t.st<=5)&&decide (t.sl<=5))))))=t.B:=by
 rw [Bool.eq_iff_iff,Th.B_iff]
 simp only [Bool.and_eq_true,decide_eq_true_eq,l0_B u,l1_B u,l2_B u,l3_B u]
 constructor
 ·rintro ⟨⟨h1,h2,h3,h4⟩,⟨g1,g2,g3,g4⟩,k1,⟨j1,j2⟩,i1,i2⟩
  refine ⟨⟨?_, ?_⟩,⟨?_, ?_⟩,⟨?_, ?_⟩,⟨?_, ?_⟩,⟨?_, ?_⟩,⟨?_, ?_⟩,⟨?_, ?_⟩,⟨?_, ?_⟩,⟨?_, ?_⟩,⟨?_, ?_⟩,⟨?_, ?_⟩⟩<;>omega
 ·rintro ⟨g1,g2,g3,g4,h1,h2,h3,h4,k1,j1,j2⟩
  refine ⟨⟨⟨?_, ?_⟩,⟨?_, ?_⟩,⟨?_, ?_⟩, ?_, ?_⟩,⟨⟨?_, ?_⟩,⟨?_, ?_⟩,⟨?_, ?_⟩, ?_, ?_⟩,⟨?_, ?_⟩,⟨⟨?_, ?_⟩, ?_, ?_⟩, ?_, ?_⟩<;>omega
theorem th_hd (hB:t.B=true):opV t.l0=t.h0/\opV t.l1=t.h1/\opV t.l2=t.bg/\opV t.l3=t.h3:=by
 have:=th_pk u
 rw [hB] at this
 simp only [Bool.and_eq_true] at this
 exact ⟨l0_V u this.1,l1_V u this.2.1,l2_V u this.2.2.1,l3_V u this.2.2.2.1⟩
end
/-! ### fields of a thread's words -/

def thCG (args:List V) (h:List Blk):Res:=thF (fun t=>.ob t.up (.ok (.tup [.agg [.i .u64 (opV t.l0), .i .u64 (opV t.l1), .i .u64 (opV t.l2), .i .u64 (opV t.l3)], .s (.b t.B)]) [] h)) args
noncomputable def ToH:Tab:=addT 199 flagG (addT 198 opackG (noT))
theorem ToH_snd:ToH.Snd Tryz.prog:=addT_snd ok199 flag_snd (addT_snd ok198 opack_snd ((noT_snd _)))
theorem thC_snd:Snd Tryz.prog 184 (FSpec.of thCG):=snd_run ToH_snd mixed Tryz.func184 dc184 300 fun args h K hc hS=>by
 obtain ⟨t,rfl,hrl,hup,hR⟩:=thF_spec hS
 clear hS
 have hpk:=th_pk hup
 simp only [spec_ok,<-hpk] at hR
 simp only [Th.c]
 have k1:=wc_known t.rg
 have k2:(wc t.rg).all S.noL=true:=wc_all (fun _=>rfl) _
 have k3:(wc t.rg).length=16:=by rw [wc_len,hrl]
 obtain ⟨q,hq⟩:∃ q,fI t.qd=q:=⟨_,rfl⟩
 obtain ⟨g,hg⟩:∃ q,fI t.cg=q:=⟨_,rfl⟩
 obtain ⟨i,hi⟩:∃ q,fI t.ic=q:=⟨_,rfl⟩
 have e0:t.l0=[⟨3,t.st⟩,⟨8,t.pr⟩,⟨3,t.sl⟩,⟨1,q⟩,⟨1,g⟩,⟨1,i⟩,⟨2,t.fk⟩]:=by rw [<-hq,<-hg,<-hi]; rfl
 have e1:t.l1=[⟨16,t.pv⟩,⟨16,t.nx⟩,⟨16,t.bl⟩,⟨16,t.bo⟩]:=rfl
 have e2:t.l2=[⟨28,t.bg⟩]:=rfl
 have e3:t.l3=[⟨32,t.ha⟩,⟨32,t.fa⟩]:=rfl

 have a0:∀ (hh:List Blk) (r0 r1 r2 r3:Blk) (room:Nat),arrOf Fi.c (hh++[r0,r1,r2,r3,⟨.rw,[.i .i64 3, .i .i64 t.st, .i .i64 8, .i .i64 t.pr, .i .i64 3, .i .i64 t.sl, .i .i64 1, .i .i64 q, .i .i64 1, .i .i64 g, .i .i64 1, .i .i64 i, .i .i64 2, .i .i64 t.fk],room⟩]) (.sl (.g (hh.length+4)) 0 7 7)=some [⟨3,t.st⟩,⟨8,t.pr⟩,⟨3,t.sl⟩,⟨1,q⟩,⟨1,g⟩,⟨1,i⟩,⟨2,t.fk⟩]:=fun hh r0 r1 r2 r3 room=>fi_lent (L:=[⟨3,t.st⟩,⟨8,t.pr⟩,⟨3,t.sl⟩,⟨1,q⟩,⟨1,g⟩,⟨1,i⟩,⟨2,t.fk⟩]) rfl rfl (by simp only [List.length_cons]; omega)
 have a1:∀ (hh:List Blk) (r0 r1 r2 r3 r4:Blk) (room:Nat),arrOf Fi.c (hh++[r0,r1,r2,r3,r4,⟨.rw,[.i .i64 16, .i .i64 t.pv, .i .i64 16, .i .i64 t.nx, .i .i64 16, .i .i64 t.bl, .i .i64 16, .i .i64 t.bo],room⟩]) (.sl (.g (hh.length+5)) 0 4 4)=some [⟨16,t.pv⟩,⟨16,t.nx⟩,⟨16,t.bl⟩,⟨16,t.bo⟩]:=fun hh r0 r1 r2 r3 r4 room=>fi_lent (L:=[⟨16,t.pv⟩,⟨16,t.nx⟩,⟨16,t.bl⟩,⟨16,t.bo⟩]) rfl rfl (by simp only [List.length_cons]; omega)
 have a2:∀ (hh:List Blk) (r0 r1 r2 r3 r4 r5:Blk) (room:Nat),arrOf Fi.c (hh++[r0,r1,r2,r3,r4,r5,⟨.rw,[.i .i64 28, .i .i64 t.bg],room⟩]) (.sl (.g (hh.length+6)) 0 1 1)=some [⟨28,t.bg⟩]:=fun hh r0 r1 r2 r3 r4 r5 room=>fi_lent (L:=[⟨28,t.bg⟩]) rfl rfl (by simp only [List.length_cons]; omega)
 have a3:∀ (hh:List Blk) (r0 r1 r2 r3 r4 r5 r6:Blk) (room:Nat),arrOf Fi.c (hh++[r0,r1,r2,r3,r4,r5,r6,⟨.rw,[.i .i64 32, .i .i64 t.ha, .i .i64 32, .i .i64 t.fa],room⟩]) (.sl (.g (hh.length+7)) 0 2 2)=some [⟨32,t.ha⟩,⟨32,t.fa⟩]:=fun hh r0 r1 r2 r3 r4 r5 r6 room=>fi_lent (L:=[⟨32,t.ha⟩,⟨32,t.fa⟩]) rfl rfl (by simp only [List.length_cons]; omega)
 obtain ⟨o0,p0⟩:∃ v,opB t.l0=v:=⟨_,rfl⟩
 obtain ⟨v0,s0⟩:∃ v,opV t.l0=v:=⟨_,rfl⟩
 obtain ⟨o1,p1⟩:∃ v,opB t.l1=v:=⟨_,rfl⟩
 obtain ⟨v1,s1⟩:∃ v,opV t.l1=v:=⟨_,rfl⟩
 obtain ⟨o2,p2⟩:∃ v,opB t.l2=v:=⟨_,rfl⟩
 obtain ⟨v2,s2⟩:∃ v,opV t.l2=v:=⟨_,rfl⟩
 obtain ⟨o3,p3⟩:∃ v,opB t.l3=v:=⟨_,rfl⟩
 obtain ⟨v3,s3⟩:∃ v,opV t.l3=v:=⟨_,rfl⟩
 rw [p0,p1,p2,p3,s0,s1,s2,s3] at hR
 rw [e0] at p0 s0
 rw [e1] at p1 s1
 rw [e2] at p2 s2
 rw [e3] at p3 s3
 clear hpk
 simp (maxSteps:=999999) only [go_sem,simprocAttr,↓qT,↓qF,df184,ToH,flagG,opackG,hq,hg,hi,k1,k2,k3,wc_take hrl,R.lend,R.unlend,S_ren,C.ren,V.ren,app_taken,app_dropn,app_take0,app_drop0,List.take_succ_cons,List.take_zero,List.drop_succ_cons,List.drop_zero,Nat.not_lt_zero,Nat.lt_irrefl,Nat.add_sub_cancel_left,Nat.not_lt,Nat.le_add_right,nnn,nl0,app_len,a0,a1,a2,a3,p0,p1,p2,p3,s0,s1,s2,s3,hc,Blk.ren,List.map_cons,List.map_nil,Bool.and_assoc,put,fillP,sub,EVt]
 refine ⟨?_, ?_⟩
 ·rintro ⟨rfl,rfl,rfl,rfl⟩
  refine ⟨fun c1 c _=>?_,fun c1 c _=>?_⟩
  ·simpa only [Bool.true_and,c1,decide_true] using hR
  ·simpa only [Bool.true_and,c1,decide_false,Bool.false_and] using hR
 ·intro c1 c _
  have:(o0&&(o1&&(o2&&(o3&&(decide (t.st<=5)&&decide (t.sl<=5))))))=false:=by
   rw [Bool.eq_false_iff]
   intro e
   simp only [Bool.and_eq_true] at e
   exact c1 ⟨e.1,e.2.1,e.2.2.1,e.2.2.2.1⟩
  rwa [this] at hR
/-! ### Thread -/
noncomputable def ToT:Tab:=addT 183 otG (addT 86 readG (addT 141 writeG (addT 184 thCG (noT))))
theorem ToT_snd:ToT.Snd Tryz.prog:=addT_snd ok183 ot_snd (addT_snd ok86 mread_snd (addT_snd ok141 mwrite_snd (addT_snd ok184 thC_snd ((noT_snd _)))))

theorem tset_snd':Snd Tryz.prog 137 (FSpec.of tsetG):=snd_run ToT_snd mixed Tryz.func137 dc137 300 fun args h K hc hS=>by
 obtain ⟨a,b,m,rest,rfl,H,hS1⟩:=memF_spec hS
 clear hS
 have hS:=hS1
 clear hS1
 unfold tsetM at hS
 split at hS
 ·rename_i x y
  obtain ⟨t,e,hrl,⟨hup,hru⟩,hR⟩:=thF_spec hS
  clear hS
  simp only [List.cons.injEq,and_true] at e
  subst e
  simp only [spec_ok,M.thE,M.thX] at hR
  have n4:(0:Int)<64/\(64:Int)<=64:=by decide
  have k1:=wc_known t.rg
  have k2:(wc t.rg).all S.noL=true:=wc_all (fun _=>rfl) _
  have k3:(wc t.rg).length=16:=by rw [wc_len,hrl]
  simp only [Th.c]
  cases ht:otB m x 64 with
  | false =>
   simp only [ht,Bool.false_and,Bool.false_eq_true,if_false,setM_self H] at hR
   simp (maxSteps:=999999) only [go_sem,simprocAttr,↓qT,↓qF,df137,ToT,otG,memF_eq H,otM,n4,setM_self H,ht,k1,k2]
   exact hR
  | true =>
   have hb:=otB_iff.1 ht
   have hl:=m.l
   cases hB:t.B with
   | false =>
    simp only [ht,hB,Bool.true_and,Bool.false_eq_true,if_true,if_false,setM_self H] at hR
    simp (maxSteps:=999999) only [go_sem,simprocAttr,↓qT,↓qF,df137,ToT,otG,memF_eq H,otM,n4,setM_self H,ht,k1,k2,k3,thCG,thF,unwc_wc,hrl,th_eta,hup,hB,wc_take hrl,put,fillP,sub,EVt]
    exact hR
   | true =>
    simp only [ht,hB,Bool.true_and,if_true] at hR
    obtain ⟨i,rfl⟩:∃ i:Nat,x=i:=⟨x.toNat,by omega⟩
    obtain ⟨o,ho⟩:∃ o,i+16=o:=⟨_,rfl⟩
    obtain ⟨o2,ho2⟩:∃ o,i+32=o:=⟨_,rfl⟩
    have e1:IntKind.i64.wrap ((i:Int)+16)=(o:Int):=by rw [wrap64 (by omega) (by omega)]; omega
    have e2:IntKind.i64.wrap ((i:Int)+32)=(o2:Int):=by rw [wrap64 (by omega) (by omega)]; omega
    rw [show ((i:Int)+16).toNat=o by omega,show ((i:Int)+32).toNat=o2 by omega] at hR
    obtain ⟨u0,u1,u2,u3⟩:=Th.h_u hB
    obtain ⟨g0,g1,g2,g3⟩:=th_hd hup hB
    obtain ⟨ws,hws⟩:∃ ws,[t.h0,t.h1,t.bg,t.h3]=ws:=⟨_,rfl⟩
    have hwl:ws.length=4:=by rw [<-hws]; rfl
    have hwu:∀ v,v∈ws->u64 v:=by
     rw [<-hws]
     intro v hv
     simp only [List.mem_cons,List.not_mem_nil,or_false] at hv
     rcases hv with rfl|rfl|rfl|rfl<;>assumption
    have hwc:[S.i .u64 t.h0,S.i .u64 t.h1,S.i .u64 t.bg,S.i .u64 t.h3]=wc ws:=by rw [<-hws]; rfl
    rw [hws] at hR
    simp (maxSteps:=999999) only [go_sem,simprocAttr,↓qT,↓qF,df137,ToT,otG,memF_eq H,otM,n4,setM_self H,ht,k1,k2,k3,thCG,thF,unwc_wc,hrl,th_eta,hup,hB,g0,g1,g2,g3,wc_take hrl,put,fillP,sub,EVt]
    refine loop_rule (α:=Nat) [9,10,25,26,27,28,29,30,31,32,33,34,35,36] (fun q=>[(24, .agg (wc ws)),(25, .s (.i .i64 q))]) (fun q=>[⟨.rw,t.c,30⟩,⟨.rw,wc ws,4⟩]) (fun q=>setM h a b (m.wrs o ws q)) (fun q=>q<=4) (fun q=>4-q) 0 (by omega) ?_ ?_
    ·rw [M.wrs,setM_self H,<-hwc]
     refine Wk.same rfl rfl ?_
     simp (maxSteps:=999999) only [go_sem,simprocAttr,↓qT,↓qF,Int.natCast_zero]
    ·rintro X q hq IH
     rcases Nat.lt_or_ge q 4 with h1|h1
     ·have d1:((q:Int)<4):=by omega
      have d3:(0:Int)<=q:=by omega
      have d4:IntKind.i64.wrap ((q:Int)+1)=((q+1:Nat):Int):=by rw [wrap64 (by omega) (by omega)]; omega
      have w1:IntKind.i64.wrap ((o:Int)+q)=((o+q:Nat):Int):=by rw [wrap64 (by omega) (by omega)]; omega
      have h0:m.has ((o+q:Nat):Int) 1=true:=M.has_of (by omega)
      have g:=wc_get (w:=ws) (i:=q) (by omega)
      have hu:u64 (nth 0 ws q):=by rw [nth_eq (by omega)]; exact hwu _ (List.getElem_mem _)
      have j1:(wc ws).length=4:=by rw [wc_len,hwl]
      refine run_sound (Tab.ok_Γ _) 100 _ _ _ _ ?_
      simp (maxSteps:=999999) only [go_sem,simprocAttr,↓qT,↓qF,ToT,e1,d1,d3,d4,w1,writeG,memF_set H,writeM,M.wrs_has,h0,h1,g,hu,j1,Int.toNat_natCast,wc_known]
      exact IH (q+1) _ (by omega) (by omega) (Wk.same rfl rfl (by simp only [go_sem,simprocAttr,↓qT,↓qF]))
     ·have:q=4:=by omega
      subst this
      clear IH
      simp only [Th.c]
      refine run_sound (Tab.ok_Γ _) 100 _ _ _ _ ?_
      simp (maxSteps:=999999) only [go_sem,simprocAttr,↓qT,↓qF,Int.lt_irrefl,k1,k2,k3,wc_take hrl,sub,EVt,List.drop_succ_cons]
      refine loop_rule (α:=Nat) [11,12,39,40,41,42,43,44,45,46,47,48,49,50] (fun q=>[(38, .agg (wc t.rg)),(39, .s (.i .i64 q))]) (fun q=>[⟨.rw,t.c,30⟩,⟨.rw,wc ws,4⟩]) (fun q=>setM h a b ((m.wrs o ws 4).wrs o2 t.rg q)) (fun q=>q<=16) (fun q=>16-q) 0 (by omega) ?_ ?_
      ·refine Wk.same rfl rfl ?_
       simp (maxSteps:=999999) only [go_sem,simprocAttr,↓qT,↓qF,Int.natCast_zero]
      ·rintro X q hq IH
       rcases Nat.lt_or_ge q 16 with h1|h1
       ·have d1:((q:Int)<16):=by omega
        have d3:(0:Int)<=q:=by omega
        have d4:IntKind.i64.wrap ((q:Int)+1)=((q+1:Nat):Int):=by rw [wrap64 (by omega) (by omega)]; omega
        have w1:IntKind.i64.wrap ((o2:Int)+q)=((o2+q:Nat):Int):=by rw [wrap64 (by omega) (by omega)]; omega
        have h0:m.has ((o2+q:Nat):Int) 1=true:=M.has_of (by omega)
        have g:=wc_get (w:=t.rg) (i:=q) (by omega)
        have hu:u64 (nth 0 t.rg q):=by rw [nth_eq (by omega)]; exact hru _ (List.getElem_mem _)
        refine run_sound (Tab.ok_Γ _) 100 _ _ _ _ ?_
        simp (maxSteps:=999999) only [go_sem,simprocAttr,↓qT,↓qF,ToT,e2,d1,d3,d4,w1,writeG,memF_set H,writeM,M.wrs_has,h0,h1,g,hu,k1,k3,Int.toNat_natCast]
        exact IH (q+1) _ (by omega) (by omega) (Wk.same rfl rfl (by simp only [go_sem,simprocAttr,↓qT,↓qF]))
       ·have:q=16:=by omega
        subst this
        clear IH
        refine run_sound (Tab.ok_Γ _) 100 _ _ _ _ ?_
        simp (maxSteps:=999999) only [go_sem,simprocAttr,↓qT,↓qF,Int.lt_irrefl]
        exact hR
 ·exact hS.elim
end Go.Proofs.YtcdfofeolgbnbaaGreat

/- Package untyped: a thread laid; Reset of both without branches. -/
namespace Go.Proofs.YtcdfofeolgbnbaaGreat
open Go.D
set_option linter.all false
set_option maxRecDepth 100000
set_option maxHeartbeats 1000000

noncomputable def TUt:Tab:=addT 137 tsetG (noT)
theorem TUt_snd:TUt.Snd Tryz.prog:=addT_snd ok137 tset_snd' ((noT_snd _))
theorem pt_snd:Snd Tryz.prog 72 (FSpec.of st9G):=snd_run TUt_snd mixed Tryz.func72 dc72 200 fun args h K hc hS=>by
 obtain ⟨a,b,m,rest,rfl,H,hS1⟩:=memF_spec hS
 clear hS
 have hS:=hS1
 clear hS1
 unfold st9M at hS
 split at hS
 ·rename_i a' x
  obtain ⟨t,e,hl,hS2⟩:=thF_spec hS
  simp only [List.cons.injEq,and_true] at e
  subst e
  clear hS
  obtain ⟨hu,hS⟩:=hS2
  simp only [spec_ok] at hS
  have hcl:t.c.length=30:=by simp [Th.c,wc_len,hl]
  have hk:known t.c=true:=by simp only [Th.c,known_cons,known_nil,wc_known,Bool.and_true,S_known,V.known]
  have hnl:t.c.all S.noL=true:=by simp [Th.c,S.noL]; exact fun x hx=>by obtain ⟨y,_,rfl⟩:=List.mem_map.1 hx; rfl
  have hsub:sub t.c 0 30=t.c:=by rw [<-hcl]; simp [sub]
  have hF:∀ f:Th->Res,thF f [.agg t.c]=.ob (t.rg.length=16) (f t):=fun f=>by simp only [thF,Th.c,unwc_wc,th_eta]
  simp (maxSteps:=999999) only [go_sem,simprocAttr,↓qT,↓qF,df72,TUt,tsetG,memF_eq H,tsetM,hF,hl,hcl,hk,hnl,hsub,hu,put,fillP,EVt]
  exact ⟨hu.2,hS⟩
 ·exact hS.elim
def thT:Th:=⟨0,0,5,false,0,0,0,0,false,false,0,0,0,0,List.replicate 16 0⟩
theorem thT_F (f:Th->Res):thF f [.agg [.i .i64 0, .i .i64 0, .i .i64 5, .b false, .i .i64 0, .i .i64 0, .i .i64 0, .i .i64 0, .b false, .b false, .i .i64 0, .i .i64 0, .i .i64 0, .i .i64 0, .i .u64 0, .i .u64 0, .i .u64 0, .i .u64 0, .i .u64 0, .i .u64 0, .i .u64 0, .i .u64 0, .i .u64 0, .i .u64 0, .i .u64 0, .i .u64 0, .i .u64 0, .i .u64 0, .i .u64 0, .i .u64 0]]=.ob (16=16) (f thT):=rfl
theorem thT_up:thT.up/\∀ v,v∈thT.rg->u64 v:=by
 refine ⟨by unfold Th.up thT sml; decide,fun v hv=>?_⟩
 have:v=0:=by simpa [thT] using hv
 subst this
 exact u64_0

def rstV (m:M) (x:Int) (u:Option Int):M×Option Int×Int :=
 if (m.gV x).cap.ty=1 then (if (m.gX x).nxV x=0 then rsW x (m.gV x).cap.mark.toNat ((m.gX x).nxX x) (m.gV x).cap u else ((m.gX x).nxX x,u,152)) else (m.gX x,u,60)
theorem rstR_spec {m:M} {x:Int} {u:Option Int} {st:M->Option Int->List Blk} {K:V->List Blk->Prop} (h:K (.s (.i .i64 (rstV m x u).2.2)) (st (rstV m x u).1 (rstV m x u).2.1)):(rstR m x u st).spec K:=by
 unfold rstV at h
 simp only [rstR,spec_br,spec_ok,decide_eq_true_eq,decide_eq_false_iff_not]
 refine ⟨fun h1=>⟨fun h2=>?_,fun h2=>?_⟩,fun h1=>?_⟩
 ·simp only [h1,h2,if_true] at h
  exact h
 ·simp only [h1,h2,if_true,if_false] at h
  exact h
 ·simp only [h1,if_false] at h
  exact h
def rstM2 (b:Nat) (m:M) (st:M->List Blk):List V->Res
 | [.s (.i .i64 x), .s .np]=>.ok (.s (.i .i64 (rstV m x none).2.2)) [] (st (rstV m x none).1)
 | [.s (.i .i64 x), .s (.p (.g d) 0)]=>match (st m)[d]? with
  | some ⟨.rw,[.i .i64 u],1⟩=>.ob (i64 u) (.ok (.s (.i .i64 (rstV m x (some u)).2.2)) [] ((st (rstV m x (some u)).1).set d (uB ((rstV m x (some u)).2.1.getD 0))))
  | _=>.bad
 | _=>.bad
noncomputable def rstG2:=memF rstM2
theorem rst_snd2:Snd Tryz.prog 27 (FSpec.of rstG2):=rst_snd.weaken fun args h K hc hS=>by
 obtain ⟨a,b,m,rest,rfl,H,hS⟩:=memF_spec (f:=rstM2) hS
 show Res.spec K (rstG _ _)
 unfold rstG
 rw [memF_eq H]
 unfold rstM2 at hS
 unfold rstM
 split at hS
 ·simp only
  exact rstR_spec hS
 ·simp only
  split at hS
  ·rename_i hd
   rw [hd]
   simp only [spec_ob] at hS ⊢
   exact ⟨hS.1,rstR_spec hS.2⟩
  ·exact hS.elim
 ·exact hS.elim

def rtK (k:Int) (m:M) (a:Int):M:=if k=3 then m.thX a thT else m
def rtF (k b:Int):Nat->Int->Int->Bool
 | 0,_,_=>true
 | r+1,a,t=>fitB (frC k b a) t&&rtF k b r (a+hszV k b) (t+4)
def rtL (f:M->Int->Int->Cap->M) (k b x:Int):Nat->M->Int->Int->M
 | 0,m,_,_=>m
 | r+1,m,a,t=>rtL f k b x r (f (rtK k m a) x t (frC k b a)) (a+hszV k b) (t+4)
def Cap.mk' (c:Cap) (z:Int):Cap:=⟨c.ty,c.obj,c.bits,z,c.guard,c.gbits,c.badge,c.rights,c.asid,c.vaddr,c.line⟩
def rtM (f:M->Int->Int->Cap->M) (m:M) (x k b:Int) (nd:Cap) (i n:Int) (c:Cap):M×Int :=
 if (roV c k b n).2=0 then
  (if rtF k b n.toNat (roV c k b n).1 (nd.obj+4*i)=true then (rtL f k b x n.toNat (m.scX x (c.mk' ((roV c k b n).1+n*hszV k b-c.obj))) (roV c k b n).1 (nd.obj+4*i),0) else (m,122))
 else (m,(roV c k b n).2)
def rtV (f:M->Int->Int->Cap->M) (m:M) (x k b:Int) (nd:Cap) (i n:Int) (u:Option Int):M×Option Int×Int :=
 let c:=(m.gV x).cap
 let q:=askV (m.gX x) c k b nd i n
 if q.1=0 then
  (if q.2.nxV x=0 then
   let s:=rstV (q.2.nxX x) x u
   if s.2.2=0 then ((rtM f (s.1.gX x) x k b nd i n (s.1.gV x).cap).1,s.2.1,(rtM f (s.1.gX x) x k b nd i n (s.1.gV x).cap).2) else s
  else ((rtM f (q.2.nxX x) x k b nd i n c).1,u,(rtM f (q.2.nxX x) x k b nd i n c).2))
 else (q.2,u,q.1)
theorem ask_ok {m:M} {c:Cap} {k b:Int} {nd:Cap} {i n:Int} (h:(askV m c k b nd i n).1=0):c.ty=1/\knE k b n=0/\nd.ty=2/\0<=i/\i<slotsN nd/\n<=slotsN nd-i:=by
 unfold askV at h
 split at h
 ·rename_i h1
  split at h
  ·rename_i h2
   split at h
   ·rename_i h3
    exact ⟨h1,h2,h3⟩
   ·cases h
  ·rename_i h2
   exact absurd h h2
 ·cases h
theorem ro_ok {c:Cap} {k b n:Int} (h:(roV c k b n).2=0):utB c/\knE k b n=0/\(roV c k b n).1=upV (c.obj+c.mark) (hszV k b)/\upV (c.obj+c.mark) (hszV k b)+n*hszV k b<=c.obj+2^c.bits.toNat:=by
 unfold roV at h ⊢
 split at h
 ·rename_i h1
  split at h
  ·rename_i h2
   split at h
   ·cases h
   ·rename_i h3
    simp only [h1,h2,h3,if_true,if_false]
    exact ⟨trivial,trivial,trivial,by omega⟩
  ·rename_i h2
   exact absurd h h2
 ·cases h
end Go.Proofs.YtcdfofeolgbnbaaGreat

/- Law 15: the memories that acts make of the plan's: a list that is a forest,of places that stay; each act by both. -/
namespace Go.Proofs.YtcdfofeolgbnbaaGreat
open Go.D
set_option linter.all false
set_option maxRecDepth 100000
set_option maxHeartbeats 4000000

def P15 (x:Int):Prop:=x=32\/x=36\/x=40\/x=44\/x=1024\/x=1088\/x=1152\/x=1216\/(2048<=x/\x<3120/\x%4=0)
instance (x:Int):Decidable (P15 x):=by unfold P15; infer_instance
structure UI (m:M) (L:List Int):Prop where
 inv:m.Inv P15 L
 sub:∀ x,x∈L->P15 x
 z:∀ x,P15 x->x∉L->m.gV x=slotZ
 dep:dep m.D (-1) L
 len:m.w.length=8192
theorem dep_le {D:Int->Int}:∀ {L:List Int} {d:Int} {x:Int},dep D d L->x∈L->D x<=d+L.length
 | y::L,d,x,⟨h1,h2⟩,h=>by
  simp only [List.length_cons]
  rcases List.mem_cons.1 h with rfl|h
  ·omega
  ·have:=dep_le h2 h
   omega
section
variable {m r:M} {L:List Int}
theorem UI.of_w {m':M} (D:UI m L) (e:m'.w=m.w):UI m' L :=
 ⟨D.inv.of_w e,D.sub,fun x h1 h2=>by rw [gV_w e]; exact D.z x h1 h2,by rw [D_w e]; exact D.dep,by rw [e]; exact D.len⟩
theorem UI.dep_lt (D:UI m L) {x:Int} (h:x∈L):(m.gV x).depth≠65535:=by
 have h1:=dep_le D.dep h
 have h2:=D.inv.llen
 rw [D.len] at h2
 unfold M.D at h1
 omega
theorem UI.gE (D:UI m L) {x:Int} (h:P15 x):m.gE x=0:=(D.inv.out x h).1
theorem UI.em (D:UI m L) {x:Int} (h:P15 x):(m.gV x).cap.ty=0↔x∉L:=by
 constructor
 ·intro e hx
  exact (D.inv.gE hx).2 e
 ·intro hx
  rw [D.z x h hx]; rfl
theorem UI.n0 (D:UI m L) {x:Int} (h:P15 x):x≠0:=there_ne0 (gE_there (D.gE h)).1
theorem UI.l0 (D:UI m L) {x:Int} (h:x∈L):x≠0:=fun e=>D.inv.no0 (e ▸ h)
theorem UI.lay {m r:M} {L:List Int} (D:UI m L) (hw:r.w=m.w) {p a:Int} (hp:p=0\/p∈L) (haP:P15 a) (haL:a∉L) {c:Cap} (hc:c.ty≠0) (hr:slotRB ⟨c,0,0,0⟩=true) :
  (r.rlayX p a c).w=(m.layX p a c).w/\UI (m.layX p a c) (insLL p a L)/\(∀ x,(m.layX p a c).gE x=m.gE x)/\(m.layX p a c).fst=m.insF p a /\
  (∀ x,x≠0->(m.layX p a c).gV x=jnV (fun x=>if x=a then ⟨c,p,m.nx p,if p=0 then 0 else (m.gV p).depth+1⟩ else m.gV x) p a (m.nx p) x)/\M.Fr m (m.layX p a c):=by
 have hga:=D.gE haP
 have hta:=(gE_there hga).1
 have a0:=D.n0 haP
 have key:∀ m':M,m'.w=m.w->m.To (m'.pX a ⟨c,0,0,0⟩) (fun x=>if x=a then ⟨c,0,0,0⟩ else m.gV x) m.fst:=fun m' hw'=>((M.To.refl m).of_w hw').pX hga hr
 have hI:∀ m':M,m'.w=m.w->(m'.pX a ⟨c,0,0,0⟩).Inv P15 L:=fun m' hw'=>by
  refine D.inv.to (key m' hw') D.inv.nd (fun x hx=>?_) (chain_congr (fun x hx=>?_) D.inv.ch) D.inv.fst fun x hx hn=>?_
  ·have:x≠a:=fun e=>haL (e ▸ hx)
   simp only [if_neg this]
   exact D.inv.gE hx
  ·have:x≠a:=fun e=>haL (e ▸ hx)
   simp only [if_neg this,and_self]
  ·by_cases e:x=a
   ·simp only [e,if_true,and_self]
   ·simp only [if_neg e]
    rw [D.z x hx hn]
    exact ⟨rfl,rfl,rfl⟩
 have hV:∀ m':M,m'.w=m.w->∀ x,x≠0->(m'.pX a ⟨c,0,0,0⟩).gV x=if x=a then ⟨c,0,0,0⟩ else m.gV x:=fun m' hw' x hx=>(key m' hw').V x hx
 have hfE:∀ m':M,m'.w=m.w->(m'.pX a ⟨c,0,0,0⟩).fE a=0:=fun m' hw'=>(key m' hw').full hga (by simp only [if_true]; exact hc)
 have hp2:∀ m':M,m'.w=m.w->p=0\/(p∈L/\((m'.pX a ⟨c,0,0,0⟩).gV p).depth≠65535):=fun m' hw'=>hp.imp id fun h=>by
  have h1:p≠a:=fun e=>haL (e ▸ h)
  have h0:p≠0:=fun e=>D.inv.no0 (e ▸ h)
  rw [hV m' hw' p h0,if_neg h1]
  exact ⟨h,D.dep_lt h⟩
 obtain ⟨_,T1⟩:=(hI m rfl).ins_to haP (hfE m rfl) haL (hp2 m rfl)
 obtain ⟨_,T2⟩:=(hI r hw).rins_to haP (hfE r hw) haL (hp2 r hw)
 have ewa:(r.pX a ⟨c,0,0,0⟩).w=(m.pX a ⟨c,0,0,0⟩).w:=((key m rfl).det (key r hw) rfl (fun _ _=>rfl) rfl D.inv.len.2 D.inv.two).symm
 have hnx:(m.pX a ⟨c,0,0,0⟩).nx p=m.nx p:=by
  unfold M.nx
  by_cases h0:p=0
  ·rw [if_pos h0,if_pos h0,(key m rfl).F]
  ·have h1:p≠a:=fun e=>haL (e ▸ hp.resolve_left h0)
   rw [if_neg h0,if_neg h0,hV m rfl p h0,if_neg h1]
 have hVV:∀ x,x≠0->(m.layX p a c).gV x=jnV (fun x=>if x=a then ⟨c,p,m.nx p,if p=0 then 0 else (m.gV p).depth+1⟩ else m.gV x) p a (m.nx p) x:=fun x hx=>by
  unfold M.layX
  rw [T1.V x hx]
  have e:∀ y,y≠0->(fun x=>if x=a then (m.pX a ⟨c,0,0,0⟩).insS p a else (m.pX a ⟨c,0,0,0⟩).gV x) y=(fun x=>if x=a then ⟨c,p,m.nx p,if p=0 then 0 else (m.gV p).depth+1⟩ else m.gV x) y:=fun y hy=>by
   by_cases e:y=a
   ·simp only [e,if_true,M.insS]
    rw [hV m rfl a a0,if_pos rfl,hnx]
    by_cases h0:p=0
    ·simp only [h0,if_true]
    ·have h1:p≠a:=fun e=>haL (e ▸ hp.resolve_left h0)
     rw [hV m rfl p h0,if_neg h1]
   ·simp only [if_neg e]
    rw [hV m rfl y hy,if_neg e]
  unfold M.insV
  rw [hnx]
  unfold jnV
  by_cases c1:x=p
  ·rw [if_pos c1,if_pos c1,e p (c1 ▸ hx)]
  ·rw [if_neg c1,if_neg c1]
   by_cases c2:x=m.nx p
   ·rw [if_pos c2,if_pos c2,e _ (c2 ▸ hx)]
   ·rw [if_neg c2,if_neg c2,e x hx]
 have hJ:=(hI m rfl).ins_inv haP (hfE m rfl) haL hp T1
 have hlen:(m.layX p a c).w.length=8192:=by unfold M.layX; exact T1.fr.len.trans ((key m rfl).fr.len.trans D.len)
 have hd:∀ x,x≠0->((m.layX p a c).gV x).depth=if x=a then (if p=0 then 0 else (m.gV p).depth+1) else (m.gV x).depth:=fun x hx=>by
  rw [hVV x hx,jnV_depth]
  by_cases e:x=a
  ·simp only [if_pos e]
  ·simp only [if_neg e]
 have hmem:∀ x,x∈insLL p a L->x=a\/x∈L:=fun x hx=>by
  unfold insLL at hx
  split at hx
  ·exact List.mem_cons.1 hx
  ·exact insL_mem hx
 have hmem2:∀ x,x∈L->x∈insLL p a L:=fun x hx=>by
  unfold insLL; split
  ·exact List.mem_cons_of_mem _ hx
  ·exact mem_insL hx
 have ham:a∈insLL p a L:=by
  unfold insLL; split
  ·exact List.mem_cons_self
  ·rename_i h0; exact a_insL (hp.resolve_left h0)
 refine ⟨?_,⟨hJ,fun x hx=>?_,fun x hx hn=>?_, ?_,hlen⟩,fun x=>?_, ?_,hVV,by unfold M.layX; exact ((key m rfl).trans T1).fr⟩
 ·unfold M.rlayX M.layX
  refine (T1.det T2 ewa (fun x _=>?_) ?_ (hI m rfl).len.2 (hI m rfl).two).symm
  ·simp only [M.insV,M.insS,M.nx,gV_fun ewa,fst_w ewa]
  ·simp only [M.insF,fst_w ewa]
 ·rcases hmem x hx with e|h
  ·rw [e]; exact haP
  ·exact D.sub x h
 ·have x0:=D.n0 hx
  have hxa:x≠a:=fun e=>hn (e ▸ ham)
  have hxL:x∉L:=fun h=>hn (hmem2 x h)
  obtain ⟨k1,k2,k3⟩:=(hJ.out x hx).2 hn
  refine Slot.ext4 ?_ k1 k2 k3
  have:=hVV x x0
  unfold M.layX at this
  have h2:=congrArg Slot.cap this
  rw [jnV_cap] at h2
  simp only [if_neg hxa,D.z x hx hxL] at h2
  exact h2
 ·have hD:∀ y,y∈L->(m.layX p a c).D y=m.D y:=fun y hy=>by
   have hya:¬ y=a:=fun e=>haL (by rw [<-e]; exact hy)
   have:=hd y (fun e=>D.inv.no0 (e ▸ hy))
   rw [if_neg hya] at this
   exact this
  have hDa:=hd a a0
  rw [if_pos rfl] at hDa
  change (m.layX p a c).D a=_ at hDa
  unfold insLL
  by_cases c0:p=0
  ·rw [if_pos c0] at hDa ⊢
   exact ⟨by omega,dep_mono (by omega) (dep_congr hD D.dep)⟩
  ·rw [if_neg c0] at hDa ⊢
   have hb:=hp.resolve_left c0
   obtain ⟨L1,L2,e⟩:=List.append_of_mem hb
   have hn:=D.inv.nd
   have hd2:=dep_congr hD D.dep
   have hbD:=hD _ hb
   change _=(m.gV p).depth at hbD
   rw [e] at hn hd2 ⊢
   have hb1:p∉L1:=fun h=>(List.nodup_append.1 hn).2.2 _ h _ List.mem_cons_self rfl
   rw [insL_app hb1]
   obtain ⟨d1,d2⟩:=dep_app.1 hd2
   obtain ⟨d3,d4⟩:=d2
   exact dep_app.2 ⟨d1,d3,by omega,dep_mono (by omega) d4⟩
 ·unfold M.layX
  exact (T1.E x).trans ((key m rfl).E x)
 ·unfold M.layX
  rw [T1.F]
  simp only [M.insF,(key m rfl).F]
theorem UI.rem (D:UI m L) (hw:r.w=m.w) {a:Int} {L1 L2:List Int} (e:L=L1++a::L2) :
  (m.rem a).1=0/\(r.rrem a).1=0/\(r.rrem a).2.w=(m.rem a).2.w/\UI (m.rem a).2 (L1++L2)/\m.To (m.rem a).2 (m.remV a (deep m.gV (m.gV a).depth L2)) (m.remF a):=by
 obtain ⟨⟨k1,T⟩,_⟩:=D.inv.rem_to e
 obtain ⟨_,j1,j2⟩:=(D.inv.of_w hw).rem_to e
 have eV:∀ Ds,r.remV a Ds=m.remV a Ds:=fun Ds=>by unfold M.remV; rw [gV_fun hw]
 have eF:r.remF a=m.remF a:=by unfold M.remF; rw [fst_w hw,gV_fun hw]
 rw [eV,eF,gV_fun hw] at j2
 have hI:=D.inv.rem_inv e T (fun y hy=>(D.inv.rem_facts e y hy).1)
 refine ⟨k1,j1,(T.det j2 hw (fun _ _=>rfl) rfl D.inv.len.2 D.inv.two).symm,⟨hI,fun x hx=>?_,fun x hx hn=>?_, ?_,T.fr.len.trans D.len⟩,T⟩
 ·refine D.sub x ?_
  rw [e]
  rcases List.mem_append.1 hx with h|h
  ·exact List.mem_append_left _ h
  ·exact List.mem_append_right _ (List.mem_cons_of_mem _ h)
 ·have x0:=D.n0 hx
  obtain ⟨q1,q2,q3⟩:=(hI.out x hx).2 hn
  refine Slot.ext4 ?_ q1 q2 q3
  rw [T.V x x0]
  unfold M.remV
  by_cases c:x=a
  ·rw [if_pos c]
  ·rw [if_neg c]
   have:x∉L:=fun h=>by
    rw [e] at h
    rcases List.mem_append.1 h with h|h
    ·exact hn (List.mem_append_left _ h)
    ·rcases List.mem_cons.1 h with h|h
     ·exact c h
     ·exact hn (List.mem_append_right _ h)
   simp only [D.z x hx this]
 ·have hn:=D.inv.nd
  have hd:=D.dep
  have hno:∀ y,y∈L->y≠0:=fun y hy=>D.l0 hy
  rw [e] at hn hd hno
  obtain ⟨n1,n2,n3⟩:=List.nodup_append.1 hn
  obtain ⟨n4,n5⟩:=List.nodup_cons.1 n2
  obtain ⟨E,s1,s2,s3⟩:=deep_split m.gV (m.gV a).depth L2
  obtain ⟨Ds,hDs⟩:∃ Ds,deep m.gV (m.gV a).depth L2=Ds:=⟨_,rfl⟩
  rw [hDs] at s1 s3 T
  obtain ⟨d1,d2⟩:=dep_app.1 hd
  obtain ⟨d3,d4⟩:=d2
  have hne:∀ y,y∈L1++L2->y≠0/\y≠a:=fun y hy=>by
   rcases List.mem_append.1 hy with h|h
   ·exact ⟨hno y (List.mem_append_left _ h),n3 y h _ List.mem_cons_self⟩
   ·exact ⟨hno y (List.mem_append_right _ (List.mem_cons_of_mem _ h)),fun e=>n4 (e ▸ h)⟩
  have hD:∀ y,y∈L1++L2->(m.rem a).2.D y=if y∈Ds then m.D y-1 else m.D y:=fun y hy=>rem_D T (hne y hy).1 (hne y hy).2
  have hD1:∀ y,y∈L1->(m.rem a).2.D y=m.D y:=fun y hy=>by
   rw [hD y (List.mem_append_left _ hy),if_neg]
   intro h
   exact n3 y hy y (List.mem_cons_of_mem _ (by rw [s1]; exact List.mem_append_left _ h)) rfl
  refine dep_app.2 ⟨dep_congr hD1 d1, ?_⟩
  rw [lastD_congr hD1]
  rw [s1] at d4 n5 hD ⊢
  refine dep_rem (da:=m.D a) d4 (Int.le_refl _) d3 (fun y hy=>⟨s3 y hy, ?_⟩) (fun y hy=>?_) s2
  ·rw [hD y (List.mem_append_right _ (List.mem_append_left _ hy)),if_pos hy]
  ·rw [hD y (List.mem_append_right _ (List.mem_append_right _ hy)),if_neg]
   intro h
   exact (List.nodup_append.1 n5).2.2 y h y hy rfl
theorem UI.scX (D:UI m L) {a:Int} (ha:a∈L) {c:Cap} (hc:c.ty≠0) (hr:slotRB ⟨c,(m.gV a).prev,(m.gV a).next,(m.gV a).depth⟩=true) :
  UI (m.scX a c) L/\m.To (m.scX a c) (fun x=>if x=a then ⟨c,(m.gV a).prev,(m.gV a).next,(m.gV a).depth⟩ else m.gV x) m.fst:=by
 have hga:=(D.inv.gE ha).1
 have a0:a≠0:=D.l0 ha
 have T1:m.To (m.scX a c) (fun x=>if x=a then ⟨c,(m.gV a).prev,(m.gV a).next,(m.gV a).depth⟩ else m.gV x) m.fst:=((M.To.refl m).gX a).pX hga hr
 have hI:=D.inv.to T1 D.inv.nd (fun x hx=>by
   by_cases e:x=a
   ·simp only [if_pos e]; exact ⟨e ▸ hga,hc⟩
   ·simp only [if_neg e]; exact D.inv.gE hx) (chain_congr (fun x hx=>by
   by_cases e:x=a
   ·simp only [e,if_true,and_self]
   ·simp only [if_neg e,and_self]) D.inv.ch) D.inv.fst (fun x hx hn=>by
   have e:x≠a:=fun e=>hn (e ▸ ha)
   simp only [if_neg e]
   rw [D.z x hx hn]; exact ⟨rfl,rfl,rfl⟩)
 refine ⟨⟨hI,D.sub,fun x hx hn=>?_,dep_congr (fun x hx=>?_) D.dep,T1.fr.len.trans D.len⟩,T1⟩
 ·have e:x≠a:=fun e=>hn (e ▸ ha)
  rw [T1.V x (D.n0 hx)]
  simp only [if_neg e]
  exact D.z x hx hn
 ·unfold M.D
  rw [T1.V x (D.l0 hx)]
  by_cases e:x=a
  ·simp only [e,if_true]
  ·simp only [if_neg e]
theorem UI.touch {m':M} (D:UI m L) (hl:m'.w.length=m.w.length) (h2:m'.at 2=m.at 2) (ha:∀ x,P15 x->∀ k:Int,0<=k->k<=3->m'.at (x+k)=m.at (x+k)):UI m' L/\∀ x,P15 x->m'.gE x=m.gE x/\m'.gV x=m.gV x:=by
 have ht:∀ x,thereB m' x=thereB m x:=fun x=>by simp only [thereB,hl]
 have key:∀ x,P15 x->m'.gE x=m.gE x/\m'.gV x=m.gV x:=fun x hx=>by
  have a0:=ha x hx 0 (by omega) (by omega)
  rw [Int.add_zero] at a0
  have a1:=ha x hx 1 (by omega) (by omega)
  have a2:=ha x hx 2 (by omega) (by omega)
  have a3:=ha x hx 3 (by omega) (by omega)
  exact ⟨by simp only [M.gE,M.slotB,ht,a0,a1,a2,a3]; rfl,by simp only [M.gV,M.slotB,M.slotC,ht,a0,a1,a2,a3]; rfl⟩
 have hf:m'.fst=m.fst:=by simp only [M.fst,keptV,keptB,M.has,h2,hl]; rfl
 have hfE:∀ x,P15 x->m'.fE x=m.fE x:=fun x hx=>by simp only [M.fE,(key x hx).1,(key x hx).2]
 refine ⟨⟨⟨by rw [hl]; exact D.inv.len,by rw [h2,hf]; exact D.inv.two,D.inv.nd,fun x hx=>by rw [hfE x (D.sub x hx)]; exact D.inv.full x hx,chain_congr (fun x hx=>by rw [(key x (D.sub x hx)).2]; exact ⟨rfl,rfl⟩) D.inv.ch,by rw [hf]; exact D.inv.fst,fun x hx=>by rw [(key x hx).1,(key x hx).2]; exact D.inv.out x hx⟩,D.sub,fun x h1 h2=>by rw [(key x h1).2]; exact D.z x h1 h2,dep_congr (fun x hx=>by unfold M.D; rw [(key x (D.sub x hx)).2]) D.dep,hl.trans D.len⟩,key⟩
theorem UI.split (D:UI m L) {x:Int} {L1 L2:List Int} (e:L=L1++x::L2):under m.D L x=tw m.D (m.D x) L2:=by
 have hn:=D.inv.nd
 rw [e] at hn
 have hx1:x∉L1:=fun h=>(List.nodup_append.1 hn).2.2 x h x List.mem_cons_self rfl
 rw [e]; exact under_split hx1
theorem UI.nx (D:UI m L) {x:Int} (hP:P15 x):m.nxV x=(under m.D L x).headD 0:=by
 unfold M.nxV
 by_cases hx:x∈L
 ·rw [if_pos (D.inv.full x hx)]
  obtain ⟨L1,L2,e⟩:=List.append_of_mem hx
  have hc:=D.inv.ch
  have hfl:∀ y,y∈L2->m.fE y=0/\y≠0:=fun y hy=>by
   have:y∈L:=by rw [e]; exact List.mem_append_right _ (List.mem_cons_of_mem _ hy)
   exact ⟨D.inv.full y this,D.l0 this⟩
  have hu:=D.split e
  rw [e] at hc
  obtain ⟨_,_,h2,_⟩:=chain_app.1 hc
  rw [hu,h2]
  cases L2 with
  | nil=>rfl
  | cons y L2 =>
   obtain ⟨q1,q2⟩:=hfl y List.mem_cons_self
   rw [List.headD_cons,if_neg q2,if_pos q1,tw_cons]
   by_cases c:m.D x<m.D y
   ·rw [if_pos c,if_neg (by unfold M.D at c; omega)]; rfl
   ·rw [if_neg c,if_pos (by unfold M.D at c; omega)]; rfl
 ·have h1:¬ m.fE x=0:=fun h=>(fE_zero.1 h).2 ((D.em hP).2 hx)
  rw [if_neg h1,under_none hx]; rfl
end
end Go.Proofs.YtcdfofeolgbnbaaGreat

/- Package untyped: Retype: numbers at its loops. -/
namespace Go.Proofs.YtcdfofeolgbnbaaGreat
open Go.D
set_option linter.all false
set_option maxRecDepth 100000
set_option maxHeartbeats 400000

structure RtB (c nd:Cap) (k b i n A s N:Int):Prop where
 hn:1<=n/\n<=16
 hs:1<=s/\s<=32768
 hA:0<=A/\A+n*s<=200000
 hi:0<=i/\i+n<=N
 hN:N<=256
 ho:0<=nd.obj/\nd.obj<=65535
end Go.Proofs.YtcdfofeolgbnbaaGreat

/- Law 15: where objects lie: each in what it was made of,all others apart; noughts above the mark. -/
namespace Go.Proofs.YtcdfofeolgbnbaaGreat
open Go.D
set_option linter.all false
set_option maxRecDepth 100000
set_option maxHeartbeats 4000000

theorem M.To.at {m m':M} {V:Int->Slot} {F:Int} (T:m.To m' V F) {x:Int} (hx:thereB m x=true) (hV:V x=m.gV x) {k:Int} (h0:0<=k) (h3:k<=3):m'.at (x+k)=m.at (x+k):=by
 have x0:=there_ne0 hx
 by_cases e:m.gE x=0
 ·obtain ⟨p0,p1,p2,p3⟩:=slot_words e
  obtain ⟨q0,q1,q2,q3⟩:=slot_words ((T.E x).trans e)
  rw [T.V x x0,hV] at q0 q1 q2
  have:k=0\/k=1\/k=2\/k=3:=by omega
  rcases this with h|h|h|h<;>subst h
  ·rw [Int.add_zero,q0,p0]
  ·rw [q1,p1]
  ·rw [q2,p2]
  ·rw [q3,p3]
 ·exact (T.fr.slot x hx).resolve_left (by rw [T.E]; exact e) k h0 h3
theorem M.To.above {m m':M} {V:Int->Slot} {F:Int} (T:m.To m' V F) (hl:m.w.length=8192) (hV:∀ x,3120<=x->V x=m.gV x) {j:Int} (hj:3120<=j):m'.at j=m.at j:=by
 by_cases hb:j<8192
 ·have h1:thereB m (j-j%4)=true:=there_iff.2 ⟨by omega,by rw [Int.tmod_eq_emod_of_nonneg (by omega)]; omega,by rw [hl]; omega⟩
  have:=T.at h1 (hV _ (by omega)) (k:=j%4) (by omega) (by omega)
  rwa [show j-j%4+j%4=j by omega] at this
 ·have e1:m.w.length<=j.toNat:=by rw [hl]; omega
  have e2:m'.w.length<=j.toNat:=by rw [T.fr.len,hl]; omega
  unfold M.at
  rw [nth_out e1,nth_out e2]
theorem P15_lt {x:Int} (h:P15 x):x<3120/\32<=x:=by unfold P15 at h; omega
section
variable {m r:M} {L:List Int}
theorem UI.lt (D:UI m L) {x:Int} (h:x∈L):x<3120:=(P15_lt (D.sub x h)).1
theorem UI.nx_lt (D:UI m L) {p:Int} (hp:p=0\/p∈L):m.nx p<3120:=by
 rcases D.inv.nx_mem hp with h|h
 ·omega
 ·exact D.lt h
theorem UI.right (D:UI m L) (x:Int):rightB (m.gV x).cap=true:=(slotRB_iff (m.gV_u x)).1
theorem UI.scX_at (D:UI m L) {a:Int} (ha:a∈L) {c:Cap} (hc:c.ty≠0) (hr:slotRB ⟨c,(m.gV a).prev,(m.gV a).next,(m.gV a).depth⟩=true) {j:Int} (hj:3120<=j):(m.scX a c).at j=m.at j :=
 (D.scX ha hc hr).2.above D.len (fun x hx=>if_neg fun e=>by have:=D.lt ha; omega) hj
theorem UI.rem_at (D:UI m L) {a:Int} {L1 L2:List Int} (e:L=L1++a::L2) {j:Int} (hj:3120<=j):(m.rem a).2.at j=m.at j:=by
 obtain ⟨_,_,_,_,T⟩:=D.rem (r:=m) rfl e
 have ha:a∈L:=by rw [e]; simp
 have l1:=D.lt ha
 have l2:(m.gV a).prev<3120:=by
  rcases D.inv.prev ha with h|h
  ·omega
  ·exact D.lt h
 have l3:(m.gV a).next<3120:=by
  rcases D.inv.next ha with h|h
  ·omega
  ·exact D.lt h
 refine T.above D.len (fun x hx=>?_) hj
 unfold M.remV
 rw [if_neg (by omega),if_neg (by omega),if_neg (by omega),decV_out]
 intro h
 have:=D.lt (D.inv.rem_facts e x h).1
 omega
theorem UI.lay_at (D:UI m L) {p a:Int} (hp:p=0\/p∈L) (haP:P15 a) (haL:a∉L) {c:Cap} (hc:c.ty≠0) (hr:slotRB ⟨c,0,0,0⟩=true) {j:Int} (hj:3120<=j):(m.layX p a c).at j=m.at j:=by
 obtain ⟨_,_,k3,k4,k5,k6⟩:=D.lay (r:=m) rfl hp haP haL hc hr
 have l1:=(P15_lt haP).1
 have l2:=D.nx_lt hp
 have l3:p<3120:=by
  rcases hp with h|h
  ·omega
  ·exact D.lt h
 have T:m.To (m.layX p a c) (m.layX p a c).gV (m.layX p a c).fst:=⟨k6,k3,fun _ _=>rfl,rfl⟩
 refine T.above D.len (fun x hx=>?_) hj
 rw [k5 x (by omega)]
 unfold jnV
 rw [if_neg (by omega),if_neg (by omega)]
 show (if x=a then _ else _)=_
 rw [if_neg (by omega)]
end
end Go.Proofs.YtcdfofeolgbnbaaGreat

