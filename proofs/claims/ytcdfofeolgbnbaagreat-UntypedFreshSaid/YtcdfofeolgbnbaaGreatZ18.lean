/- Lists of words: the document's Load,Same. -/
import Derived.Test.YtcdfofeolgbnbaaGreatZ11
import Derived.Test.YtcdfofeolgbnbaaGreatZ17
import Derived.Test.YtcdfofeolgbnbaaGreatZ15
/- Package slots: which slots may be,where. -/
namespace Go.Proofs.YtcdfofeolgbnbaaGreat
open Go.D
set_option linter.all false
set_option maxRecDepth 100000
set_option maxHeartbeats 4000000

structure Slot where
 cap:Cap
 prev:Int
 next:Int
 depth:Int
def Slot.cl (s:Slot):List S:=[.i .i64 s.cap.ty, .i .i64 s.cap.obj, .i .i64 s.cap.bits, .i .i64 s.cap.mark, .i .i64 s.cap.guard, .i .i64 s.cap.gbits, .i .i64 s.cap.badge, .i .i64 s.cap.rights, .i .i64 s.cap.asid, .i .i64 s.cap.vaddr, .i .i64 s.cap.line,
 .i .i64 s.prev, .i .i64 s.next, .i .i64 s.depth]
def slotZ:Slot:=⟨capZ,0,0,0⟩
def slotF (f:Slot->Res):List V->Res
 | [.agg [.i .i64 a, .i .i64 b, .i .i64 c, .i .i64 d, .i .i64 e, .i .i64 g, .i .i64 i, .i .i64 j, .i .i64 k, .i .i64 l, .i .i64 m, .i .i64 p, .i .i64 n, .i .i64 q]]=>f ⟨⟨a,b,c,d,e,g,i,j,k,l,m⟩,p,n,q⟩
 | _=>.bad
theorem slotF_spec {f:Slot->Res} {args:List V} {K:V->List Blk->Prop} (h:(slotF f args).spec K):∃ s:Slot,args=[.agg s.cl]/\(f s).spec K:=by
 unfold slotF at h
 split at h
 ·exact ⟨_,rfl,h⟩
 ·exact h.elim
theorem slot_eta (s:Slot):(⟨⟨s.cap.ty,s.cap.obj,s.cap.bits,s.cap.mark,s.cap.guard,s.cap.gbits,s.cap.badge,s.cap.rights,s.cap.asid,s.cap.vaddr,s.cap.line⟩,s.prev,s.next,s.depth⟩:Slot)=s:=rfl

def linkB (n:Int):Bool:=decide (0<=n)&&(decide (n<65536)&&n.tmod 4==0)
def linkG:List V->List Blk->Res
 | [.s (.i .i64 n)],h=>.ok (.s (.b (linkB n))) [] h
 | _,_=>.bad
theorem link_snd:Snd Tryz.prog 152 (FSpec.of linkG):=snd_run (noT_snd _) mixed Tryz.func152 dc152 100 fun args h K hc hS=>by
 unfold linkG at hS
 split at hS
 ·simp only [spec_ok,linkB] at hS
  simp (maxSteps:=999999) only [go_sem,simprocAttr,↓qT,↓qF,df152,Bool.and_assoc]
  exact hS
 ·exact hS.elim
theorem link_ref (n:Int):(decide (0<=n)&&(decide (n<=65532)&&n.tmod 4==0))=linkB n:=by
 unfold linkB
 by_cases h:0<=n
 ·rw [Int.tmod_eq_emod_of_nonneg h,Bool.eq_iff_iff]
  simp only [Bool.and_eq_true,decide_eq_true_eq,beq_iff_eq]
  omega
 ·simp [h]
theorem rlink_snd:Snd Tryz.prog 194 (FSpec.of linkG):=snd_run (noT_snd _) mixed Tryz.func194 dc194 100 fun args h K hc hS=>by
 unfold linkG at hS
 split at hS
 ·simp only [spec_ok,<-link_ref] at hS
  simp (maxSteps:=999999) only [go_sem,simprocAttr,↓qT,↓qF,df194,Bool.and_assoc]
  exact hS
 ·exact hS.elim

def Slot.isZ (s:Slot):Bool:=s.cap.ty==0&&(s.cap.obj==0&&(s.cap.bits==0&&(s.cap.mark==0&&(s.cap.guard==0&&(s.cap.gbits==0&&(s.cap.badge==0&&(s.cap.rights==0&&(s.cap.asid==0&&(s.cap.vaddr==0&&(s.cap.line==0&&(s.prev==0&&(s.next==0&&s.depth==0))))))))))))
theorem Slot.isZ_iff {s:Slot}:s.isZ=true↔s=slotZ:=by
 obtain ⟨⟨t,o,b,d,e,g,i,j,k,l,m⟩,p,n,q⟩:=s
 simp [Slot.isZ,slotZ,capZ,Bool.and_eq_true,and_assoc]
def slotRB (s:Slot):Bool:=!(s.cap.ty==0&&!s.isZ)&&(rightB s.cap&&(linkB s.prev&&(linkB s.next&&(decide (0<=s.depth)&&decide (s.depth<65536)))))
def slotRG (args:List V) (h:List Blk):Res:=slotF (fun s=>.ok (.s (.b (slotRB s))) [] h) args
def TSr:Tab:=addT 152 linkG (addT 95 rightG (addT 194 linkG (addT 42 rightG noT)))
theorem TSr_snd:TSr.Snd Tryz.prog:=addT_snd ok152 link_snd (addT_snd ok95 right_snd (addT_snd ok194 rlink_snd (addT_snd ok42 rright_snd (noT_snd _))))
theorem slotR_snd:Snd Tryz.prog 89 (FSpec.of slotRG):=snd_run TSr_snd mixed Tryz.func89 dc89 200 fun args h K hc hS=>by
 obtain ⟨s,rfl,hR⟩:=slotF_spec hS
 clear hS
 simp only [spec_ok] at hR
 obtain ⟨c,p,n,q⟩:=s
 have hR:K (.s (.b (!(c.ty==0&&!(Slot.mk c p n q).isZ)&&(rightB c&&(linkB p&&(linkB n&&(decide (0<=q)&&decide (q<65536)))))))) h:=hR
 have ez:(c.ty==0&&(c.obj==0&&(c.bits==0&&(c.mark==0&&(c.guard==0&&(c.gbits==0&&(c.badge==0&&(c.rights==0&&(c.asid==0&&(c.vaddr==0&&(c.line==0&&(p==0&&(n==0&&q==0)))))))))))))=(Slot.mk c p n q).isZ:=rfl
 simp only [Slot.cl]
 by_cases h0:c.ty=0
 ·have hne:(c.ty != 0)=false:=by simp [h0]
  cases hz:(Slot.mk c p n q).isZ<;>cases hr:rightB c<;>cases hp:linkB p<;>cases hn:linkB n
  all_goals simp only [hz,hr,hp,hn,h0,beq_self_eq_true,Bool.not_true,Bool.not_false,Bool.true_and,Bool.and_true,Bool.false_and,Bool.and_false] at hR
  all_goals by_cases hq:q<0
  all_goals (try have hq1:¬ 0<=q:=by omega)
  all_goals (try have hq1:0<=q:=by omega)
  all_goals by_cases hq2:65535<q
  all_goals try (exfalso; omega)
  all_goals (try have hq3:¬ q<65536:=by omega)
  all_goals (try have hq3:q<65536:=by omega)
  all_goals try simp only [hq1,hq3,decide_true,decide_false,Bool.true_and,Bool.and_true,Bool.false_and,Bool.and_false] at hR
  all_goals (simp (maxSteps:=999999) only [go_sem,simprocAttr,↓qT,↓qF,df89,TSr,linkG,rightG,capF,cap_eta,ez,hne,hz,hr,hp,hn,hq,hq1,hq2,hq3,put,fillP,sub,EVt])
  all_goals first|exact hR|exact ⟨fun _=>hR,fun _=>hR⟩|exact ⟨fun _=>hR,fun x=>absurd h0 x⟩
 ·have h1:(c.ty==0)=false:=by simpa using h0
  have hne:(c.ty != 0)=true:=by simpa using h0
  cases hr:rightB c<;>cases hp:linkB p<;>cases hn:linkB n
  all_goals simp only [hr,hp,hn,h1,Bool.not_true,Bool.not_false,Bool.true_and,Bool.and_true,Bool.false_and,Bool.and_false] at hR
  all_goals by_cases hq:q<0
  all_goals (try have hq1:¬ 0<=q:=by omega)
  all_goals (try have hq1:0<=q:=by omega)
  all_goals by_cases hq2:65535<q
  all_goals try (exfalso; omega)
  all_goals (try have hq3:¬ q<65536:=by omega)
  all_goals (try have hq3:q<65536:=by omega)
  all_goals try simp only [hq1,hq3,decide_true,decide_false,Bool.true_and,Bool.and_true,Bool.false_and,Bool.and_false] at hR
  all_goals (simp (maxSteps:=999999) only [go_sem,simprocAttr,↓qT,↓qF,df89,TSr,linkG,rightG,capF,cap_eta,h0,h1,hne,hr,hp,hn,hq,hq1,hq2,hq3,put,fillP,sub,EVt])
  all_goals exact hR
theorem rslotR_snd:Snd Tryz.prog 173 (FSpec.of slotRG):=snd_run TSr_snd mixed Tryz.func173 dc173 200 fun args h K hc hS=>by
 obtain ⟨s,rfl,hR⟩:=slotF_spec hS
 clear hS
 simp only [spec_ok] at hR
 obtain ⟨c,p,n,q⟩:=s
 have hR:K (.s (.b (!(c.ty==0&&!(Slot.mk c p n q).isZ)&&(rightB c&&(linkB p&&(linkB n&&(decide (0<=q)&&decide (q<65536)))))))) h:=hR
 have ez:(c.ty==0&&(c.obj==0&&(c.bits==0&&(c.mark==0&&(c.guard==0&&(c.gbits==0&&(c.badge==0&&(c.rights==0&&(c.asid==0&&(c.vaddr==0&&(c.line==0&&(p==0&&(n==0&&q==0)))))))))))))=(Slot.mk c p n q).isZ:=rfl
 simp only [Slot.cl]
 by_cases h0:c.ty=0
 ·have hne:(c.ty != 0)=false:=by simp [h0]
  cases hz:(Slot.mk c p n q).isZ<;>cases hr:rightB c<;>cases hp:linkB p<;>cases hn:linkB n
  all_goals simp only [hz,hr,hp,hn,h0,beq_self_eq_true,Bool.not_true,Bool.not_false,Bool.true_and,Bool.and_true,Bool.false_and,Bool.and_false] at hR
  all_goals by_cases hq:q<0
  all_goals (try have hq1:¬ 0<=q:=by omega)
  all_goals (try have hq1:0<=q:=by omega)
  all_goals by_cases hq2:65535<q
  all_goals try (exfalso; omega)
  all_goals (try have hq3:¬ q<65536:=by omega)
  all_goals (try have hq3:q<65536:=by omega)
  all_goals try simp only [hq1,hq3,decide_true,decide_false,Bool.true_and,Bool.and_true,Bool.false_and,Bool.and_false] at hR
  all_goals (simp (maxSteps:=999999) only [go_sem,simprocAttr,↓qT,↓qF,df173,TSr,linkG,rightG,capF,cap_eta,ez,hne,hz,hr,hp,hn,hq,hq1,hq2,hq3,put,fillP,sub,EVt])
  all_goals first|exact hR|exact ⟨fun _=>hR,fun _=>hR⟩|exact ⟨fun _=>hR,fun x=>absurd h0 x⟩
 ·have h1:(c.ty==0)=false:=by simpa using h0
  have hne:(c.ty != 0)=true:=by simpa using h0
  cases hr:rightB c<;>cases hp:linkB p<;>cases hn:linkB n
  all_goals simp only [hr,hp,hn,h1,Bool.not_true,Bool.not_false,Bool.true_and,Bool.and_true,Bool.false_and,Bool.and_false] at hR
  all_goals by_cases hq:q<0
  all_goals (try have hq1:¬ 0<=q:=by omega)
  all_goals (try have hq1:0<=q:=by omega)
  all_goals by_cases hq2:65535<q
  all_goals try (exfalso; omega)
  all_goals (try have hq3:¬ q<65536:=by omega)
  all_goals (try have hq3:q<65536:=by omega)
  all_goals try simp only [hq1,hq3,decide_true,decide_false,Bool.true_and,Bool.and_true,Bool.false_and,Bool.and_false] at hR
  all_goals (simp (maxSteps:=999999) only [go_sem,simprocAttr,↓qT,↓qF,df173,TSr,linkG,rightG,capF,cap_eta,h0,h1,hne,hr,hp,hn,hq,hq1,hq2,hq3,put,fillP,sub,EVt])
  all_goals exact hR

def thereB (m:M) (a:Int):Bool:=decide (4<=a)&&(a.tmod 4==0&&decide (a<=m.w.length-4))
def sthereM (b:Nat) (m:M) (st:M->List Blk):List V->Res
 | [.s (.i .i64 a)]=>.ok (.s (.b (thereB m a))) [] (st m)
 | _=>.bad
noncomputable def sthereG:=memF sthereM
noncomputable def TMw2:Tab:=addT 150 wordsG (addT 189 thereG noT)
theorem TMw2_snd:TMw2.Snd Tryz.prog:=addT_snd ok150 mwords_snd (addT_snd ok189 rthere_snd (noT_snd _))
theorem sthere_snd:Snd Tryz.prog 85 (FSpec.of sthereG):=snd_run TMw2_snd mixed Tryz.func85 dc85 100 fun args h K hc hS=>by
 obtain ⟨a,b,m,rest,rfl,H,hS1⟩:=memF_spec hS
 clear hS
 have hS:=hS1
 clear hS1
 unfold sthereM at hS
 split at hS
 ·rename_i x
  simp only [spec_ok,setM_self H,thereB] at hS
  have hl:=m.l
  have w1:IntKind.i64.wrap ((m.w.length:Int)-4)=m.w.length-4:=wrap64 (by omega) (by omega)
  by_cases c1:4<=x
  ·by_cases c2:x.tmod 4=0
   ·simp only [c1,c2,decide_true,Bool.true_and,beq_self_eq_true] at hS
    simp (maxSteps:=999999) only [go_sem,simprocAttr,↓qT,↓qF,df85,TMw2,wordsG,memF_eq H,wordsM,setM_self H,c1,c2,w1]
    exact hS
   ·have c3:(x.tmod 4==0)=false:=by simpa using c2
    simp only [c1,c3,decide_true,Bool.true_and,Bool.false_and] at hS
    simp (maxSteps:=999999) only [go_sem,simprocAttr,↓qT,↓qF,df85,TMw2,wordsG,memF_eq H,wordsM,setM_self H,c1,c2,c3,w1]
    exact hS
  ·simp only [c1,decide_false,Bool.false_and] at hS
   simp (maxSteps:=999999) only [go_sem,simprocAttr,↓qT,↓qF,df85,TMw2,wordsG,memF_eq H,wordsM,setM_self H,c1]
   exact hS
 ·exact hS.elim
theorem there_has (m:M) (a:Int):(m.has a 4&&(decide (4<=a)&&a.tmod 4==0))=thereB m a:=by
 have hl:=m.l
 rw [Bool.eq_iff_iff]
 simp only [M.has,thereB,Bool.and_eq_true,decide_eq_true_eq,beq_iff_eq]
 omega
theorem rat_snd:Snd Tryz.prog 172 (FSpec.of sthereG):=snd_run TMw2_snd mixed Tryz.func172 dc172 100 fun args h K hc hS=>by
 obtain ⟨a,b,m,rest,rfl,H,hS1⟩:=memF_spec hS
 clear hS
 have hS:=hS1
 clear hS1
 unfold sthereM at hS
 split at hS
 ·rename_i x
  simp only [spec_ok,setM_self H,<-there_has] at hS
  cases hh:m.has x 4
  ·simp only [hh,Bool.false_and] at hS
   simp (maxSteps:=999999) only [go_sem,simprocAttr,↓qT,↓qF,df172,TMw2,thereG,memF_eq H,thereM,setM_self H,hh]
   exact hS
  ·simp only [hh,Bool.true_and] at hS
   simp (maxSteps:=999999) only [go_sem,simprocAttr,↓qT,↓qF,df172,TMw2,thereG,memF_eq H,thereM,setM_self H,hh]
   exact hS
 ·exact hS.elim

theorem M.tick_tick (m:M) (j k:Int):(m.tick j).tick k=m.tick (j+k):=by
 refine M.ext' rfl ?_
 simp only [M.tick]
 rw [IntKind.wrap_i64,IntKind.wrap_i64,IntKind.wrap_i64]; omega

def slotC (w0 w1 w2:Int):Slot:=⟨decC w0 w1,w2%65536,w2/65536%65536,w2/4294967296%65536⟩
def slotB (w0 w1 w2 w3:Int):Bool:=decB w0 w1&&(decide (w2/281474976710656=0)&&(w3==0&&slotRB (slotC w0 w1 w2)))
def M.slotB (m:M) (a:Int):Bool:=_root_.Go.Proofs.YtcdfofeolgbnbaaGreat.slotB (m.at a) (m.at (a+1)) (m.at (a+2)) (m.at (a+3))
def M.slotC (m:M) (a:Int):Slot:=_root_.Go.Proofs.YtcdfofeolgbnbaaGreat.slotC (m.at a) (m.at (a+1)) (m.at (a+2))
def getSM (b:Nat) (m:M) (st:M->List Blk):List V->Res
 | [.s (.i .i64 a)]=>.br (thereB m a) (.br (m.slotB a) (.ok (.tup [.agg (m.slotC a).cl, .s (.i .i64 0)]) [] (st (m.tick 4))) (.ok (.tup [.agg slotZ.cl, .s (.i .i64 110)]) [] (st (m.tick 4))))
   (.ok (.tup [.agg slotZ.cl, .s (.i .i64 20)]) [] (st m))
 | _=>.bad
noncomputable def getSG:=memF getSM

theorem there_iff {m:M} {a:Int}:thereB m a=true↔4<=a/\a.tmod 4=0/\a<=m.w.length-4:=by
 simp only [thereB,Bool.and_eq_true,decide_eq_true_eq,beq_iff_eq]

theorem up16_B (w:Nat):unpackB (w:Int) [16,16,16] 0=decide ((w:Int)/281474976710656=0):=by
 simp only [unpackB,fieldB,Int.reduceAdd,Int.reduceSub,Int.reduceLE,Int.reduceToNat,Int.toNat_natCast,Nat.reducePow,and_true,decide_true,Bool.true_and]
 rw [Bool.eq_iff_iff]; simp only [decide_eq_true_eq]; omega
theorem up16_V (w:Nat):unpackV (w:Int) [16,16,16] 0=[(w:Int)%65536,(w:Int)/65536%65536,(w:Int)/4294967296%65536]:=by
 simp only [unpackV,getV,Int.reduceAdd,Int.reduceToNat,Int.toNat_natCast,Nat.reducePow,Nat.div_one]
 simp only [List.cons.injEq,and_true]
 omega

noncomputable def TGt:Tab:=addT 85 sthereG (addT 86 readG (addT 87 decG (addT 88 unpackG (addT 89 slotRG noT))))
theorem TGt_snd:TGt.Snd Tryz.prog:=addT_snd ok85 sthere_snd (addT_snd ok86 mread_snd (addT_snd ok87 dec_snd (addT_snd ok88 unpack_snd (addT_snd ok89 slotR_snd (noT_snd _)))))
theorem getS_snd:Snd Tryz.prog 26 (FSpec.of getSG):=snd_run TGt_snd mixed Tryz.func26 dc26 300 fun args h K hc hS=>by
 obtain ⟨a,b,m,rest,rfl,H,hS1⟩:=memF_spec hS
 clear hS
 have hS:=hS1
 clear hS1
 unfold getSM at hS
 split at hS
 ·rename_i x
  simp only [spec_ok,spec_br,setM_self H] at hS
  have hl:=m.l
  cases ht:thereB m x with
  | false =>
   have hS:=hS.2 ht
   simp (maxSteps:=999999) only [go_sem,simprocAttr,↓qT,↓qF,df26,TGt,sthereG,memF_eq H,sthereM,setM_self H,ht,put,fillP,sub,EVt]
   exact hS
  | true =>
   have hS:=hS.1 ht
   have hb:=there_iff.1 ht
   have hcm:∀ m',clean (setM h a b m').length (setM h a b m')=true:=fun m'=>by rw [setM_len]; exact setM_clean H hc H.ltb
   have h0:m.has x 1=true:=M.has_of (by omega)
   have h1:m.has (x+1) 1=true:=M.has_of (by omega)
   have h2:m.has (x+2) 1=true:=M.has_of (by omega)
   have h3:m.has (x+3) 1=true:=M.has_of (by omega)
   have w0:IntKind.i64.wrap (x+0)=x:=by rw [wrap64]<;>omega
   have w1:IntKind.i64.wrap (x+1)=x+1:=wrap64 (by omega) (by omega)
   have w2:IntKind.i64.wrap (x+2)=x+2:=wrap64 (by omega) (by omega)
   have w3:IntKind.i64.wrap (x+3)=x+3:=wrap64 (by omega) (by omega)
   have v1:IntKind.i64.wrap 1=1:=by decide
   have v2:IntKind.i64.wrap 2=2:=by decide
   have v3:IntKind.i64.wrap 3=3:=by decide
   have v4:IntKind.i64.wrap 4=4:=by decide
   have u0:=m.at_u x
   have u1:=m.at_u (x+1)
   have u2:=m.at_u (x+2)
   have u3:=m.at_u (x+3)
   simp only [M.slotB,M.slotC] at hS
   obtain ⟨a0,e0⟩:∃ a,m.at x=a:=⟨_,rfl⟩
   obtain ⟨a1,e1⟩:∃ a,m.at (x+1)=a:=⟨_,rfl⟩
   obtain ⟨a2,e2⟩:∃ a,m.at (x+2)=a:=⟨_,rfl⟩
   obtain ⟨a3,e3⟩:∃ a,m.at (x+3)=a:=⟨_,rfl⟩
   rw [e0] at u0 hS
   rw [e1] at u1 hS
   rw [e2] at u2 hS
   rw [e3] at hS
   obtain ⟨a2,rfl,_⟩:=u2.nat
   have eB:=up16_B a2
   have eV:=up16_V a2
   have i0:IntKind.i64.wrap ((a2:Int)%65536)=(a2:Int)%65536:=wrap64 (by omega) (by omega)
   have i1:IntKind.i64.wrap ((a2:Int)/65536%65536)=(a2:Int)/65536%65536:=wrap64 (by omega) (by omega)
   have i2:IntKind.i64.wrap ((a2:Int)/4294967296%65536)=(a2:Int)/4294967296%65536:=wrap64 (by omega) (by omega)
   simp (maxSteps:=999999) only [go_sem,simprocAttr,↓qT,↓qF,df26,TGt,sthereG,memF_eq H,sthereM,setM_self H,ht,put,fillP,sub,EVt]
   rw [holds_loop]
   refine swp_loop fun X hX=>?_
   refine hX _ ?_
   refine run_sound (Tab.ok_Γ _) 200 _ _ _ _ ?_
   simp (maxSteps:=999999) only [go_sem,simprocAttr,↓qT,↓qF,TGt,readG,memF_eq H,memF_set H,readM,h0,h1,h2,h3,w0,w1,w2,w3,v1,v2,v3,v4,e0,e1,e2,e3,M.at_tick,M.tick_has,M.tick_tick,put,setM_fun H]
   refine hX _ ?_
   refine run_sound (Tab.ok_Γ _) 200 _ _ _ _ ?_
   simp (maxSteps:=999999) only [go_sem,simprocAttr,↓qT,↓qF,TGt,readG,memF_eq H,memF_set H,readM,h0,h1,h2,h3,w0,w1,w2,w3,v1,v2,v3,v4,e0,e1,e2,e3,M.at_tick,M.tick_has,M.tick_tick,put,setM_fun H]
   refine hX _ ?_
   refine run_sound (Tab.ok_Γ _) 200 _ _ _ _ ?_
   simp (maxSteps:=999999) only [go_sem,simprocAttr,↓qT,↓qF,TGt,readG,memF_eq H,memF_set H,readM,h0,h1,h2,h3,w0,w1,w2,w3,v1,v2,v3,v4,e0,e1,e2,e3,M.at_tick,M.tick_has,M.tick_tick,put,setM_fun H]
   refine hX _ ?_
   refine run_sound (Tab.ok_Γ _) 200 _ _ _ _ ?_
   simp (maxSteps:=999999) only [go_sem,simprocAttr,↓qT,↓qF,TGt,readG,memF_eq H,memF_set H,readM,h0,h1,h2,h3,w0,w1,w2,w3,v1,v2,v3,v4,e0,e1,e2,e3,M.at_tick,M.tick_has,M.tick_tick,put,setM_fun H]
   refine hX _ ?_
   cases hd:decB a0 a1 with
   | false =>
    have hS:=hS.2 (by simp only [slotB,hd,Bool.false_and])
    by_cases c2:(a2:Int)/281474976710656=0
    ·refine run_sound (Tab.ok_Γ _) 400 _ _ _ _ ?_
     simp (maxSteps:=999999) only [go_sem,simprocAttr,↓qT,↓qF,TGt,readG,memF_eq H,memF_set H,readM,h0,h1,h2,h3,w0,w1,w2,w3,v1,v2,v3,v4,e0,e1,e2,e3,M.at_tick,M.tick_has,M.tick_tick,put,setM_fun H,decG,unpackG,wordsR,pairV,R.lend,R.unlend,S_ren,C.ren,V.ren,Blk.ren,take_app,drop_app,Nat.not_lt_zero,Nat.lt_irrefl,Nat.add_sub_cancel_left,Nat.not_lt,Nat.le_add_right,decI,arr,Ic,Uc,List.take,eB,eV,u0,u1,u2,hd,c2,capZ,Cap.cl,fillP,nlt,hcm,sub,EVt,List.map_cons,List.map_nil]
     first|exact hS|exact fun _ _=>hS
    ·refine run_sound (Tab.ok_Γ _) 400 _ _ _ _ ?_
     simp (maxSteps:=999999) only [go_sem,simprocAttr,↓qT,↓qF,TGt,readG,memF_eq H,memF_set H,readM,h0,h1,h2,h3,w0,w1,w2,w3,v1,v2,v3,v4,e0,e1,e2,e3,M.at_tick,M.tick_has,M.tick_tick,put,setM_fun H,decG,unpackG,wordsR,pairV,R.lend,R.unlend,S_ren,C.ren,V.ren,Blk.ren,take_app,drop_app,Nat.not_lt_zero,Nat.lt_irrefl,Nat.add_sub_cancel_left,Nat.not_lt,Nat.le_add_right,decI,arr,Ic,Uc,List.take,eB,eV,u0,u1,u2,hd,c2,capZ,Cap.cl,fillP,nlt,hcm,sub,EVt]
     first|exact hS|exact fun _ _=>hS
   | true =>
    by_cases c2:(a2:Int)/281474976710656=0
    ·by_cases c3:a3=0
     ·cases hr:slotRB (slotC a0 a1 a2) with
      | false =>
       have hS:=hS.2 (by simp only [slotB,hd,hr,Bool.and_false])
       simp only [slotC] at hr
       refine run_sound (Tab.ok_Γ _) 400 _ _ _ _ ?_
       simp (maxSteps:=999999) only [go_sem,simprocAttr,↓qT,↓qF,TGt,readG,memF_eq H,memF_set H,readM,h0,h1,h2,h3,w0,w1,w2,w3,v1,v2,v3,v4,e0,e1,e2,e3,M.at_tick,M.tick_has,M.tick_tick,put,setM_fun H,decG,unpackG,wordsR,pairV,slotRG,slotF,cap_eta,R.lend,R.unlend,S_ren,C.ren,V.ren,Blk.ren,take_app,drop_app,Nat.not_lt_zero,Nat.lt_irrefl,Nat.add_sub_cancel_left,Nat.not_lt,Nat.le_add_right,decI,arr,Ic,Uc,List.take,eB,eV,u0,u1,u2,hd,c2,c3,hr,i0,i1,i2,capZ,Cap.cl,fillP,nlt,hcm,sub,EVt]
       first|exact hS|exact fun _ _=>hS
      | true =>
       have hS:=hS.1 (by simp only [slotB,hd,c2,c3,hr,decide_true,beq_self_eq_true,Bool.and_true])
       simp only [slotC] at hr
       simp only [slotC,Slot.cl] at hS
       refine run_sound (Tab.ok_Γ _) 400 _ _ _ _ ?_
       simp (maxSteps:=999999) only [go_sem,simprocAttr,↓qT,↓qF,TGt,readG,memF_eq H,memF_set H,readM,h0,h1,h2,h3,w0,w1,w2,w3,v1,v2,v3,v4,e0,e1,e2,e3,M.at_tick,M.tick_has,M.tick_tick,put,setM_fun H,decG,unpackG,wordsR,pairV,slotRG,slotF,cap_eta,R.lend,R.unlend,S_ren,C.ren,V.ren,Blk.ren,take_app,drop_app,Nat.not_lt_zero,Nat.lt_irrefl,Nat.add_sub_cancel_left,Nat.not_lt,Nat.le_add_right,decI,arr,Ic,Uc,List.take,eB,eV,u0,u1,u2,hd,c2,c3,hr,i0,i1,i2,capZ,Cap.cl,fillP,nlt,hcm,sub,EVt]
       first|exact hS|exact fun _ _=>hS
     ·have hS:=hS.2 (by simp [slotB,c3])
      refine run_sound (Tab.ok_Γ _) 400 _ _ _ _ ?_
      simp (maxSteps:=999999) only [go_sem,simprocAttr,↓qT,↓qF,TGt,readG,memF_eq H,memF_set H,readM,h0,h1,h2,h3,w0,w1,w2,w3,v1,v2,v3,v4,e0,e1,e2,e3,M.at_tick,M.tick_has,M.tick_tick,put,setM_fun H,decG,unpackG,wordsR,pairV,slotRG,slotF,cap_eta,R.lend,R.unlend,S_ren,C.ren,V.ren,Blk.ren,take_app,drop_app,Nat.not_lt_zero,Nat.lt_irrefl,Nat.add_sub_cancel_left,Nat.not_lt,Nat.le_add_right,decI,arr,Ic,Uc,List.take,eB,eV,u0,u1,u2,hd,c2,c3,i0,i1,i2,capZ,Cap.cl,fillP,nlt,hcm,sub,EVt]
      first|exact hS|exact fun _ _=>hS
    ·have hS:=hS.2 (by simp [slotB,c2])
     refine run_sound (Tab.ok_Γ _) 400 _ _ _ _ ?_
     simp (maxSteps:=999999) only [go_sem,simprocAttr,↓qT,↓qF,TGt,readG,memF_eq H,memF_set H,readM,h0,h1,h2,h3,w0,w1,w2,w3,v1,v2,v3,v4,e0,e1,e2,e3,M.at_tick,M.tick_has,M.tick_tick,put,setM_fun H,decG,unpackG,wordsR,pairV,R.lend,R.unlend,S_ren,C.ren,V.ren,Blk.ren,take_app,drop_app,Nat.not_lt_zero,Nat.lt_irrefl,Nat.add_sub_cancel_left,Nat.not_lt,Nat.le_add_right,decI,arr,Ic,Uc,List.take,eB,eV,u0,u1,u2,hd,c2,capZ,Cap.cl,fillP,nlt,hcm,sub,EVt]
     first|exact hS|exact fun _ _=>hS
 ·exact hS.elim
end Go.Proofs.YtcdfofeolgbnbaaGreat

/- Package slots: the document's Get,Put,Empty. -/
namespace Go.Proofs.YtcdfofeolgbnbaaGreat
open Go.D
open Nat (reduceAdd reducePow reduceMul reduceSub reduceLeDiff reduceLT reduceEqDiff)
open Int (reduceNeg reduceLE reduceEq reduceNe reduceToNat)
open Go.D renaming istep → zy,pickR → zx,bin1R → zw,un1R → zv,eqS → zu,eq1 → zq,cmpS → zp,cmp1 → zj,isNil → zk,shows → zg,result → zZ,qT → zV,qF → zU
open List renaming set → zY,replicate → zX
open Option renaming map → zW
open Nat renaming reduceAdd → zQ,reducePow → yz,reduceMul → yy,reduceSub → yx,reduceLeDiff → yw,reduceLT → yv,reduceEqDiff → yu
open Int renaming reduceNeg → yq,reduceLE → yp,reduceEq → yj,reduceNe → yk,reduceToNat → yg,reducePow → yZ,reduceLT → yY,reduceAdd → yX,reduceSub → yW,reduceMul → yV,reduceBEq → yU,reduceBNe → yQ
set_option linter.all false
set_option maxRecDepth 100000
set_option maxHeartbeats 4000000

noncomputable def TGr:Tab:=addT 172 sthereG (addT 179 readG (addT 180 decG (addT 173 slotRG (addT 174 encG (addT 175 writeG noT)))))
theorem TGr_snd:TGr.Snd Tryz.prog:=addT_snd ok172 rat_snd (addT_snd ok179 rread_snd (addT_snd ok180 rdec_snd (addT_snd ok173 rslotR_snd (addT_snd ok174 renc_snd (addT_snd ok175 rwrite_snd (noT_snd _))))))
theorem min16:min 16 IntKind.u64.bits=16:=rfl
theorem min32:min 32 IntKind.u64.bits=32:=rfl
theorem rgetS_snd:Snd Tryz.prog 126 (FSpec.of getSG):=snd_run TGr_snd mixed Tryz.func126 dc126 300 fun args h K hc hS=>by
 obtain ⟨a,b,m,rest,rfl,H,hS1⟩:=memF_spec hS
 clear hS
 have hS:=hS1
 clear hS1
 unfold getSM at hS
 split at hS
 ·rename_i x
  simp only [spec_ok,spec_br,setM_self H] at hS
  have hl:=m.l
  cases ht:thereB m x with
  | false =>
   have hS:=hS.2 ht
   simp (maxSteps:=999999) only [EV0,zy,zx,zw,zv,zu,zq,zp,zj,zk,leT,zg,rvC,zZ,zY,zX,zW,↓zV,↓zU,reduceCtorEq,zQ,yz,yZ,yy,yx,yw,yv,yu,yq,yY,yp,yj,yk,yX,yW,yV,yg,yU,yQ,df126,TGr,sthereG,memF_eq H,sthereM,setM_self H,ht,put,fillP,sub,EVt]
   exact hS
  | true =>
   have hS:=hS.1 ht
   have hb:=there_iff.1 ht
   have h0:m.has x 1=true:=M.has_of (by omega)
   have h1:m.has (x+1) 1=true:=M.has_of (by omega)
   have h2:m.has (x+2) 1=true:=M.has_of (by omega)
   have h3:m.has (x+3) 1=true:=M.has_of (by omega)
   have w1:IntKind.i64.wrap (x+1)=x+1:=wrap64 (by omega) (by omega)
   have w2:IntKind.i64.wrap (x+2)=x+2:=wrap64 (by omega) (by omega)
   have w3:IntKind.i64.wrap (x+3)=x+3:=wrap64 (by omega) (by omega)
   have u0:=m.at_u x
   have u1:=m.at_u (x+1)
   have u2:=m.at_u (x+2)
   simp only [M.slotB,M.slotC] at hS
   obtain ⟨a0,e0⟩:∃ a,m.at x=a:=⟨_,rfl⟩
   obtain ⟨a1,e1⟩:∃ a,m.at (x+1)=a:=⟨_,rfl⟩
   obtain ⟨a2,e2⟩:∃ a,m.at (x+2)=a:=⟨_,rfl⟩
   obtain ⟨a3,e3⟩:∃ a,m.at (x+3)=a:=⟨_,rfl⟩
   rw [e0] at u0 hS
   rw [e1] at u1 hS
   rw [e2] at u2 hS
   rw [e3] at hS
   obtain ⟨a2,rfl,_⟩:=u2.nat
   have t0:((a2:Int)).tmod 65536=(a2:Int)%65536:=Int.tmod_eq_emod_of_nonneg (by omega)
   have t1:((a2:Int)/65536).tmod 65536=(a2:Int)/65536%65536:=Int.tmod_eq_emod_of_nonneg (by omega)
   have t2:((a2:Int)/4294967296).tmod 65536=(a2:Int)/4294967296%65536:=Int.tmod_eq_emod_of_nonneg (by omega)
   have i0:IntKind.i64.wrap ((a2:Int)%65536)=(a2:Int)%65536:=wrap64 (by omega) (by omega)
   have i1:IntKind.i64.wrap ((a2:Int)/65536%65536)=(a2:Int)/65536%65536:=wrap64 (by omega) (by omega)
   have i2:IntKind.i64.wrap ((a2:Int)/4294967296%65536)=(a2:Int)/4294967296%65536:=wrap64 (by omega) (by omega)
   have c2:(281474976710656<=(a2:Int))=¬ ((a2:Int)/281474976710656=0):=propext (by omega)
   cases hd:decB a0 a1 with
   | false =>
    have hS:=hS.2 (by simp only [slotB,hd,Bool.false_and])
    cases hr:slotRB ⟨capZ,(a2:Int)%65536,(a2:Int)/65536%65536,(a2:Int)/4294967296%65536⟩
    all_goals simp only [capZ] at hr
    all_goals simp (maxSteps:=999999) only [EV0,zy,zx,zw,zv,zu,zq,zp,zj,zk,leT,zg,rvC,zZ,zY,zX,zW,↓zV,↓zU,reduceCtorEq,zQ,yz,yZ,yy,yx,yw,yv,yu,yq,yY,yp,yj,yk,yX,yW,yV,yg,yU,yQ,df126,TGr,sthereG,memF_eq H,memF_set H,sthereM,setM_self H,setM_fun H,ht,readG,readM,h0,h1,h2,h3,w1,w2,w3,e0,e1,e2,e3,M.at_tick,M.tick_has,M.tick_tick,decG,slotRG,slotF,cap_eta,u0,u1,u2,t0,t1,t2,i0,i1,i2,hd,hr,min16,min32,capZ,Cap.cl,put,fillP,sub,EVt]
    all_goals exact hS
   | true =>
    by_cases hx:slotB a0 a1 a2 a3=true
    ·have hS:=hS.1 hx
     simp only [slotB,hd,Bool.true_and,Bool.and_eq_true,decide_eq_true_eq,beq_iff_eq] at hx
     obtain ⟨c3,c4,hr⟩:=hx
     simp only [slotC] at hr
     simp only [slotC,Slot.cl] at hS
     simp (maxSteps:=999999) only [EV0,zy,zx,zw,zv,zu,zq,zp,zj,zk,leT,zg,rvC,zZ,zY,zX,zW,↓zV,↓zU,reduceCtorEq,zQ,yz,yZ,yy,yx,yw,yv,yu,yq,yY,yp,yj,yk,yX,yW,yV,yg,yU,yQ,df126,TGr,sthereG,memF_eq H,memF_set H,sthereM,setM_self H,setM_fun H,ht,readG,readM,h0,h1,h2,h3,w1,w2,w3,e0,e1,e2,e3,M.at_tick,M.tick_has,M.tick_tick,decG,slotRG,slotF,cap_eta,u0,u1,u2,t0,t1,t2,i0,i1,i2,hd,hr,c2,c3,c4,min16,min32,capZ,Cap.cl,put,fillP,sub,EVt]
     exact hS
    ·have hS:=hS.2 (by simpa using hx)
     by_cases c3:(a2:Int)/281474976710656=0
     all_goals by_cases c4:a3=0
     all_goals cases hr:slotRB (slotC a0 a1 a2)
     all_goals try (exfalso; apply hx; simp [slotB,hd,c3,c4,hr]; done)
     all_goals simp only [slotC] at hr
     all_goals simp (maxSteps:=999999) only [EV0,zy,zx,zw,zv,zu,zq,zp,zj,zk,leT,zg,rvC,zZ,zY,zX,zW,↓zV,↓zU,reduceCtorEq,zQ,yz,yZ,yy,yx,yw,yv,yu,yq,yY,yp,yj,yk,yX,yW,yV,yg,yU,yQ,df126,TGr,sthereG,memF_eq H,memF_set H,sthereM,setM_self H,setM_fun H,ht,readG,readM,h0,h1,h2,h3,w1,w2,w3,e0,e1,e2,e3,M.at_tick,M.tick_has,M.tick_tick,decG,slotRG,slotF,cap_eta,u0,u1,u2,t0,t1,t2,i0,i1,i2,hd,hr,c2,c3,c4,min16,min32,capZ,Cap.cl,put,fillP,sub,EVt]
     all_goals exact hS
 ·exact hS.elim

/-! ### Empty -/
def emptySM (b:Nat) (m:M) (st:M->List Blk):List V->Res
 | [.s (.i .i64 a)]=>.br (thereB m a) (.br (m.slotB a) (.ok (.tup [.s (.b (m.slotC a).isZ), .s (.i .i64 0)]) [] (st (m.tick 4))) (.ok (.tup [.s (.b false), .s (.i .i64 110)]) [] (st (m.tick 4))))
   (.ok (.tup [.s (.b false), .s (.i .i64 20)]) [] (st m))
 | _=>.bad
noncomputable def emptySG:=memF emptySM
noncomputable def TEm:Tab:=addT 26 getSG (addT 126 getSG noT)
theorem TEm_snd:TEm.Snd Tryz.prog:=addT_snd ok26 getS_snd (addT_snd ok126 rgetS_snd (noT_snd _))
theorem slot_null {s:Slot} (h:slotRB s=true):(s.cap.ty==0)=s.isZ:=by
 cases hz:s.isZ with
 | true=>rw [Slot.isZ_iff.1 hz]; rfl
 | false =>
  simp only [slotRB,hz,Bool.not_false,Bool.and_true,Bool.and_eq_true,Bool.not_eq_true'] at h
  exact h.1
theorem emptyS_snd:Snd Tryz.prog 125 (FSpec.of emptySG):=snd_run TEm_snd mixed Tryz.func125 dc125 200 fun args h K hc hS=>by
 obtain ⟨a,b,m,rest,rfl,H,hS1⟩:=memF_spec hS
 clear hS
 have hS:=hS1
 clear hS1
 unfold emptySM at hS
 split at hS
 ·rename_i x
  simp only [spec_ok,spec_br,setM_self H] at hS
  cases ht:thereB m x with
  | false =>
   have hS:=hS.2 ht
   simp (maxSteps:=999999) only [EV0,zy,zx,zw,zv,zu,zq,zp,zj,zk,leT,zg,rvC,zZ,zY,zX,zW,↓zV,↓zU,reduceCtorEq,zQ,yz,yZ,yy,yx,yw,yv,yu,yq,yY,yp,yj,yk,yX,yW,yV,yg,yU,yQ,df125,TEm,getSG,memF_eq H,getSM,setM_self H,ht,slotZ,capZ,Slot.cl,put,fillP,sub,EVt]
   exact hS
  | true =>
   have hS:=hS.1 ht
   cases hb:m.slotB x with
   | false =>
    have hS:=hS.2 hb
    simp (maxSteps:=999999) only [EV0,zy,zx,zw,zv,zu,zq,zp,zj,zk,leT,zg,rvC,zZ,zY,zX,zW,↓zV,↓zU,reduceCtorEq,zQ,yz,yZ,yy,yx,yw,yv,yu,yq,yY,yp,yj,yk,yX,yW,yV,yg,yU,yQ,df125,TEm,getSG,memF_eq H,getSM,setM_self H,ht,hb,slotZ,capZ,Slot.cl,put,fillP,sub,EVt]
    exact hS
   | true =>
    have hS:=hS.1 hb
    simp only [Slot.isZ] at hS
    simp (maxSteps:=999999) only [EV0,zy,zx,zw,zv,zu,zq,zp,zj,zk,leT,zg,rvC,zZ,zY,zX,zW,↓zV,↓zU,reduceCtorEq,zQ,yz,yZ,yy,yx,yw,yv,yu,yq,yY,yp,yj,yk,yX,yW,yV,yg,yU,yQ,df125,TEm,getSG,memF_eq H,getSM,setM_self H,ht,hb,slotZ,capZ,Slot.cl,put,fillP,sub,EVt]
    exact hS
 ·exact hS.elim

theorem M.put_tick (m:M) (k:Int) (i:Nat) (x:Int):(m.tick k).put i x=(m.put i x).tick k:=rfl
def Slot.links (s:Slot):Int:=s.prev+65536*s.next+4294967296*s.depth
def M.putS (m:M) (a:Int) (s:Slot):M:=((((m.put a.toNat s.cap.w0).put (a+1).toNat s.cap.num).put (a+2).toNat s.links).put (a+3).toNat 0).tick 4
def putSM (b:Nat) (m:M) (st:M->List Blk):List V->Res
 | [.s (.i .i64 a),x]=>slotF (fun s=>.br (thereB m a) (.br (slotRB s) (.ok (.s (.i .i64 0)) [] (st (m.putS a s))) (.ok (.s (.i .i64 110)) [] (st m))) (.ok (.s (.i .i64 20)) [] (st m))) [x]
 | _=>.bad
noncomputable def putSG:=memF putSM
theorem putSM_spec {b:Nat} {m:M} {st:M->List Blk} {args:List V} {K:V->List Blk->Prop} (h:(putSM b m st args).spec K) :
  ∃ a s,args=[.s (.i .i64 a), .agg s.cl]/\(thereB m a=false->K (.s (.i .i64 20)) (st m))/\(thereB m a=true->slotRB s=false->K (.s (.i .i64 110)) (st m))/\(thereB m a=true->slotRB s=true->K (.s (.i .i64 0)) (st (m.putS a s))):=by
 unfold putSM at h
 split at h
 ·rename_i a x
  obtain ⟨s,e,h⟩:=slotF_spec h
  simp only [List.cons.injEq,and_true] at e
  subst e
  have h:(thereB m a=true->(slotRB s=true->K _ _)/\(slotRB s=false->K _ _))/\(thereB m a=false->K _ _):=h
  exact ⟨a,s,rfl,h.2,fun e=>(h.1 e).2,fun e=>(h.1 e).1⟩
 ·exact h.elim

def pfldG:List V->List Blk->Res
 | [.s (.i .i64 n)],h=>.ok (.agg [.i .i64 16, .i .u64 (IntKind.u64.wrap n)]) [] h
 | _,_=>.bad
theorem pfld_snd:Snd Tryz.prog 139 (FSpec.of pfldG):=snd_run (noT_snd _) mixed Tryz.func139 dc139 100 fun args h K _ hS=>by
 unfold pfldG at hS
 split at hS
 ·simp only [spec_ok] at hS
  simp (maxSteps:=999999) only [EV0,zy,zx,zw,zv,zu,zq,zp,zj,zk,leT,zg,rvC,zZ,zY,zX,zW,↓zV,↓zU,reduceCtorEq,zQ,yz,yZ,yy,yx,yw,yv,yu,yq,yY,yp,yj,yk,yX,yW,yV,yg,yU,yQ,df139,put,fillP,sub,EVt]
  exact hS
 ·exact hS.elim
theorem slotRB_iff {s:Slot} (h:slotRB s=true):rightB s.cap=true/\(0<=s.prev/\s.prev<65536/\s.prev%4=0)/\(0<=s.next/\s.next<65536/\s.next%4=0)/\0<=s.depth/\s.depth<65536:=by
 simp only [slotRB,linkB,Bool.and_eq_true,decide_eq_true_eq,beq_iff_eq] at h
 obtain ⟨_,h1,⟨p1,p2,p3⟩,⟨n1,n2,n3⟩,d1,d2⟩:=h
 rw [Int.tmod_eq_emod_of_nonneg p1] at p3
 rw [Int.tmod_eq_emod_of_nonneg n1] at n3
 exact ⟨h1,⟨p1,p2,p3⟩,⟨n1,n2,n3⟩,d1,d2⟩
theorem links_B {s:Slot} (h:slotRB s=true):packB [⟨16,s.prev⟩,⟨16,s.next⟩,⟨16,s.depth⟩] 0=true:=by
 obtain ⟨_,h1,h2,h3⟩:=slotRB_iff h
 simp only [packB,setB,fieldB,Bool.and_eq_true,decide_eq_true_eq]
 simp only [Int.reduceAdd,Int.reduceSub,reduceLE,reduceToNat,reducePow,true_and,and_true]
 omega
theorem links_V {s:Slot} (h:slotRB s=true):packV [⟨16,s.prev⟩,⟨16,s.next⟩,⟨16,s.depth⟩] 0=s.links:=by
 obtain ⟨_,h1,h2,h3⟩:=slotRB_iff h
 simp only [packV,Int.reduceAdd,reduceToNat,reducePow,Slot.links]
 omega
theorem links_u {s:Slot} (h:slotRB s=true):u64 s.links:=by
 obtain ⟨_,h1,h2,h3⟩:=slotRB_iff h
 simp only [u64,Slot.links]; omega

noncomputable def TPu:Tab:=addT 85 sthereG (addT 89 slotRG (addT 138 encG (addT 139 pfldG (addT 140 packG (addT 141 writeG noT)))))
theorem TPu_snd:TPu.Snd Tryz.prog:=addT_snd ok85 sthere_snd (addT_snd ok89 slotR_snd (addT_snd ok138 enc_snd (addT_snd ok139 pfld_snd (addT_snd ok140 pack_snd (addT_snd ok141 mwrite_snd (noT_snd _))))))
theorem putS_snd:Snd Tryz.prog 79 (FSpec.of putSG):=snd_run TPu_snd mixed Tryz.func79 dc79 300 fun args h K hc hS=>by
 obtain ⟨a,b,m,rest,rfl,H,hS1⟩:=memF_spec hS
 clear hS
 have hS:=hS1
 clear hS1
 obtain ⟨x,s,rfl,q1,q2,q3⟩:=putSM_spec hS
 clear hS
 rw [setM_self H] at q1 q2
 have hl:=m.l
 cases ht:thereB m x with
 | false =>
  have hS:=q1 ht
  simp only [Slot.cl]
  simp (maxSteps:=999999) only [EV0,zy,zx,zw,zv,zu,zq,zp,zj,zk,leT,zg,rvC,zZ,zY,zX,zW,↓zV,↓zU,reduceCtorEq,zQ,yz,yZ,yy,yx,yw,yv,yu,yq,yY,yp,yj,yk,yX,yW,yV,yg,yU,yQ,df79,TPu,sthereG,memF_eq H,sthereM,setM_self H,ht]
  exact hS
 | true =>
  cases hr:slotRB s with
  | false =>
   have hS:=q2 ht hr
   simp only [Slot.cl]
   simp (maxSteps:=999999) only [EV0,zy,zx,zw,zv,zu,zq,zp,zj,zk,leT,zg,rvC,zZ,zY,zX,zW,↓zV,↓zU,reduceCtorEq,zQ,yz,yZ,yy,yx,yw,yv,yu,yq,yY,yp,yj,yk,yX,yW,yV,yg,yU,yQ,df79,TPu,sthereG,memF_eq H,sthereM,setM_self H,ht,slotRG,slotF,slot_eta,hr,sub,EVt]
   exact hS
  | true =>
   have hS:=q3 ht hr
   have hb:=there_iff.1 ht
   obtain ⟨rc,⟨p1,p2,_⟩,⟨n1,n2,_⟩,d1,d2⟩:=slotRB_iff hr
   obtain ⟨u0,u1,_,_⟩:=enc_back rc
   have u2:=links_u hr
   have eB:=links_B hr
   have eV:=links_V hr
   have h0:m.has x 1=true:=M.has_of (by omega)
   have h1:m.has (x+1) 1=true:=M.has_of (by omega)
   have h2:m.has (x+2) 1=true:=M.has_of (by omega)
   have h3:m.has (x+3) 1=true:=M.has_of (by omega)
   have w0:IntKind.i64.wrap (x+0)=x:=by rw [wrap64]<;>omega
   have w1:IntKind.i64.wrap (x+1)=x+1:=wrap64 (by omega) (by omega)
   have w2:IntKind.i64.wrap (x+2)=x+2:=wrap64 (by omega) (by omega)
   have w3:IntKind.i64.wrap (x+3)=x+3:=wrap64 (by omega) (by omega)
   have v1:IntKind.i64.wrap 1=1:=by decide
   have v2:IntKind.i64.wrap 2=2:=by decide
   have v3:IntKind.i64.wrap 3=3:=by decide
   have v4:IntKind.i64.wrap 4=4:=by decide
   have x1:IntKind.u64.wrap s.prev=s.prev:=wrapu p1 (by omega)
   have x2:IntKind.u64.wrap s.next=s.next:=wrapu n1 (by omega)
   have x3:IntKind.u64.wrap s.depth=s.depth:=wrapu d1 (by omega)
   have y1:u64 s.prev:=⟨p1,by omega⟩
   have y2:u64 s.next:=⟨n1,by omega⟩
   have y3:u64 s.depth:=⟨d1,by omega⟩
   have u3:=u64_0
   simp only [M.putS] at hS
   simp only [Slot.cl]
   simp (maxSteps:=999999) only [EV0,zy,zx,zw,zv,zu,zq,zp,zj,zk,leT,zg,rvC,zZ,zY,zX,zW,↓zV,↓zU,reduceCtorEq,zQ,yz,yZ,yy,yx,yw,yv,yu,yq,yY,yp,yj,yk,yX,yW,yV,yg,yU,yQ,df79,TPu,sthereG,memF_eq H,sthereM,setM_self H,ht,slotRG,slotF,slot_eta,cap_eta,hr,rc,encG,capF,pfldG,packG,R.lend,R.unlend,S_ren,C.ren,V.ren,Blk.ren,take_app,drop_app,Nat.not_lt_zero,Nat.lt_irrefl,Nat.add_sub_cancel_left,Nat.not_lt,Nat.le_add_right,decF,arr,Fd.c,List.take,eB,eV,x1,x2,x3,put,fillP,sub,EVt]
   refine ⟨?_,hc, ?_⟩
   ·intro f hf
    simp only [List.mem_cons,List.not_mem_nil,or_false] at hf
    rcases hf with rfl|rfl|rfl<;>assumption
   rw [holds_loop]
   refine swp_loop fun X hX=>?_
   refine hX _ ?_
   refine run_sound (Tab.ok_Γ _) 200 _ _ _ _ ?_
   simp (maxSteps:=999999) only [EV0,zy,zx,zw,zv,zu,zq,zp,zj,zk,leT,zg,rvC,zZ,zY,zX,zW,↓zV,↓zU,reduceCtorEq,zQ,yz,yZ,yy,yx,yw,yv,yu,yq,yY,yp,yj,yk,yX,yW,yV,yg,yU,yQ,TPu,writeG,memF_eq H,memF_set H,writeM,h0,h1,h2,h3,w0,w1,w2,w3,v1,v2,v3,v4,u0,u1,u2,u3,M.put_has,M.tick_has,M.put_tick,M.tick_tick,put,setM_fun H]
   refine hX _ ?_
   refine run_sound (Tab.ok_Γ _) 200 _ _ _ _ ?_
   simp (maxSteps:=999999) only [EV0,zy,zx,zw,zv,zu,zq,zp,zj,zk,leT,zg,rvC,zZ,zY,zX,zW,↓zV,↓zU,reduceCtorEq,zQ,yz,yZ,yy,yx,yw,yv,yu,yq,yY,yp,yj,yk,yX,yW,yV,yg,yU,yQ,TPu,writeG,memF_eq H,memF_set H,writeM,h0,h1,h2,h3,w0,w1,w2,w3,v1,v2,v3,v4,u0,u1,u2,u3,M.put_has,M.tick_has,M.put_tick,M.tick_tick,put,setM_fun H]
   refine hX _ ?_
   refine run_sound (Tab.ok_Γ _) 200 _ _ _ _ ?_
   simp (maxSteps:=999999) only [EV0,zy,zx,zw,zv,zu,zq,zp,zj,zk,leT,zg,rvC,zZ,zY,zX,zW,↓zV,↓zU,reduceCtorEq,zQ,yz,yZ,yy,yx,yw,yv,yu,yq,yY,yp,yj,yk,yX,yW,yV,yg,yU,yQ,TPu,writeG,memF_eq H,memF_set H,writeM,h0,h1,h2,h3,w0,w1,w2,w3,v1,v2,v3,v4,u0,u1,u2,u3,M.put_has,M.tick_has,M.put_tick,M.tick_tick,put,setM_fun H]
   refine hX _ ?_
   refine run_sound (Tab.ok_Γ _) 200 _ _ _ _ ?_
   simp (maxSteps:=999999) only [EV0,zy,zx,zw,zv,zu,zq,zp,zj,zk,leT,zg,rvC,zZ,zY,zX,zW,↓zV,↓zU,reduceCtorEq,zQ,yz,yZ,yy,yx,yw,yv,yu,yq,yY,yp,yj,yk,yX,yW,yV,yg,yU,yQ,TPu,writeG,memF_eq H,memF_set H,writeM,h0,h1,h2,h3,w0,w1,w2,w3,v1,v2,v3,v4,u0,u1,u2,u3,M.put_has,M.tick_has,M.put_tick,M.tick_tick,put,setM_fun H]
   refine hX _ ?_
   refine run_sound (Tab.ok_Γ _) 200 _ _ _ _ ?_
   simp (maxSteps:=999999) only [EV0,zy,zx,zw,zv,zu,zq,zp,zj,zk,leT,zg,rvC,zZ,zY,zX,zW,↓zV,↓zU,reduceCtorEq,zQ,yz,yZ,yy,yx,yw,yv,yu,yq,yY,yp,yj,yk,yX,yW,yV,yg,yU,yQ,TPu,writeG,memF_eq H,memF_set H,writeM,h0,h1,h2,h3,w0,w1,w2,w3,v1,v2,v3,v4,u0,u1,u2,u3,M.put_has,M.tick_has,M.put_tick,M.tick_tick,put,setM_fun H]
   exact hS

theorem rputS_snd:Snd Tryz.prog 118 (FSpec.of putSG):=snd_run TGr_snd mixed Tryz.func118 dc118 300 fun args h K hc hS=>by
 obtain ⟨a,b,m,rest,rfl,H,hS1⟩:=memF_spec hS
 clear hS
 have hS:=hS1
 clear hS1
 obtain ⟨x,s,rfl,q1,q2,q3⟩:=putSM_spec hS
 clear hS
 rw [setM_self H] at q1 q2
 have hl:=m.l
 cases ht:thereB m x with
 | false =>
  have hS:=q1 ht
  simp only [Slot.cl]
  simp (maxSteps:=999999) only [EV0,zy,zx,zw,zv,zu,zq,zp,zj,zk,leT,zg,rvC,zZ,zY,zX,zW,↓zV,↓zU,reduceCtorEq,zQ,yz,yZ,yy,yx,yw,yv,yu,yq,yY,yp,yj,yk,yX,yW,yV,yg,yU,yQ,df118,TGr,sthereG,memF_eq H,sthereM,setM_self H,ht]
  exact hS
 | true =>
  cases hr:slotRB s with
  | false =>
   have hS:=q2 ht hr
   simp only [Slot.cl]
   simp (maxSteps:=999999) only [EV0,zy,zx,zw,zv,zu,zq,zp,zj,zk,leT,zg,rvC,zZ,zY,zX,zW,↓zV,↓zU,reduceCtorEq,zQ,yz,yZ,yy,yx,yw,yv,yu,yq,yY,yp,yj,yk,yX,yW,yV,yg,yU,yQ,df118,TGr,sthereG,memF_eq H,sthereM,setM_self H,ht,slotRG,slotF,slot_eta,hr,sub,EVt]
   exact hS
  | true =>
   have hS:=q3 ht hr
   have hb:=there_iff.1 ht
   obtain ⟨rc,⟨p1,p2,_⟩,⟨n1,n2,_⟩,d1,d2⟩:=slotRB_iff hr
   obtain ⟨u0,u1,_,_⟩:=enc_back rc
   have u2:=links_u hr
   have h0:m.has x 1=true:=M.has_of (by omega)
   have h1:m.has (x+1) 1=true:=M.has_of (by omega)
   have h2:m.has (x+2) 1=true:=M.has_of (by omega)
   have h3:m.has (x+3) 1=true:=M.has_of (by omega)
   have w1:IntKind.i64.wrap (x+1)=x+1:=wrap64 (by omega) (by omega)
   have w2:IntKind.i64.wrap (x+2)=x+2:=wrap64 (by omega) (by omega)
   have w3:IntKind.i64.wrap (x+3)=x+3:=wrap64 (by omega) (by omega)
   have x1:IntKind.u64.wrap s.prev=s.prev:=wrapu p1 (by omega)
   have x2:IntKind.u64.wrap s.next=s.next:=wrapu n1 (by omega)
   have x3:IntKind.u64.wrap s.depth=s.depth:=wrapu d1 (by omega)
   have x4:IntKind.u64.wrap (s.next*65536)=s.next*65536:=wrapu (by omega) (by omega)
   have x5:IntKind.u64.wrap (s.depth*4294967296)=s.depth*4294967296:=wrapu (by omega) (by omega)
   have x6:IntKind.u64.wrap (s.prev+s.next*65536)=s.prev+s.next*65536:=wrapu (by omega) (by omega)
   have x7:IntKind.u64.wrap (s.prev+s.next*65536+s.depth*4294967296)=s.links:=by
    rw [wrapu (by omega) (by omega),Slot.links]; omega
   have u3:=u64_0
   simp only [M.putS] at hS
   simp only [Slot.cl]
   simp (maxSteps:=999999) only [EV0,zy,zx,zw,zv,zu,zq,zp,zj,zk,leT,zg,rvC,zZ,zY,zX,zW,↓zV,↓zU,reduceCtorEq,zQ,yz,yZ,yy,yx,yw,yv,yu,yq,yY,yp,yj,yk,yX,yW,yV,yg,yU,yQ,df118,TGr,sthereG,memF_eq H,memF_set H,sthereM,setM_self H,setM_fun H,ht,slotRG,slotF,slot_eta,cap_eta,hr,rc,encG,capF,writeG,writeM,h0,h1,h2,h3,w1,w2,w3,u0,u1,u2,u3,M.put_has,M.tick_has,M.put_tick,M.tick_tick,x1,x2,x3,x4,x5,x6,x7,min16,min32,put,fillP,sub,EVt]
   exact hS
end Go.Proofs.YtcdfofeolgbnbaaGreat

/- Lists of words: the document's Load,Same. -/
namespace Go.Proofs.YtcdfofeolgbnbaaGreat
open Go.D
set_option linter.all false
set_option maxRecDepth 100000
set_option maxHeartbeats 4000000

theorem eq_of_nth {v w:List Int} (hl:v.length=w.length) (h:∀ i,i<v.length->nth 0 v i=nth 0 w i):v=w :=
 List.ext_getElem hl fun i h1 h2=>by have:=h i h1; rwa [nth_eq h1,nth_eq h2] at this
end Go.Proofs.YtcdfofeolgbnbaaGreat

