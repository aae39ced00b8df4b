/- Package word: Unpack. -/
import Derived.Test.YtcdfofeolgbnbaaGreatZ11
import Derived.Test.YtcdfofeolgbnbaaGreatZ13
import Derived.Test.YtcdfofeolgbnbaaGreatZ15
/- Package word: Pack,Unpack. -/
namespace Go.Proofs.YtcdfofeolgbnbaaGreat
open Go.D
set_option linter.all false
set_option maxRecDepth 100000
set_option maxHeartbeats 4000000

structure Fd where
 b:Int
 v:Int
def Fd.c (f:Fd):List S:=[.i .i64 f.b, .i .u64 f.v]
theorem Fd.c_len (f:Fd):f.c.length=2:=rfl
def Fd.z:Fd:=⟨0,0⟩
def decF:List S->List Fd
 | .i _ b::.i _ v::s=>⟨b,v⟩::decF s
 | _=>[]
theorem decF_arr:∀ L:List Fd,decF (arr Fd.c L)=L
 | []=>rfl
 | l::L=>by simp only [arr,Fd.c,List.cons_append,List.nil_append,decF,decF_arr L]

def packB:List Fd->Int->Bool
 | [],_=>true
 | f::L,at_=>setB at_ f.b f.v&&packB L (at_+f.b)
def packV:List Fd->Int->Int
 | [],_=>0
 | f::L,at_=>((2^at_.toNat*f.v.toNat:Nat):Int)+packV L (at_+f.b)

theorem setV_low {w k m v:Nat} (hw:w<2^k):setV (w:Int) (k:Int) (m:Int) (v:Int)=((w+2^k*v:Nat):Int):=by
 have h1:w<2^(k+m):=Nat.lt_of_lt_of_le hw (Nat.pow_le_pow_right (by decide) (by omega))
 simp only [setV,Int.toNat_natCast,Nat.div_eq_of_lt h1,Nat.mod_eq_of_lt hw,Nat.mul_zero,Nat.zero_add]
 rw [Nat.add_comm]

theorem low_step {w k m v:Nat} (hw:w<2^k) (hv:v<2^m):w+2^k*v<2^(k+m):=by
 have:2^k*(v+1)<=2^k*2^m:=Nat.mul_le_mul_left _ hv
 rw [<-Nat.pow_add,Nat.mul_add] at this
 omega

def packG:List V->List Blk->Res
 | [.s .ns],h=>.ok (.tup [.s (.i .u64 0), .s (.i .i64 0)]) [] h
 | [.s (.sl (.g k) 0 n _)],h=>match h[k]? with
  | some B=>.ob (B.st≠.dead/\B.cells=arr Fd.c (decF B.cells)/\n<=(decF B.cells).length/\n<=9223372036854775807/\∀ f,f∈decF B.cells->u64 f.v)
   (.br (packB ((decF B.cells).take n) 0) (.ok (.tup [.s (.i .u64 (packV ((decF B.cells).take n) 0)), .s (.i .i64 0)]) [] h) (.ok (.tup [.s (.i .u64 0), .s (.i .i64 10)]) [] h))
  | none=>.bad
 | _,_=>.bad

def W2:Tab:=addT 187 setG (addT 151 getG noT)
theorem W2_snd:W2.Snd Tryz.prog:=addT_snd ok187 set_snd (addT_snd ok151 get_snd (noT_snd _))

theorem pack_snd:Snd Tryz.prog 140 (FSpec.of packG):=snd_run W2_snd mixed Tryz.func140 dc140 100 fun args h K _ hS=>by
 unfold packG at hS
 split at hS
 ·rw [spec_ok] at hS
  simp (maxSteps:=999999) only [go_sem,simprocAttr,↓qT,↓qF,df140]
  refine loop_rule (α:=Unit) [] (fun _=>[]) (fun _=>[]) (fun _=>h) (fun _=>True) (fun _=>0) () trivial .refl ?_
  rintro X _ _ _
  refine run_sound (Tab.ok_Γ _) 100 _ _ _ _ ?_
  simp (maxSteps:=999999) only [go_sem,simprocAttr,↓qT,↓qF,Int.lt_irrefl]
  exact hS
 ·rename_i k n c
  split at hS
  ·rename_i B hk
   obtain ⟨⟨hst,hB,hn,hn64,hu⟩,hS⟩:=hS
   simp only [spec_br,spec_ok] at hS
   generalize decF B.cells=L at *
   obtain ⟨F,hF⟩:∃ F,F=L.take n:=⟨_,rfl⟩
   have hFl:F.length=n:=by rw [hF]; simp; omega
   rw [<-hF] at hS
   simp (maxSteps:=999999) only [go_sem,simprocAttr,↓qT,↓qF,df140]
   refine loop_rule (α:=Nat×Nat×Nat) [2,3,4,5,7,8,11,12,13,14,15,16,17,18,19,20,21,22,23,24,25,26,27,28,29,30,31,32] (fun y=>[(4, .s (.i .u64 y.2.2)),(5, .s (.i .i64 y.2.1)),(11, .s (.i .i64 y.1))]) (fun _=>[]) (fun _=>h)
    (fun y=>y.1<=n/\y.2.1<=64/\y.2.2<2^y.2.1/\packB F 0=packB (F.drop y.1) y.2.1/\packV F 0=y.2.2+packV (F.drop y.1) y.2.1) (fun y=>n-y.1) (0,0,0) ⟨by simp,by simp,by simp,by simp,by simp⟩ (Wk.same rfl rfl ?_) ?_
   ·simp (maxSteps:=999999) only [go_sem,simprocAttr,↓qT,↓qF,Int.natCast_zero]
   ·rintro X ⟨i,a,w⟩ ⟨hi,ha,hw,hpb,hpv⟩ IH
    simp only at hi ha hw hpb hpv ⊢
    rcases Nat.lt_or_ge i n with hlt|hge
    ·have I:=idx hlt hn64
     have hiL:i<L.length:=by omega
     have E:sub B.cells (i*2) 2=[.i .i64 (nth Fd.z L i).b, .i .u64 (nth Fd.z L i).v]:=by
      rw [hB,arr_sub Fd.c_len hiL,nth_eq hiL]; rfl
     have hle:i*2+2<=B.cells.length:=by rw [hB,arr_length Fd.c_len]; omega
     have hd:F.drop i=nth Fd.z L i::F.drop (i+1):=by
      rw [List.drop_eq_getElem_cons (by omega),nth_eq hiL]
      congr 1
      subst hF; simp
     obtain ⟨f,hf⟩:∃ f,f=nth Fd.z L i:=⟨_,rfl⟩
     rw [<-hf] at E hd
     have hfu:u64 f.v:=hu f (by rw [hf,nth_eq hiL]; exact List.getElem_mem _)
     obtain ⟨v,hv,hv'⟩:=hfu.nat
     have hw64:u64 (w:Int):=u64_of (Nat.lt_of_lt_of_le hw (by have:=pow_le64 (k:=a) (n:=0) (by omega); simpa using this))
     rw [hd] at hpb hpv
     simp only [packB,packV] at hpb hpv
     cases hs:setB (a:Int) f.b f.v with
     | true =>
      have hs2:=hs
      simp only [setB,Bool.and_eq_true,decide_eq_true_eq] at hs2
      obtain ⟨k',m,e1,e2,h1,h2,h3⟩:=fieldB_nat hs2.1
      have:k'=a:=by omega
      subst this
      have hvm:v<2^m:=by have:=hs2.2; rw [hv,e2] at this; simpa using this
      have hsv:setV (w:Int) (k':Int) f.b f.v=((w+2^k'*v:Nat):Int):=by rw [e2,hv]; exact setV_low hw
      have hwr:IntKind.i64.wrap ((k':Int)+f.b)=((k'+m:Nat):Int):=by rw [wrap64]<;>omega
      refine run_sound (Tab.ok_Γ _) 200 _ _ _ _ ?_
      simp (maxSteps:=999999) only [go_sem,simprocAttr,↓qT,↓qF,I,E,hle,hk,hst,W2,setG,hw64,hfu,hs,hsv,hwr]
      refine IH (i+1,k'+m,w+2^k'*v) _ (by simp only; omega) ⟨by simp only; omega,h3,low_step hw hvm, ?_, ?_⟩ (Wk.keep 0 rfl rfl ?_ ?_ rfl)
      ·rw [hpb,hs,Bool.true_and,e2]; rfl
      ·rw [hpv,hv,e2]
       simp only [Int.toNat_natCast]
       push_cast
       omega
      ·simp (maxSteps:=999999) only [go_sem,simprocAttr,↓qT,↓qF]
      ·simp (maxSteps:=999999) only [go_sem,simprocAttr,↓qT,↓qF]
     | false =>
      refine run_sound (Tab.ok_Γ _) 200 _ _ _ _ ?_
      simp (maxSteps:=999999) only [go_sem,simprocAttr,↓qT,↓qF,I,E,hle,hk,hst,W2,setG,hw64,hfu,hs]
      rw [hs,Bool.false_and] at hpb
      exact hS.2 hpb
    ·have:i=n:=by omega
     subst this
     refine run_sound (Tab.ok_Γ _) 100 _ _ _ _ ?_
     simp (maxSteps:=999999) only [go_sem,simprocAttr,↓qT,↓qF,Int.lt_irrefl]
     have hdn:F.drop i=[]:=List.drop_eq_nil_of_le (by omega)
     rw [hdn] at hpb hpv
     have:=hS.1 hpb
     rw [hpv] at this
     simpa [packV] using this
  ·exact hS.elim
 ·exact hS.elim

/-! ### Unpack -/
def decI:List S->List Int
 | .i _ b::s=>b::decI s
 | _=>[]
def Ic (b:Int):List S:=[.i .i64 b]
def Uc (b:Int):List S:=[.i .u64 b]
theorem Ic_len (b:Int):(Ic b).length=1:=rfl
theorem Uc_len (b:Int):(Uc b).length=1:=rfl
def unpackB (w:Int):List Int->Int->Bool
 | [],at_=>decide (w.toNat/2^at_.toNat=0)
 | n::L,at_=>fieldB at_ n&&unpackB w L (at_+n)
def unpackV (w:Int):List Int->Int->List Int
 | [],_=>[]
 | n::L,at_=>getV w at_ n::unpackV w L (at_+n)

def wordsR (M:List Int) (f:V->V) (h:List Blk):Res :=
 match M with
 | []=>.ok (f (.s .ns)) [] h
 | _=>.all M.length fun c=>.ok (f (.s (.sl (.g h.length) 0 M.length c))) [] (h++[⟨.rw,arr Uc M,c⟩])

def pairV (e:Int):V->V
 | .s x=>.tup [.s x, .s (.i .i64 e)]
 | v=>v

def unpackG:List V->List Blk->Res
 | [.s (.i .u64 w), .s .ns],h=>.ob (u64 w) (.br (decide (w=0)) (.ok (.tup [.s .ns, .s (.i .i64 0)]) [] h) (.ok (.tup [.s .ns, .s (.i .i64 10)]) [] h))
 | [.s (.i .u64 w), .s (.sl (.g k) 0 n _)],h=>match h[k]? with
  | some B=>.ob (u64 w/\B.st≠.dead/\B.cells=arr Ic (decI B.cells)/\n<=(decI B.cells).length/\n<=9223372036854775807)
   (.br (unpackB w ((decI B.cells).take n) 0) (wordsR (unpackV w ((decI B.cells).take n) 0) (pairV 0) h) (.ok (.tup [.s .ns, .s (.i .i64 10)]) [] h))
  | none=>.bad
 | _,_=>.bad



def numG (args:List V) (h:List Blk):Res:=capF (fun c=>.ok (.s (.i .i64 (IntKind.i64.wrap (IntKind.i64.wrap (IntKind.i64.wrap (c.mark+c.guard)+c.badge)+c.vaddr)))) [] h) args
theorem num_snd:Snd Tryz.prog 186 (FSpec.of numG):=snd_run (noT_snd _) mixed Tryz.func186 dc186 100 fun args h K _ hS=>by
 obtain ⟨⟨t,o,b,d,e,g,i,j,k,l,m⟩,rfl,hR⟩:=capF_spec hS
 simp only [Cap.cl,spec_ok] at hR ⊢
 simp (maxSteps:=999999) only [go_sem,simprocAttr,↓qT,↓qF,df186]
 exact hR

def fldG:List V->List Blk->Res
 | [.s (.i .i64 b), .s (.i .i64 n)],h=>.ok (.agg [.i .i64 b, .i .u64 (IntKind.u64.wrap n)]) [] h
 | _,_=>.bad
theorem fld_snd:Snd Tryz.prog 185 (FSpec.of fldG):=snd_run (noT_snd _) mixed Tryz.func185 dc185 100 fun args h K _ hS=>by
 unfold fldG at hS
 split at hS
 ·simp only [spec_ok] at hS
  simp (maxSteps:=999999) only [go_sem,simprocAttr,↓qT,↓qF,df185,put,fillP]
  exact hS
 ·exact hS.elim

def Cap.w0 (c:Cap):Int:=c.ty+16*c.obj+1048576*c.bits+33554432*c.rights+268435456*c.line+4294967296*c.asid+274877906944*c.gbits
def Cap.fs (c:Cap):List Fd:=[⟨4,c.ty⟩,⟨16,c.obj⟩,⟨5,c.bits⟩,⟨3,c.rights⟩,⟨4,c.line⟩,⟨6,c.asid⟩,⟨5,c.gbits⟩]
theorem fs_B {c:Cap} (h:c.RB):packB c.fs 0=true:=by
 obtain ⟨h1,h2,h3,h4,h5,h6,h7,_,_,_,_,_⟩:=h
 simp only [Cap.fs,packB,setB,fieldB,Bool.and_eq_true,decide_eq_true_eq]
 simp only [Int.reduceAdd,Int.reduceSub,Int.reduceLE,Int.reduceToNat,Nat.reducePow,true_and,and_true]
 omega
theorem fs_V {c:Cap} (h:c.RB):packV c.fs 0=c.w0:=by
 obtain ⟨h1,h2,h3,h4,h5,h6,h7,_,_,_,_,_⟩:=h
 simp only [Cap.fs,packV,Int.reduceAdd,Int.reduceToNat,Nat.reducePow,Cap.w0]
 omega

def encG (args:List V) (h:List Blk):Res:=capF (fun c=>.br (rightB c) (.ok (.tup [.s (.i .u64 c.w0), .s (.i .u64 c.num), .s (.i .i64 0)]) [] h) (.ok (.tup [.s (.i .u64 0), .s (.i .u64 0), .s (.i .i64 60)]) [] h)) args
def TE:Tab:=addT 95 rightG (addT 185 fldG (addT 140 packG (addT 186 numG noT)))
theorem TE_snd:TE.Snd Tryz.prog:=addT_snd ok95 right_snd (addT_snd ok185 fld_snd (addT_snd ok140 pack_snd (addT_snd ok186 num_snd (noT_snd _))))
theorem enc_snd:Snd Tryz.prog 138 (FSpec.of encG):=snd_run TE_snd mixed Tryz.func138 dc138 200 fun args h K hc hS=>by
 obtain ⟨c,rfl,hR⟩:=capF_spec hS
 clear hS
 simp only [spec_br,spec_ok] at hR
 cases hr:rightB c with
 | false =>
  have hQ:=hR.2 hr
  clear hR
  obtain ⟨t,o,b,d,e,g,i,j,k,l,m⟩:=c
  simp only [Cap.cl]
  simp (maxSteps:=999999) only [go_sem,simprocAttr,↓qT,↓qF,df138,TE,rightG,capF,hr]
  exact hQ
 | true =>
  have hQ:=hR.1 hr
  clear hR
  have hb:=right_bounds hr
  have eB:=fs_B hb
  have eV:=fs_V hb
  obtain ⟨t,o,b,d,e,g,i,j,k,l,m⟩:=c
  obtain ⟨h1,h2,h3,h4,h5,h6,h7,h8,h9,h10,h11,_⟩:=hb
  simp only at h1 h2 h3 h4 h5 h6 h7 h8 h9 h10 h11
  simp only [Cap.fs] at eB eV
  have u1:=wrapu h1.1 (by omega)
  have u2:=wrapu h2.1 (by omega)
  have u3:=wrapu h3.1 (by omega)
  have u4:=wrapu h4.1 (by omega)
  have u5:=wrapu h5.1 (by omega)
  have u6:=wrapu h6.1 (by omega)
  have u7:=wrapu h7.1 (by omega)
  simp only [Cap.cl]
  simp (maxSteps:=999999) only [go_sem,simprocAttr,↓qT,↓qF,df138,TE,rightG,fldG,numG,packG,capF,hr,u1,u2,u3,u4,u5,u6,u7,put,fillP,R.lend,R.unlend,S_ren,C.ren,V.ren,Blk.ren,take_app,drop_app,Nat.not_lt_zero,Nat.lt_irrefl,Nat.add_sub_cancel_left,Nat.not_lt,Nat.le_add_right,decF,arr,Fd.c,List.take,eB,eV]
  have n1:IntKind.i64.wrap (d+e)=d+e:=wrap64 (by omega) (by omega)
  have n2:IntKind.i64.wrap (d+e+i)=d+e+i:=wrap64 (by omega) (by omega)
  have n3:IntKind.i64.wrap (d+e+i+l)=d+e+i+l:=wrap64 (by omega) (by omega)
  have n4:IntKind.u64.wrap (d+e+i+l)=d+e+i+l:=wrapu (by omega) (by omega)
  rw [n1,n2,n3,n4]
  refine ⟨?_,hc,hQ⟩
  intro f hf
  simp only [List.mem_cons,List.not_mem_nil,or_false] at hf
  rcases hf with rfl|rfl|rfl|rfl|rfl|rfl|rfl<;>simp only [u64]<;>omega

def onlyC (c:Cap):Cap :=
 if c.ty=1 then ⟨1,c.obj,c.bits,c.mark,0,0,0,0,0,0,0⟩ else if c.ty=2 then ⟨2,c.obj,c.bits,0,c.guard,c.gbits,0,0,0,0,0⟩
 else if c.ty=4 then ⟨4,c.obj,0,0,0,0,c.badge,c.rights,0,0,0⟩ else if c.ty=5 then ⟨5,c.obj,0,0,0,0,c.badge,c.rights,0,0,0⟩
 else if c.ty=3 then ⟨3,c.obj,0,0,0,0,0,0,0,0,0⟩ else if c.ty=9 then ⟨9,c.obj,0,0,0,0,0,0,0,0,0⟩
 else if c.ty=6 then ⟨6,c.obj,0,0,0,0,0,0,c.asid,c.vaddr,0⟩ else if c.ty=7 then ⟨7,c.obj,0,0,0,0,0,0,c.asid,0,0⟩
 else if c.ty=8 then ⟨8,c.obj,0,0,0,0,0,c.rights,c.asid,c.vaddr,0⟩ else if c.ty=10 then ⟨10,c.obj,c.bits,c.mark,0,0,0,0,0,0,0⟩
 else if c.ty=12 then ⟨12,0,0,0,0,0,0,0,0,0,c.line⟩ else ⟨c.ty,0,0,0,0,0,0,0,0,0,0⟩

def onlyG (args:List V) (h:List Blk):Res:=capF (fun c=>.ok (.agg (onlyC c).cl) [] h) args
theorem only_snd:Snd Tryz.prog 112 (FSpec.of onlyG):=snd_run (noT_snd _) mixed Tryz.func112 dc112 100 fun args h K _ hS=>by
 obtain ⟨⟨t,o,b,d,e,g,i,j,k,l,m⟩,rfl,hR⟩:=capF_spec hS
 simp only [Cap.cl,spec_ok,onlyC] at hR ⊢
 rcases kinds t with rfl|rfl|rfl|rfl|rfl|rfl|rfl|rfl|rfl|rfl|rfl|rfl|rfl|rfl|⟨k0,k1,k2,k3,k4,k5,k6,k7,k8,k9,k10,k11,k12,k13,ho⟩
 all_goals try simp only [k1,k2,k3,k4,k5,k6,k7,k8,k9,k10,k12,if_false] at hR
 all_goals try simp only [Int.reduceEq,if_true,if_false] at hR
 all_goals try simp (maxSteps:=999999) only [go_sem,simprocAttr,↓qT,↓qF,df112,k1,k2,k3,k4,k5,k6,k7,k8,k9,k10,k12,put]
 all_goals try simp (maxSteps:=999999) only [go_sem,simprocAttr,↓qT,↓qF,df112,put]
 all_goals try exact hR

def shR (a b:Int):Int:=IntKind.i64.wrap (a*2^min b.toNat IntKind.i64.bits)
def rszN (c:Cap):Int :=
 if c.ty=1 then (if 4<=c.bits/\c.bits<=15 then shR 1 c.bits else 0) else if c.ty=2 then (if 1<=c.bits/\c.bits<=8 then shR 4 c.bits else 0)
 else if c.ty=10 then (if 1<=c.bits/\c.bits<=8 then shR 4 c.bits else if c.bits=31 then 64 else 0)
 else if c.ty=3 then 64 else if c.ty=9 then 64 else if c.ty=4 then 4 else if c.ty=5 then 8 else if c.ty=6 then 8 else if c.ty=7 then 8 else if c.ty=8 then 16 else 0
def sizeG (args:List V) (h:List Blk):Res:=capF (fun c=>.ok (.s (.i .i64 (rszN c))) [] h) args
theorem rsize_snd:Snd Tryz.prog 113 (FSpec.of sizeG):=snd_run (noT_snd _) mixed Tryz.func113 dc113 100 fun args h K _ hS=>by
 obtain ⟨⟨t,o,b,d,e,g,i,j,k,l,m⟩,rfl,hR⟩:=capF_spec hS
 simp only [Cap.cl,spec_ok,rszN,shR] at hR ⊢
 rcases kinds t with rfl|rfl|rfl|rfl|rfl|rfl|rfl|rfl|rfl|rfl|rfl|rfl|rfl|rfl|⟨k0,k1,k2,k3,k4,k5,k6,k7,k8,k9,k10,k11,k12,k13,ho⟩
 all_goals try simp only [k1,k2,k3,k4,k5,k6,k7,k8,k9,k10,k12,if_false] at hR
 all_goals try simp only [Int.reduceEq,if_true,if_false] at hR
 all_goals try simp (maxSteps:=999999) only [go_sem,simprocAttr,↓qT,↓qF,df113,k1,k2,k3,k4,k5,k6,k7,k8,k9,k10,k12,put]
 all_goals try simp (maxSteps:=999999) only [go_sem,simprocAttr,↓qT,↓qF,df113,put]
 all_goals try exact hR
 ·exact ⟨fun h=>by omega,close1 (P:=fun n=>K (V.s (S.i .i64 n)) h) hR⟩
 ·exact ⟨fun h=>by omega,close1 (P:=fun n=>K (V.s (S.i .i64 n)) h) hR⟩
 ·have h1:=close1 (P:=fun n=>K (V.s (S.i .i64 n)) h) hR
  exact ⟨fun h=>by omega,h1.1,fun n=>close1 (P:=fun n=>K (V.s (S.i .i64 n)) h) (h1.2 n)⟩

def rinV (n a b:Int):Bool:=decide (a<=n)&&decide (n<=b)
def rinG:List V->List Blk->Res
 | [.s (.i .i64 n), .s (.i .i64 a), .s (.i .i64 b)],h=>.ok (.s (.b (rinV n a b))) [] h
 | _,_=>.bad
theorem rin_snd:Snd Tryz.prog 115 (FSpec.of rinG):=snd_run (noT_snd _) mixed Tryz.func115 dc115 100 fun args h K _ hS=>by
 unfold rinG at hS
 split at hS
 ·simp only [spec_ok,rinV] at hS
  simp (maxSteps:=999999) only [go_sem,simprocAttr,↓qT,↓qF,df115]
  exact hS
 ·exact hS.elim
def adrV (n w:Int):Bool:=decide (1024<=n)&&(decide (n<=65535)&&n.tmod w==0)
def adrG:List V->List Blk->Res
 | [.s (.i .i64 n), .s (.i .i64 w)],h=>.ob (0<w) (.ok (.s (.b (adrV n w))) [] h)
 | _,_=>.bad
theorem adr_snd:Snd Tryz.prog 114 (FSpec.of adrG):=snd_run (noT_snd _) mixed Tryz.func114 dc114 100 fun args h K _ hS=>by
 unfold adrG at hS
 split at hS
 ·obtain ⟨hw,hS⟩:=hS
  simp only [spec_ok,adrV] at hS
  simp (maxSteps:=999999) only [go_sem,simprocAttr,↓qT,↓qF,df114]
  exact ⟨fun _ _=>by omega,hS⟩
 ·exact hS.elim

theorem adr_iff {o w:Int}:adrV o w=true↔¬ (o<1024\/65535<o\/¬ o.tmod w=0):=by
 simp only [adrV,Bool.and_eq_true,decide_eq_true_eq,beq_iff_eq]; omega
theorem close3 {P:Bool->Prop} {A B:Prop} [Decidable A] [Decidable B] {q X X':Bool} (hq:q=true↔¬ B) (hx:X=X') (h:P (if A then (if B then false else X) else false)) :
  (¬ A->P false)/\(A->(¬ q=true->P false)/\(q=true->P X')):=by
 subst hx
 have h1:=close2 h
 exact ⟨h1.1,fun a=>⟨fun n=>(close1 (h1.2 a)).1 (Classical.byContradiction fun c=>n (hq.2 c)),fun y=>(close1 (h1.2 a)).2 (hq.1 y)⟩⟩
theorem sz_law {P:Bool->Prop} {ok Z B:Prop} [Decidable ok] [Decidable Z] [Decidable B] {N N':Int} {q X X':Bool} (hN:ok->N'=N/\0<N) (hn:¬ ok->N'=0) (hq:ok->(q=true↔¬ B)) (hx:ok->X'=X) (hz:¬ ok->X'=false)
  (h:P (if ¬ ok\/¬ Z then false else if 0<N/\B then false else X)) :
  (¬ Z->P false)/\(Z->(0<N'->(¬ q=true->P false)/\(q=true->P X'))/\(¬ 0<N'->P X')):=by
 have h1:=close1 h
 refine ⟨fun z=>h1.1 (.inr z),fun z=>?_⟩
 by_cases o:ok
 ·have h2:=close1 (h1.2 fun c=>c.elim (fun x=>x o) (fun x=>x z))
  obtain ⟨e,p⟩:=hN o
  rw [hx o,e]
  exact ⟨fun _=>⟨fun n=>h2.1 ⟨p,Classical.byContradiction fun c=>n ((hq o).2 c)⟩,fun y=>h2.2 fun c=>(hq o).1 y c.2⟩,fun n=>absurd p n⟩
 ·rw [hz o,hn o]
  have f:=h1.1 (.inl o)
  exact ⟨fun _=>⟨fun _=>f,fun _=>f⟩,fun _=>f⟩
theorem pos2 (n:Nat):(0:Int)<2^n:=Int.pow_pos (by decide)
theorem shR_u {b:Int} (h:4<=b/\b<=15):shR 1 b=uRaw b:=by
 have:b=4\/b=5\/b=6\/b=7\/b=8\/b=9\/b=10\/b=11\/b=12\/b=13\/b=14\/b=15:=by omega
 rcases this with rfl|rfl|rfl|rfl|rfl|rfl|rfl|rfl|rfl|rfl|rfl|rfl<;>decide
theorem shR_n {b:Int} (h:1<=b/\b<=8):shR 4 b=nRaw b:=by
 have:b=1\/b=2\/b=3\/b=4\/b=5\/b=6\/b=7\/b=8:=by omega
 rcases this with rfl|rfl|rfl|rfl|rfl|rfl|rfl|rfl<;>decide
theorem uRaw_pos {b:Int} (h:4<=b/\b<=15):0<uRaw b:=by rw [uRaw_eq h]; exact pos2 _
theorem nRaw_pos {b:Int} (h:1<=b/\b<=8):0<nRaw b:=by rw [nRaw_eq h]; have:=pos2 b.toNat; omega

theorem pool_eq (k:Int):(inV k 63&&k.tmod 8==0)=(rinV k 0 56&&k.tmod 8==0):=by
 rw [Bool.eq_iff_iff]
 simp only [inV,rinV,Bool.and_eq_true,decide_eq_true_eq,beq_iff_eq]
 constructor
 ·rintro ⟨⟨h1,h2⟩,h3⟩
  rw [Int.tmod_eq_emod_of_nonneg h1] at h3
  exact ⟨⟨h1,by omega⟩,by rw [Int.tmod_eq_emod_of_nonneg h1]; exact h3⟩
 ·rintro ⟨⟨h1,h2⟩,h3⟩
  exact ⟨⟨h1,by omega⟩,h3⟩
theorem table_eq (k l:Int):mapV k l 1=(rinV k 0 63&&(rinV l 0 65535&&(decide (0<k)||l==0))):=by
 simp [mapV,inV,rinV]
theorem frame_eq (k l:Int) (x:Bool):(x&&mapV k l 16)=(x&&(rinV k 0 63&&(rinV l 0 65520&&(l.tmod 16==0&&(decide (0<k)||l==0))))):=by
 congr 1
 rw [Bool.eq_iff_iff]
 simp only [mapV,inV,rinV,Bool.and_eq_true,Bool.or_eq_true,decide_eq_true_eq,beq_iff_eq]
 constructor
 ·rintro ⟨h0,⟨h1,h2⟩,h3,h4⟩
  rw [Int.tmod_eq_emod_of_nonneg h1] at h3
  exact ⟨h0,⟨h1,by omega⟩,by rw [Int.tmod_eq_emod_of_nonneg h1]; exact h3,h4⟩
 ·rintro ⟨h0,⟨h1,h2⟩,h3,h4⟩
  exact ⟨h0,⟨h1,by omega⟩,h3,h4⟩
theorem zrange {b:Int}:((if b=31 then true else nOk b)=true)↔b=31\/(1<=b/\b<=8):=by
 split
 ·simp [*]
 ·rw [nOk_iff]; simp [*]

def TQ:Tab:=addT 115 rinG (addT 114 adrG (addT 112 onlyG (addT 113 sizeG noT)))
theorem TQ_snd:TQ.Snd Tryz.prog:=addT_snd ok115 rin_snd (addT_snd ok114 adr_snd (addT_snd ok112 only_snd (addT_snd ok113 rsize_snd (noT_snd _))))

theorem rright_snd:Snd Tryz.prog 42 (FSpec.of rightG):=snd_run TQ_snd mixed Tryz.func42 dc42 200 fun args h K _ hS=>by
 obtain ⟨⟨t,o,b,d,e,g,i,j,k,l,m⟩,rfl,hR⟩:=capF_spec hS
 clear hS
 simp only [Cap.cl,spec_ok,rightB] at hR ⊢
 obtain ⟨P,hP⟩:∃ P:Bool->Prop,P=fun B=>K (V.s (S.b B)) h:=⟨_,rfl⟩
 rcases kinds t with rfl|rfl|rfl|rfl|rfl|rfl|rfl|rfl|rfl|rfl|rfl|rfl|rfl|rfl|⟨k0,k1,k2,k3,k4,k5,k6,k7,k8,k9,k10,k11,k12,k13,ho⟩
 all_goals try simp only [k0,k1,k2,k3,k4,k5,k6,k7,k8,k9,k10,k11,k12,k13,if_false] at hR
 all_goals try simp only [Int.reduceEq,if_true,if_false] at hR
 all_goals try simp (maxSteps:=999999) only [go_sem,simprocAttr,↓qT,↓qF,df42,TQ,rinG,adrG,onlyG,sizeG,capF,rszN,onlyC,Cap.cl,k0,k1,k2,k3,k4,k5,k6,k7,k8,k9,k10,k11,k12,k13]
 all_goals try simp (maxSteps:=999999) only [go_sem,simprocAttr,↓qT,↓qF,df42,TQ,rinG,adrG,onlyG,sizeG,capF,rszN,onlyC,Cap.cl]
 ·exact close2 (P:=fun B=>K (V.s (S.b B)) h) hR
 ·refine ⟨fun _ h=>h,sz_law (P:=fun B=>K (V.s (S.b B)) h) ?_ ?_ ?_ ?_ ?_ hR⟩
  ·intro ok; rw [if_pos ok,shR_u ok]; exact ⟨rfl,uRaw_pos ok⟩
  ·intro ok; rw [if_neg ok]
  ·intro ok; rw [if_pos ok,shR_u ok]; exact adr_iff
  ·intro ok; rw [if_pos ok,shR_u ok,decide_eq_true (uRaw_pos ok)]; rfl
  ·intro ok; rw [if_neg ok]; rfl
 ·refine ⟨fun _ _ _ y=>(inV_iff.1 y).1,fun _ h=>h,fun _ _ _ _ y=>(inV_iff.1 y).1,sz_law (P:=fun B=>K (V.s (S.b B)) h) ?_ ?_ ?_ ?_ ?_ hR⟩
  ·intro ok; have ok:=nOk_iff.1 ok; rw [if_pos ok,shR_n ok]; exact ⟨rfl,nRaw_pos ok⟩
  ·intro ok; have ok:=fun x=>ok (nOk_iff.2 x); rw [if_neg ok]
  ·intro ok; have ok:=nOk_iff.1 ok; rw [if_pos ok,shR_n ok]; exact adr_iff
  ·intro ok; have ok:=nOk_iff.1 ok; rw [if_pos ok,shR_n ok,decide_eq_true (nRaw_pos ok)]; rfl
  ·intro ok; have ok:=fun x=>ok (nOk_iff.2 x); rw [if_neg ok]; rfl
 ·exact close3 (P:=fun B=>K (V.s (S.b B)) h) adr_iff rfl hR
 ·exact close3 (P:=fun B=>K (V.s (S.b B)) h) adr_iff rfl hR
 ·exact close3 (P:=fun B=>K (V.s (S.b B)) h) adr_iff rfl hR
 ·exact close3 (P:=fun B=>K (V.s (S.b B)) h) adr_iff (table_eq _ _) hR
 ·exact close3 (P:=fun B=>K (V.s (S.b B)) h) adr_iff (pool_eq _) hR
 ·exact close3 (P:=fun B=>K (V.s (S.b B)) h) adr_iff (frame_eq _ _ _) hR
 ·exact close3 (P:=fun B=>K (V.s (S.b B)) h) adr_iff rfl hR
 ·have r:=sz_law (P:=fun B=>K (V.s (S.b B)) h) (N':=if 1<=b/\b<=8 then shR 4 b else if b=31 then 64 else 0) (q:=adrV o (if 1<=b/\b<=8 then shR 4 b else if b=31 then 64 else 0))
   (X':=if b=31 then rinV d 0 3 else decide (0<if 1<=b/\b<=8 then shR 4 b else if b=31 then 64 else 0)&&rinV d 0 (IntKind.i64.wrap ((if 1<=b/\b<=8 then shR 4 b else if b=31 then 64 else 0).tdiv 4))) ?_ ?_ ?_ ?_ ?_ hR
  ·exact ⟨fun _ h=>h,r.1,fun z=>⟨fun p=>⟨((r.2 z).1 p).1,fun a=>close1 (P:=fun B=>K (V.s (S.b B)) h) (((r.2 z).1 p).2 a)⟩,fun p=>close1 (P:=fun B=>K (V.s (S.b B)) h) ((r.2 z).2 p)⟩⟩
  ·intro ok
   rcases zrange.1 ok with rfl|ok
   ·exact ⟨rfl,by decide⟩
   ·rw [if_pos ok,shR_n ok,if_neg (by omega)]; exact ⟨rfl,nRaw_pos ok⟩
  ·intro ok
   have ok:=fun x=>ok (zrange.2 x)
   rw [if_neg (fun x=>ok (.inr x)),if_neg (fun x=>ok (.inl x))]
  ·intro ok
   rcases zrange.1 ok with rfl|ok
   ·exact adr_iff
   ·rw [if_pos ok,shR_n ok,if_neg (by omega)]; exact adr_iff
  ·intro ok
   rcases zrange.1 ok with rfl|ok
   ·rfl
   ·rw [if_pos ok,shR_n ok,if_neg (by omega),if_neg (by omega),decide_eq_true (nRaw_pos ok),if_neg (by omega)]; rfl
  ·intro ok
   have ok:=fun x=>ok (zrange.2 x)
   rw [if_neg (fun x=>ok (.inr x)),if_neg (fun x=>ok (.inl x)),if_neg (fun x=>ok (.inl x))]; rfl
 ·exact close2 (P:=fun B=>K (V.s (S.b B)) h) hR
 ·exact close2 (P:=fun B=>K (V.s (S.b B)) h) hR
 ·exact close2 (P:=fun B=>K (V.s (S.b B)) h) hR
 ·exact ⟨fun _=>hR,fun _=>hR⟩
end Go.Proofs.YtcdfofeolgbnbaaGreat

/- The document's Encode. -/
namespace Go.Proofs.YtcdfofeolgbnbaaGreat
open Go.D
open Nat (reduceAdd reducePow reduceMul reduceSub reduceLeDiff reduceLT reduceEqDiff)
open Int (reduceNeg reduceLE reduceEq reduceNe reduceToNat)
open Go.D renaming istep → zy,pickR → zx,bin1R → zw,un1R → zv,eqS → zu,eq1 → zq,cmpS → zp,cmp1 → zj,isNil → zk,shows → zg,result → zZ,qT → zV,qF → zU
open List renaming set → zY,replicate → zX
open Option renaming map → zW
open Nat renaming reduceAdd → zQ,reducePow → yz,reduceMul → yy,reduceSub → yx,reduceLeDiff → yw,reduceLT → yv,reduceEqDiff → yu
open Int renaming reduceNeg → yq,reduceLE → yp,reduceEq → yj,reduceNe → yk,reduceToNat → yg,reducePow → yZ,reduceLT → yY,reduceAdd → yX,reduceSub → yW,reduceMul → yV,reduceBEq → yU,reduceBNe → yQ
set_option linter.all false
set_option maxRecDepth 100000
set_option maxHeartbeats 4000000

def TF:Tab:=addT 42 rightG noT
theorem TF_snd:TF.Snd Tryz.prog:=addT_snd ok42 rright_snd (noT_snd _)
theorem renc_snd:Snd Tryz.prog 174 (FSpec.of encG):=snd_run TF_snd mixed Tryz.func174 dc174 200 fun args h K hc hS=>by
 obtain ⟨c,rfl,hR⟩:=capF_spec hS
 clear hS
 simp only [spec_br,spec_ok] at hR
 cases hr:rightB c with
 | false =>
  have hQ:=hR.2 hr
  clear hR
  obtain ⟨t,o,b,d,e,g,i,j,k,l,m⟩:=c
  simp only [Cap.cl]
  simp (maxSteps:=999999) only [EV0,zy,zx,zw,zv,zu,zq,zp,zj,zk,leT,zg,rvC,zZ,zY,zX,zW,↓zV,↓zU,reduceCtorEq,zQ,yz,yZ,yy,yx,yw,yv,yu,yq,yY,yp,yj,yk,yX,yW,yV,yg,yU,yQ,df174,TF,rightG,capF,hr]
  exact hQ
 | true =>
  have hQ:=hR.1 hr
  clear hR
  have hb:=right_bounds hr
  obtain ⟨t,o,b,d,e,g,i,j,k,l,m⟩:=c
  obtain ⟨h1,h2,h3,h4,h5,h6,h7,h8,h9,h10,h11,one⟩:=hb
  simp only at h1 h2 h3 h4 h5 h6 h7 h8 h9 h10 h11 one
  have u1:=wrapu h1.1 (by omega)
  have u2:=wrapu h2.1 (by omega)
  have u3:=wrapu h3.1 (by omega)
  have u4:=wrapu h4.1 (by omega)
  have u5:=wrapu h5.1 (by omega)
  have u6:=wrapu h6.1 (by omega)
  have u7:=wrapu h7.1 (by omega)
  have m4:min 4 IntKind.u64.bits=4:=rfl
  have m20:min 20 IntKind.u64.bits=20:=rfl
  have m25:min 25 IntKind.u64.bits=25:=rfl
  have m28:min 28 IntKind.u64.bits=28:=rfl
  have m32:min 32 IntKind.u64.bits=32:=rfl
  have m38:min 38 IntKind.u64.bits=38:=rfl
  have v2:IntKind.u64.wrap (o*16)=o*16:=wrapu (by omega) (by omega)
  have v3:IntKind.u64.wrap (b*1048576)=b*1048576:=wrapu (by omega) (by omega)
  have v4:IntKind.u64.wrap (j*33554432)=j*33554432:=wrapu (by omega) (by omega)
  have v5:IntKind.u64.wrap (m*268435456)=m*268435456:=wrapu (by omega) (by omega)
  have v6:IntKind.u64.wrap (k*4294967296)=k*4294967296:=wrapu (by omega) (by omega)
  have v7:IntKind.u64.wrap (g*274877906944)=g*274877906944:=wrapu (by omega) (by omega)
  have s2:IntKind.u64.wrap (t+o*16)=t+o*16:=wrapu (by omega) (by omega)
  have s3:IntKind.u64.wrap (t+o*16+b*1048576)=t+o*16+b*1048576:=wrapu (by omega) (by omega)
  have s4:IntKind.u64.wrap (t+o*16+b*1048576+j*33554432)=t+o*16+b*1048576+j*33554432:=wrapu (by omega) (by omega)
  have s5:IntKind.u64.wrap (t+o*16+b*1048576+j*33554432+m*268435456)=t+o*16+b*1048576+j*33554432+m*268435456:=wrapu (by omega) (by omega)
  have s6:IntKind.u64.wrap (t+o*16+b*1048576+j*33554432+m*268435456+k*4294967296)=t+o*16+b*1048576+j*33554432+m*268435456+k*4294967296:=wrapu (by omega) (by omega)
  have s7:IntKind.u64.wrap (t+o*16+b*1048576+j*33554432+m*268435456+k*4294967296+g*274877906944)=t+o*16+b*1048576+j*33554432+m*268435456+k*4294967296+g*274877906944:=wrapu (by omega) (by omega)
  have w0:(⟨t,o,b,d,e,g,i,j,k,l,m⟩:Cap).w0=t+o*16+b*1048576+j*33554432+m*268435456+k*4294967296+g*274877906944:=by simp only [Cap.w0]; omega
  have w1:(⟨t,o,b,d,e,g,i,j,k,l,m⟩:Cap).num=d+e+i+l:=rfl
  rw [w0,w1] at hQ
  have x1:=wrapu (n:=d) (by omega) (by omega)
  have x2:=wrapu (n:=e) (by omega) (by omega)
  have x3:=wrapu (n:=i) (by omega) (by omega)
  have x4:=wrapu (n:=l) (by omega) (by omega)
  simp only [Cap.cl]
  have kk:t=2\/t=4\/t=5\/t=6\/t=8\/(¬ t=2/\¬ t=4/\¬ t=5/\¬ t=6/\¬ t=8):=by omega
  rcases kk with ht|ht|ht|ht|ht|⟨k2,k4,k5,k6,k8⟩
  case inr.inr.inr.inr.inr =>
   have eq:d+e+i+l=d:=by simp only [k2,k4,k5,k6,k8,if_false,or_self] at one; omega
   rw [eq] at hQ
   simp (maxSteps:=999999) only [EV0,zy,zx,zw,zv,zu,zq,zp,zj,zk,leT,zg,rvC,zZ,zY,zX,zW,↓zV,↓zU,reduceCtorEq,zQ,yz,yZ,yy,yx,yw,yv,yu,yq,yY,yp,yj,yk,yX,yW,yV,yg,yU,yQ,df174,TF,rightG,capF,hr,u1,u2,u3,u4,u5,u6,u7,m4,m20,m25,m28,m32,m38,v2,v3,v4,v5,v6,v7,s2,s3,s4,s5,s6,s7,x1,k2,k4,k5,k6,k8]
   exact hQ
  case inl =>
   have eq:d+e+i+l=e:=by simp only [ht,if_true] at one; omega
   rw [eq] at hQ
   subst ht
   simp (maxSteps:=999999) only [EV0,zy,zx,zw,zv,zu,zq,zp,zj,zk,leT,zg,rvC,zZ,zY,zX,zW,↓zV,↓zU,reduceCtorEq,zQ,yz,yZ,yy,yx,yw,yv,yu,yq,yY,yp,yj,yk,yX,yW,yV,yg,yU,yQ,df174,TF,rightG,capF,hr,u1,u2,u3,u4,u5,u6,u7,m4,m20,m25,m28,m32,m38,v2,v3,v4,v5,v6,v7,s2,s3,s4,s5,s6,s7,x2]
   exact hQ
  case inr.inl =>
   have eq:d+e+i+l=i:=by simp only [ht,reduceEq,if_false,or_false,true_or,if_true] at one; omega
   rw [eq] at hQ
   subst ht
   simp (maxSteps:=999999) only [EV0,zy,zx,zw,zv,zu,zq,zp,zj,zk,leT,zg,rvC,zZ,zY,zX,zW,↓zV,↓zU,reduceCtorEq,zQ,yz,yZ,yy,yx,yw,yv,yu,yq,yY,yp,yj,yk,yX,yW,yV,yg,yU,yQ,df174,TF,rightG,capF,hr,u1,u2,u3,u4,u5,u6,u7,m4,m20,m25,m28,m32,m38,v2,v3,v4,v5,v6,v7,s2,s3,s4,s5,s6,s7,x3]
   exact hQ
  case inr.inr.inl =>
   have eq:d+e+i+l=i:=by simp only [ht,reduceEq,if_false,or_true,if_true] at one; omega
   rw [eq] at hQ
   subst ht
   simp (maxSteps:=999999) only [EV0,zy,zx,zw,zv,zu,zq,zp,zj,zk,leT,zg,rvC,zZ,zY,zX,zW,↓zV,↓zU,reduceCtorEq,zQ,yz,yZ,yy,yx,yw,yv,yu,yq,yY,yp,yj,yk,yX,yW,yV,yg,yU,yQ,df174,TF,rightG,capF,hr,u1,u2,u3,u4,u5,u6,u7,m4,m20,m25,m28,m32,m38,v2,v3,v4,v5,v6,v7,s2,s3,s4,s5,s6,s7,x3]
   exact hQ
  case inr.inr.inr.inl =>
   have eq:d+e+i+l=l:=by simp only [ht,reduceEq,if_false,or_self,true_or,if_true] at one; omega
   rw [eq] at hQ
   subst ht
   simp (maxSteps:=999999) only [EV0,zy,zx,zw,zv,zu,zq,zp,zj,zk,leT,zg,rvC,zZ,zY,zX,zW,↓zV,↓zU,reduceCtorEq,zQ,yz,yZ,yy,yx,yw,yv,yu,yq,yY,yp,yj,yk,yX,yW,yV,yg,yU,yQ,df174,TF,rightG,capF,hr,u1,u2,u3,u4,u5,u6,u7,m4,m20,m25,m28,m32,m38,v2,v3,v4,v5,v6,v7,s2,s3,s4,s5,s6,s7,x4]
   exact hQ
  case inr.inr.inr.inr.inl =>
   have eq:d+e+i+l=l:=by simp only [ht,reduceEq,if_false,or_self,or_true,if_true] at one; omega
   rw [eq] at hQ
   subst ht
   simp (maxSteps:=999999) only [EV0,zy,zx,zw,zv,zu,zq,zp,zj,zk,leT,zg,rvC,zZ,zY,zX,zW,↓zV,↓zU,reduceCtorEq,zQ,yz,yZ,yy,yx,yw,yv,yu,yq,yY,yp,yj,yk,yX,yW,yV,yg,yU,yQ,df174,TF,rightG,capF,hr,u1,u2,u3,u4,u5,u6,u7,m4,m20,m25,m28,m32,m38,v2,v3,v4,v5,v6,v7,s2,s3,s4,s5,s6,s7,x4]
   exact hQ

def slT:List Int->Nat->V
 | [],_=>.s .ns
 | y::M,c=>.s (.sl (.l 0) 0 (M.length+1) c)
def lsT:List Int->Nat->List Blk
 | [],_=>[]
 | y::M,c=>[⟨.rw,arr Uc (y::M),c⟩]

theorem uc_all (p:S->Bool) (hp:∀ n,p (.i .u64 n)=true) (M:List Int):(arr Uc M).all p=true:=by
 rw [arr_all]; simp [Uc,hp]
theorem uc_ren (ρ:R->R) (M:List Int):(arr Uc M).map (S.ren ρ)=arr Uc M:=by
 induction M with
 | nil=>rfl
 | cons y M ih=>simp only [arr,List.map_append,ih]; rfl

theorem words_leave {h:List Blk} {K:V->List Blk->Prop} {y e:Int} {M:List Int} {c:Nat} (hc:M.length+1<=c) (hS:(wordsR (y::M) (pairV e) h).spec K) :
  leaveB (.tup [.s (.sl (.l 0) 0 (M.length+1) c), .s (.i .i64 e)]) [⟨.rw,arr Uc (y::M),c⟩] h K false:=by
 have hS:=hS c hc
 refine ⟨[0],by simp,rfl, ?_⟩
 simp only [getAll,List.getElem?_cons_zero]
 refine ⟨?_, ?_⟩
 ·simp only [List.all_cons,List.all_nil,decide_true,Bool.true_and,Bool.and_true]
  exact uc_all _ (fun _=>rfl) (y::M)
 ·refine cast ?_ hS
  simp only [List.map_cons,List.map_nil,Blk.ren,uc_ren]
  rfl

theorem div_dec (w a:Nat):decide (((w:Int).toNat)/2^((a:Int).toNat)=0)=decide ((w:Int)/2^a=0):=by
 simp only [Int.toNat_natCast]
 have:((w:Int)/2^a=0)↔w/2^a=0:=by
  constructor
  ·intro h; have:((w/2^a:Nat):Int)=0:=by push_cast; exact h
   omega
  ·intro h; have:((w/2^a:Nat):Int)=0:=by rw [h]; rfl
   push_cast at this; exact this
 simp only [this]

theorem unpack_loop {h:List Blk} {K:V->List Blk->Prop} {k n c0:Nat} {w:Nat} {B:Blk} {L:List Int} (hw:w<18446744073709551616) (hk:h[k]?=some B) (hst:B.st≠.dead) (hB:B.cells=arr Ic L) (hn:n<=L.length) (hn64:n<=9223372036854775807) (hc:clean h.length h=true)
  (hS:(Res.br (unpackB (w:Int) (L.take n) 0) (wordsR (unpackV (w:Int) (L.take n) 0) (pairV 0) h) (.ok (.tup [.s .ns, .s (.i .i64 10)]) [] h)).spec K) :
  holds W2.Γ h.length (finP df88.res K) (run W2 100 [.c df88.body] ([V.s (.i .u64 w),V.s (.sl (.g k) 0 n c0)]++List.replicate 39 (.tup [])) [] h):=by
 simp only [spec_br,spec_ok] at hS
 obtain ⟨F,hF⟩:∃ F,F=L.take n:=⟨_,rfl⟩
 have hFl:F.length=n:=by rw [hF]; simp; omega
 rw [<-hF] at hS
 have hwu:=u64_of hw
 simp (maxSteps:=999999) only [EV0,zy,zx,zw,zv,zu,zq,zp,zj,zk,leT,zg,rvC,zZ,zY,zX,zW,↓zV,↓zU,reduceCtorEq,zQ,yz,yZ,yy,yx,yw,yv,yu,yq,yY,yp,yj,yk,yX,yW,yV,yg,yU,yQ,df88]
 refine loop_rule (α:=Nat×Nat×List Int×Nat) [4,5,6,7,9,10,11,14,15,16,17,18,19,20,21,22,23,24,25,26,27,28,29,30,31,32,33,34,35] (fun y=>[(6,slT y.2.2.1 y.2.2.2),(7, .s (.i .i64 y.2.1)),(14, .s (.i .i64 y.1))]) (fun y=>lsT y.2.2.1 y.2.2.2) (fun _=>h)
  (fun y=>y.1<=n/\y.2.1<=64/\y.2.2.1.length=y.1/\y.1<=y.2.1/\y.2.2.1.length<=y.2.2.2/\unpackB w F 0=unpackB w (F.drop y.1) y.2.1/\unpackV w F 0=y.2.2.1++unpackV w (F.drop y.1) y.2.1) (fun y=>n-y.1) (0,0,[],0) ⟨by simp,by simp,rfl,by simp,by simp,by simp,by simp⟩ (Wk.same rfl rfl ?_) ?_
 ·simp (maxSteps:=999999) only [EV0,zy,zx,zw,zv,zu,zq,zp,zj,zk,leT,zg,rvC,zZ,zY,zX,zW,↓zV,↓zU,reduceCtorEq,zQ,yz,yZ,yy,yx,yw,yv,yu,yq,yY,yp,yj,yk,yX,yW,yV,yg,yU,yQ,Int.natCast_zero,slT]
 ·rintro X ⟨i,a,M,c⟩ ⟨hi,ha,hM,hia,hMc,hpb,hpv⟩ IH
  simp only at hi ha hM hia hMc hpb hpv ⊢
  rcases Nat.lt_or_ge i n with hlt|hge
  ·have I:=idx hlt hn64
   have hiL:i<L.length:=by omega
   obtain ⟨b,hb⟩:∃ b,b=nth 0 L i:=⟨_,rfl⟩
   have E:B.cells[i]?=some (.i .i64 b):=by
    have:=arr_get0 Ic_len hiL (by omega)
    rw [Nat.mul_one] at this
    rw [hB,this,hb,nth_eq hiL]; rfl
   have hd:F.drop i=b::F.drop (i+1):=by
    rw [List.drop_eq_getElem_cons (by omega),hb,nth_eq hiL]
    congr 1
    subst hF; simp
   rw [hd] at hpb hpv
   simp only [unpackB,unpackV] at hpb hpv
   cases hf:fieldB (a:Int) b with
   | true =>
    obtain ⟨a',m,e1,e2,h1,h2,h3⟩:=fieldB_nat hf
    have:a'=a:=by omega
    subst this
    have hwr:IntKind.i64.wrap ((a':Int)+b)=((a'+m:Nat):Int):=by rw [wrap64]<;>omega
    have hpb':unpackB w F 0=unpackB w (F.drop (i+1)) ((a'+m:Nat):Int):=by rw [hpb,hf,Bool.true_and,e2]; rfl
    cases M with
    | nil =>
     have hkl:k<h.length:=(List.getElem?_eq_some_iff.1 hk).1
     simp only [slT,lsT]
     refine run_sound (Tab.ok_Γ _) 200 _ _ _ _ ?_
     simp (maxSteps:=999999) only [EV0,zy,zx,zw,zv,zu,zq,zp,zj,zk,leT,zg,rvC,zZ,zY,zX,zW,↓zV,↓zU,reduceCtorEq,zQ,yz,yZ,yy,yx,yw,yv,yu,yq,yY,yp,yj,yk,yX,yW,yV,yg,yU,yQ,I,E,hk,hst,W2,getG,hwu,hf,hwr]
     intro c' hc'
     refine IH (i+1,a'+m,[getV w a' b],c') _ (by simp only; omega) ⟨by simp only; omega,h3,by simp at hM ⊢; omega,by simp only; omega,by simpa using hc',hpb', ?_⟩ (Wk.shift 1 ?_ (Nat.le_refl _) ?_ ?_ hc ?_ (clean_ren hc 1))
     ·rw [hpv,e2]; rfl
     ·simp [lsT,arr,Uc,Blk.ren,S.ren]
     ·simp (maxSteps:=999999) only [EV0,zy,zx,zw,zv,zu,zq,zp,zj,zk,leT,zg,rvC,zZ,zY,zX,zW,↓zV,↓zU,reduceCtorEq,zQ,yz,yZ,yy,yx,yw,yv,yu,yq,yY,yp,yj,yk,yX,yW,yV,yg,yU,yQ,slT,V.ren,S.ren,R.shift,Nat.add_comm]
     ·simp (maxSteps:=999999) only [EV0,zy,zx,zw,zv,zu,zq,zp,zj,zk,leT,zg,rvC,zZ,zY,zX,zW,↓zV,↓zU,reduceCtorEq,zQ,yz,yZ,yy,yx,yw,yv,yu,yq,yY,yp,yj,yk,yX,yW,yV,yg,yU,yQ,slT,lsT,hkl]
     ·simp (maxSteps:=999999) only [EV0,zy,zx,zw,zv,zu,zq,zp,zj,zk,leT,zg,rvC,zZ,zY,zX,zW,↓zV,↓zU,reduceCtorEq,zQ,yz,yZ,yy,yx,yw,yv,yu,yq,yY,yp,yj,yk,yX,yW,yV,yg,yU,yQ,lsT,arr,Uc,hkl,hst]
    | cons y M =>
     have hl:=arr_length Uc_len (y::M)
     have hk1:known (arr Uc (y::M))=true:=uc_all _ (fun _=>rfl) _
     have hk2:∀ k,((arr Uc (y::M)).all fun s=>!S.names k s)=true:=fun k=>uc_all _ (fun _=>rfl) _
     have hMl:M.length+1=i:=by simpa using hM
     have hroom:M.length+1<=64:=by omega
     simp only [slT,lsT]
     refine run_sound (Tab.ok_Γ _) 200 _ _ _ _ ?_
     simp (maxSteps:=999999) only [EV0,zy,zx,zw,zv,zu,zq,zp,zj,zk,leT,zg,rvC,zZ,zY,zX,zW,↓zV,↓zU,reduceCtorEq,zQ,yz,yZ,yy,yx,yw,yv,yu,yq,yY,yp,yj,yk,yX,yW,yV,yg,yU,yQ,I,E,hk,hst,W2,getG,hwu,hf,hwr,hl,hk1,hk2]
     refine ⟨by omega,fun c' hc'=>?_⟩
     obtain ⟨M',hM'⟩:∃ M',M'=M++[getV w a' b]:=⟨_,rfl⟩
     have hM'l:M'.length=M.length+1:=by rw [hM']; simp
     have hI:i+1<=n/\a'+m<=64/\(y::M').length=i+1/\i+1<=a'+m/\(y::M').length<=c'/\unpackB w F 0=unpackB w (F.drop (i+1)) ((a'+m:Nat):Int)/\unpackV w F 0=(y::M')++unpackV w (F.drop (i+1)) ((a'+m:Nat):Int):=by
      refine ⟨by omega,h3,by simp only [List.length_cons]; omega,by omega,by simp only [List.length_cons]; omega,hpb', ?_⟩
      rw [hpv,hM',e2,Int.natCast_add,List.cons_append,List.cons_append,List.append_assoc]; rfl
     refine IH (i+1,a'+m,y::M',c') _ (by simp only; omega) hI ?_
     simp only [slT,lsT]
     have hc2:arr Uc (y::M)++[S.i .u64 (getV w a' b)]=arr Uc (y::M'):=by rw [hM']; simp [arr_append,arr,Uc]
     have hk3:(arr Uc (y::M')).all (S.below 1)=true:=uc_all _ (fun _=>rfl) _
     refine Wk.keep 1 (by rw [hc2]; rfl) rfl ?_ ?_ ?_
     ·simp (maxSteps:=999999) only [EV0,zy,zx,zw,zv,zu,zq,zp,zj,zk,leT,zg,rvC,zZ,zY,zX,zW,↓zV,↓zU,reduceCtorEq,zQ,yz,yZ,yy,yx,yw,yv,yu,yq,yY,yp,yj,yk,yX,yW,yV,yg,yU,yQ,hM'l]
      all_goals try simp
     ·simp (maxSteps:=999999) only [EV0,zy,zx,zw,zv,zu,zq,zp,zj,zk,leT,zg,rvC,zZ,zY,zX,zW,↓zV,↓zU,reduceCtorEq,zQ,yz,yZ,yy,yx,yw,yv,yu,yq,yY,yp,yj,yk,yX,yW,yV,yg,yU,yQ]
     ·simp only [List.all_cons,List.all_nil,List.length_cons,List.length_nil,Bool.and_true]
      exact hk3
   | false =>
    cases M with
    | nil =>
     simp only [slT,lsT]
     refine run_sound (Tab.ok_Γ _) 200 _ _ _ _ ?_
     simp (maxSteps:=999999) only [EV0,zy,zx,zw,zv,zu,zq,zp,zj,zk,leT,zg,rvC,zZ,zY,zX,zW,↓zV,↓zU,reduceCtorEq,zQ,yz,yZ,yy,yx,yw,yv,yu,yq,yY,yp,yj,yk,yX,yW,yV,yg,yU,yQ,I,E,hk,hst,W2,getG,hwu,hf]
     rw [hf,Bool.false_and] at hpb
     exact hS.2 hpb
    | cons y M =>
     simp only [slT,lsT]
     refine run_sound (Tab.ok_Γ _) 200 _ _ _ _ ?_
     simp (maxSteps:=999999) only [EV0,zy,zx,zw,zv,zu,zq,zp,zj,zk,leT,zg,rvC,zZ,zY,zX,zW,↓zV,↓zU,reduceCtorEq,zQ,yz,yZ,yy,yx,yw,yv,yu,yq,yY,yp,yj,yk,yX,yW,yV,yg,yU,yQ,I,E,hk,hst,W2,getG,hwu,hf]
     rw [hf,Bool.false_and] at hpb
     exact hS.2 hpb
  ·have:i=n:=by omega
   subst this
   have hdn:F.drop i=[]:=List.drop_eq_nil_of_le (by omega)
   rw [hdn] at hpb hpv
   simp only [unpackB,unpackV,List.append_nil] at hpb hpv
   have m2:min a IntKind.u64.bits=a:=by show min a 64=_; omega
   have a0:(0:Int)<=a:=by omega
   cases M with
   | nil =>
    simp only [slT,lsT]
    refine run_sound (Tab.ok_Γ _) 100 _ _ _ _ ?_
    simp (maxSteps:=999999) only [EV0,zy,zx,zw,zv,zu,zq,zp,zj,zk,leT,zg,rvC,zZ,zY,zX,zW,↓zV,↓zU,reduceCtorEq,zQ,yz,yZ,yy,yx,yw,yv,yu,yq,yY,yp,yj,yk,yX,yW,yV,yg,yU,yQ,Int.lt_irrefl,m2,a0]
    rw [hpb,hpv,div_dec] at hS
    simp only [decide_eq_true_eq,decide_eq_false_iff_not] at hS
    exact ⟨hS.2,hS.1⟩
   | cons y M =>
    simp only [slT,lsT]
    refine run_sound (Tab.ok_Γ _) 100 _ _ _ _ ?_
    simp (maxSteps:=999999) only [EV0,zy,zx,zw,zv,zu,zq,zp,zj,zk,leT,zg,rvC,zZ,zY,zX,zW,↓zV,↓zU,reduceCtorEq,zQ,yz,yZ,yy,yx,yw,yv,yu,yq,yY,yp,yj,yk,yX,yW,yV,yg,yU,yQ,Int.lt_irrefl,m2,a0]
    rw [hpb,hpv,div_dec] at hS
    simp only [decide_eq_true_eq,decide_eq_false_iff_not] at hS
    exact ⟨hS.2,fun e=>words_leave (by simpa using hMc) (hS.1 e)⟩

end Go.Proofs.YtcdfofeolgbnbaaGreat

