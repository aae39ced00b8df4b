/- Package cdt: Insert,Move,Swap. -/
import Derived.Test.YtcdfofeolgbnbaaGreatZ11
import Derived.Test.YtcdfofeolgbnbaaGreatZ18
/- What is read and written at a slot,and at the derivation list's beginning,whatever words lie there. -/
namespace Go.Proofs.YtcdfofeolgbnbaaGreat
open Go.D
set_option linter.all false
set_option maxRecDepth 100000
set_option maxHeartbeats 4000000

def M.gE (m:M) (a:Int):Int:=if thereB m a=true then (if m.slotB a=true then 0 else 110) else 20
def M.gV (m:M) (a:Int):Slot:=if thereB m a=true/\m.slotB a=true then m.slotC a else slotZ
def M.gX (m:M) (a:Int):M:=if thereB m a=true then m.tick 4 else m
def M.pE (m:M) (a:Int) (s:Slot):Int:=if thereB m a=true then (if slotRB s=true then 0 else 110) else 20
def M.pX (m:M) (a:Int) (s:Slot):M:=if thereB m a=true/\slotRB s=true then m.putS a s else m
def get2M (b:Nat) (m:M) (st:M->List Blk):List V->Res
 | [.s (.i .i64 a)]=>.ok (.tup [.agg (m.gV a).cl, .s (.i .i64 (m.gE a))]) [] (st (m.gX a))
 | _=>.bad
noncomputable def get2G:=memF get2M
def put2M (b:Nat) (m:M) (st:M->List Blk):List V->Res
 | [.s (.i .i64 a),x]=>slotF (fun s=>.ok (.s (.i .i64 (m.pE a s))) [] (st (m.pX a s))) [x]
 | _=>.bad
noncomputable def put2G:=memF put2M
theorem get2_of {args:List V} {h:List Blk} {K:V->List Blk->Prop} (hS:(get2G args h).spec K):(getSG args h).spec K:=by
 obtain ⟨a,b,m,rest,rfl,H,hS⟩:=memF_spec hS
 unfold getSG
 rw [memF_eq H]
 unfold get2M at hS
 split at hS
 ·rename_i x
  simp only [spec_ok,M.gE,M.gV,M.gX] at hS
  simp only [getSM,spec_br,spec_ok]
  refine ⟨fun ht=>⟨fun hb=>?_,fun hb=>?_⟩,fun ht=>?_⟩
  ·simpa [ht,hb] using hS
  ·simpa [ht,hb] using hS
  ·simpa [ht] using hS
 ·exact hS.elim
theorem put2_of {args:List V} {h:List Blk} {K:V->List Blk->Prop} (hS:(put2G args h).spec K):(putSG args h).spec K:=by
 obtain ⟨a,b,m,rest,rfl,H,hS⟩:=memF_spec hS
 unfold putSG
 rw [memF_eq H]
 unfold put2M at hS
 split at hS
 ·rename_i x y
  obtain ⟨s,e,hS2⟩:=slotF_spec hS
  simp only [List.cons.injEq,and_true] at e
  subst e
  simp only [spec_ok,M.pE,M.pX] at hS2
  simp only [putSM]
  show (slotF _ [.agg s.cl]).spec K
  simp only [slotF,Slot.cl,slot_eta,spec_br,spec_ok]
  refine ⟨fun ht=>⟨fun hb=>?_,fun hb=>?_⟩,fun ht=>?_⟩
  ·simpa [ht,hb] using hS2
  ·simpa [ht,hb] using hS2
  ·simpa [ht] using hS2
 ·exact hS.elim
theorem get2_snd:Snd Tryz.prog 26 (FSpec.of get2G):=getS_snd.weaken fun _ _ _ _ hS=>get2_of hS
theorem rget2_snd:Snd Tryz.prog 126 (FSpec.of get2G):=rgetS_snd.weaken fun _ _ _ _ hS=>get2_of hS
theorem put2_snd:Snd Tryz.prog 79 (FSpec.of put2G):=putS_snd.weaken fun _ _ _ _ hS=>put2_of hS
theorem rput2_snd:Snd Tryz.prog 118 (FSpec.of put2G):=rputS_snd.weaken fun _ _ _ _ hS=>put2_of hS
def M.eB (m:M) (a:Int):Bool:=if m.gE a=0 then (m.gV a).isZ else false
def empty2M (b:Nat) (m:M) (st:M->List Blk):List V->Res
 | [.s (.i .i64 a)]=>.ok (.tup [.s (.b (m.eB a)), .s (.i .i64 (m.gE a))]) [] (st (m.gX a))
 | _=>.bad
noncomputable def empty2G:=memF empty2M
theorem empty2_of {args:List V} {h:List Blk} {K:V->List Blk->Prop} (hS:(empty2G args h).spec K):(emptySG args h).spec K:=by
 obtain ⟨a,b,m,rest,rfl,H,hS⟩:=memF_spec hS
 unfold emptySG
 rw [memF_eq H]
 unfold empty2M at hS
 split at hS
 ·rename_i x
  simp only [spec_ok,M.eB,M.gE,M.gV,M.gX] at hS
  simp only [emptySM,spec_br,spec_ok]
  refine ⟨fun ht=>⟨fun hb=>?_,fun hb=>?_⟩,fun ht=>?_⟩
  ·simpa [ht,hb] using hS
  ·simpa [ht,hb] using hS
  ·simpa [ht] using hS
 ·exact hS.elim
theorem empty2_snd:Snd Tryz.prog 125 (FSpec.of empty2G):=emptyS_snd.weaken fun _ _ _ _ hS=>empty2_of hS
theorem M.gV_u (m:M) (a:Int):slotRB (m.gV a)=true:=by
 unfold M.gV
 split
 ·rename_i h
  have:=h.2
  simp only [M.slotB,_root_.Go.Proofs.YtcdfofeolgbnbaaGreat.slotB,Bool.and_eq_true] at this
  exact this.2.2.2
 ·decide
theorem M.gV_null {m:M} {a:Int} (h:(m.gV a).cap.ty=0):m.gV a=slotZ:=by
 have:=slot_null (m.gV_u a)
 rw [h] at this
 exact Slot.isZ_iff.1 this.symm
def M.fst (m:M):Int:=keptV 4 4 m (if m.has 2 1=true then m.at 2 else 0)
def M.fstX (m:M):M:=if m.has 2 1=true then m.tick 1 else m
def M.sfE (m:M) (n:Int):Int:=if (n==0||keptB 4 4 m n)=true/\m.has 2 1=true then 0 else 20
def M.sfX (m:M) (n:Int):M:=if (n==0||keptB 4 4 m n)=true/\m.has 2 1=true then (m.put 2 (IntKind.u64.wrap n)).tick 1 else m
def firstM (b:Nat) (m:M) (st:M->List Blk):List V->Res
 | []=>.ok (.s (.i .i64 m.fst)) [] (st m.fstX)
 | _=>.bad
noncomputable def firstG:=memF firstM
def setFirstM (b:Nat) (m:M) (st:M->List Blk):List V->Res
 | [.s (.i .i64 n)]=>.ok (.s (.i .i64 (m.sfE n))) [] (st (m.sfX n))
 | _=>.bad
noncomputable def setFirstG:=memF setFirstM
def hfirstG:List V->List Blk->Res
 | [],h=>.ok (.agg [.i .i64 2, .i .i64 4, .i .i64 4]) [] h
 | _,_=>.bad
theorem hfirst_snd:Snd Tryz.prog 142 (FSpec.of hfirstG):=snd_run (noT_snd _) mixed Tryz.func142 dc142 100 fun args h K hc hS=>by
 unfold hfirstG at hS
 split at hS
 ·simp only [spec_ok] at hS
  simp (maxSteps:=999999) only [go_sem,simprocAttr,↓qT,↓qF,df142,put,fillP,sub,EVt]
  exact hS
 ·exact hS.elim
noncomputable def THf:Tab:=addT 142 hfirstG (addT 143 setG_ (addT 161 getG_ (noT)))
theorem THf_snd:THf.Snd Tryz.prog:=addT_snd ok142 hfirst_snd (addT_snd ok143 kset_snd (addT_snd ok161 kget_snd ((noT_snd _))))
theorem first_snd:Snd Tryz.prog 100 (FSpec.of firstG):=snd_run THf_snd mixed Tryz.func100 dc100 100 fun args h K hc hS=>by
 obtain ⟨a,b,m,rest,rfl,H,hS1⟩:=memF_spec hS
 clear hS
 have hS:=hS1
 clear hS1
 unfold firstM at hS
 split at hS
 ·simp only [spec_ok,M.fst,M.fstX] at hS
  cases hh:m.has 2 1
  ·simp only [hh,Bool.false_eq_true,if_false,setM_self H] at hS
   simp (maxSteps:=999999) only [go_sem,simprocAttr,↓qT,↓qF,df100,THf,hfirstG,getG_,keptF,memF_eq H,getM_,setM_self H,hh]
   exact hS
  ·simp only [hh,if_true] at hS
   simp (maxSteps:=999999) only [go_sem,simprocAttr,↓qT,↓qF,df100,THf,hfirstG,getG_,keptF,memF_eq H,getM_,setM_self H,hh]
   exact hS
 ·exact hS.elim
theorem setFirst_snd:Snd Tryz.prog 80 (FSpec.of setFirstG):=snd_run THf_snd mixed Tryz.func80 dc80 100 fun args h K hc hS=>by
 obtain ⟨a,b,m,rest,rfl,H,hS1⟩:=memF_spec hS
 clear hS
 have hS:=hS1
 clear hS1
 unfold setFirstM at hS
 split at hS
 ·rename_i n
  simp only [spec_ok,M.sfE,M.sfX] at hS
  cases c1:(n==0||keptB 4 4 m n)
  ·simp only [c1,Bool.false_eq_true,false_and,if_false,setM_self H] at hS
   simp only [Bool.or_eq_false_iff,beq_eq_false_iff_ne,ne_eq] at c1
   simp (maxSteps:=999999) only [go_sem,simprocAttr,↓qT,↓qF,df80,THf,hfirstG,setG_,keptF,memF_eq H,setM_,setM_self H,c1]
   exact hS
  ·cases hh:m.has 2 1
   ·simp only [hh,Bool.false_eq_true,and_false,if_false,setM_self H] at hS
    simp only [Bool.or_eq_true,beq_iff_eq] at c1
    simp (maxSteps:=999999) only [go_sem,simprocAttr,↓qT,↓qF,df80,THf,hfirstG,setG_,keptF,memF_eq H,setM_,setM_self H,c1,hh]
    exact hS
   ·simp only [c1,hh,and_self,if_true] at hS
    simp only [Bool.or_eq_true,beq_iff_eq] at c1
    simp (maxSteps:=999999) only [go_sem,simprocAttr,↓qT,↓qF,df80,THf,hfirstG,setG_,keptF,memF_eq H,setM_,setM_self H,c1,hh]
    exact hS
 ·exact hS.elim

theorem rfill_snd:Snd Tryz.prog 149 (FSpec.of fillG):=snd_run TSp_snd mixed Tryz.func149 dc149 100 fun args h K hc hS=>by
 obtain ⟨a,b,m,rest,rfl,H,hS1⟩:=memF_spec hS
 clear hS
 have hS:=hS1
 clear hS1
 unfold fillM at hS
 split at hS
 ·rename_i x k v
  simp only [spec_ob,spec_ok,spec_br,setM_self H] at hS
  obtain ⟨hv,hS⟩:=hS
  cases hh:m.has x k with
  | true =>
   have hS:=hS.1 hh
   obtain ⟨i,j,rfl,rfl,hij⟩:=M.has_nat hh
   simp only [Int.toNat_natCast] at hS
   have hl:=m.l
   simp (maxSteps:=999999) only [go_sem,simprocAttr,↓qT,↓qF,df149,TSp,thereG,memF_eq H,thereM,setM_self H,hh,Int.toNat_natCast]
   refine loop_rule (α:=Nat) [10,17,18,19,20,21,22,23,24,25,26,27,28,29,30] (fun q=>[(10, .s (.i .i64 q))]) (fun _=>[]) (fun q=>h.set b ⟨.rw,wc (m.fill i v q).w,m.w.length⟩) (fun q=>q<=j) (fun q=>j-q) 0 (by omega) ?_ ?_
   ·simp only [M.fill]
    rw [show (⟨.rw,wc m.w,m.w.length⟩:Blk)=MW m from rfl,set_self H.hb]
    refine Wk.less ?_
    simp (maxSteps:=999999) only [go_sem,simprocAttr,↓qT,↓qF,q_cast,Int.natCast_zero]
   ·rintro X q hq IH
    have ha:=H.ha'
    rcases Nat.lt_or_ge q j with h1|h1
    ·obtain ⟨d1,d2,d3,d4⟩:=idx h1 (by omega)
     have c3:(h.set b ⟨BK.rw,wc (m.fill i v q).w,m.w.length⟩)[b]?=some ⟨BK.rw,wc (m.fill i v q).w,m.w.length⟩:=set_hit H.hb
     have c4:i+q+1<=(wc (m.fill i v q).w).length:=by rw [wc_len,M.fill_len]; omega
     have c5:((wc (m.fill i v q).w).set (i+q) (S.i .u64 v))=wc (m.fill i v (q+1)).w:=by rw [wc_set]; simp only [M.fill,M.put,uw_of hv]
     have w1:IntKind.i64.wrap ((i:Int)+q)=((i+q:Nat):Int):=by rw [wrap64]<;>omega
     have d5:((i+q:Nat):Int)<m.w.length:=by omega
     have d6:(0:Int)<=((i+q:Nat):Int):=by omega
     refine run_sound (Tab.ok_Γ _) 100 _ _ _ _ ?_
     simp (maxSteps:=999999) only [go_sem,simprocAttr,↓qT,↓qF,d1,d2,d3,d4,d5,d6,w1,c3,ha,MB,MW,c4,Int.toNat_natCast,put,c5,List.set_set]
     exact IH (q+1) _ (by omega) (by omega) (Wk.same rfl rfl (by simp only [go_sem,simprocAttr,↓qT,↓qF]))
    ·have:q=j:=by omega
     subst this
     refine run_sound (Tab.ok_Γ _) 100 _ _ _ _ ?_
     simp (maxSteps:=999999) only [go_sem,simprocAttr,↓qT,↓qF,Int.lt_irrefl,ha,MB]
     refine cast (congrArg (K _) ?_) hS
     simp only [setM]
     rw [List.set_comm _ _ H.ne]
     simp only [MW,MB,M.tick,M.fill_len,M.fill_n]
  | false =>
   have hS:=hS.2 hh
   simp (maxSteps:=999999) only [go_sem,simprocAttr,↓qT,↓qF,df149,TSp,thereG,memF_eq H,thereM,setM_self H,hh]
   exact hS
 ·exact hS.elim

theorem M.fill_at (m:M) (a:Nat) (x:Int) (j:Int) (k:Nat) (h:a+k<=m.w.length):(m.fill a x k).at j=if a<=j.toNat/\j.toNat<a+k then uw x else m.at j:=by
 rw [M.at_fill]
 by_cases h1:a<=j.toNat/\j.toNat<a+k
 ·rw [if_pos (by omega),if_pos h1]
 ·rw [if_neg (by omega),if_neg h1]
theorem wrap_add (a b c:Int):IntKind.i64.wrap (IntKind.i64.wrap (a+b)+c)=IntKind.i64.wrap (a+(b+c)):=by
 rw [IntKind.wrap_i64,IntKind.wrap_i64,IntKind.wrap_i64]; omega
/-! ### the specs without choices -/


theorem memF_new1A {f:Nat->M->(M->List Blk)->List V->Res} {h X:List Blk} {m k:M} {rest:List V}:memF f (.s (.p (.g h.length) 0)::rest) (memH (memH h m) k++X)=f (h.length+1) m (fun m=>memH (memH h m) k++X) rest:=by
 rw [memF_app0 (memH_is1 h m k),show setM (memH (memH h m) k) h.length (h.length+1)=fun m=>memH (memH h m) k from funext (memH_set1 h m k)]
theorem memF_new2A {f:Nat->M->(M->List Blk)->List V->Res} {h X:List Blk} {m k:M} {rest:List V}:memF f (.s (.p (.g (h.length+2)) 0)::rest) (memH (memH h m) k++X)=f (h.length+3) k (fun k=>memH (memH h m) k++X) rest:=by
 rw [memF_app0 (memH_is2 h m k),show setM (memH (memH h m) k) (h.length+2) (h.length+3)=memH (memH h m) from funext (memH_set2 h m k)]

section
variable {h X:List Blk} {m:M} {k:Nat}
theorem listOf_at {H:List Blk} {j c room:Nat} {st:BK} {vs:List Int} {n:Nat} (hj:H[j]?=some ⟨st,wc vs,room⟩) (hs:st≠.dead) (hn:vs.length=n):listOf H (.sl (.g j) 0 n c)=some vs:=by
 subst hn; exact listOf_eq (IsList.whole hj hs)
end

section
variable {h X:List Blk} {m n:M} {k:Nat}
end

section
variable {h X:List Blk} {m n m' n':M} {k:Nat} {B:Blk}
theorem setM_1:setM (memH (memH h m) n++X) h.length (h.length+1) m'=memH (memH h m') n++X:=by rw [setM_app (memH_is1 h m n),memH_set1]
theorem setM_2:setM (memH (memH h m) n++X) (h.length+2) (h.length+3) n'=memH (memH h m) n'++X:=by rw [setM_app (memH_is2 h m n),memH_set2]
end

def M.loadE (m:M) (x:Int) (vs:List Int):Int:=if m.has x vs.length then 0 else 20
def M.loadX (m:M) (x:Int) (vs:List Int):M:=if m.has x vs.length then m.lay x.toNat vs else m
noncomputable def load2G:List V->List Blk->Res
 | [.s (.p (.g a) 0), .s (.i .i64 x), .s s],h=>match memOf h a,listOf h s with
  | some (b,m),some vs=>.ob (apartS b s/\∀ v,v∈vs->u64 v) (.ok (.s (.i .i64 (m.loadE x vs))) [] (setM h a b (m.loadX x vs)))
  | _,_=>.bad
 | _,_=>.bad

theorem load2_snd:Snd Tryz.prog 64 (FSpec.of load2G):=mload_snd.weaken fun args h K hc hS=>by
 have hS:(load2G args h).spec K:=hS
 unfold load2G at hS
 split at hS
 ·rename_i a x s
  split at hS
  ·rename_i b m vs e1 e2
   obtain ⟨hp,hS⟩:=hS
   simp only [spec_ok,M.loadE,M.loadX] at hS
   show Res.spec K (loadG _ h)
   simp only [loadG,e1,e2,spec_ob,spec_br,spec_ok]
   refine ⟨hp,fun e=>?_,fun e=>?_⟩
   ·simpa only [e,if_true] using hS
   ·have:=setM_self (memOf_some e1)
    simpa only [e,Bool.false_eq_true,if_false,this] using hS
  ·exact hS.elim
 ·exact hS.elim

theorem nnn {a:Nat} (n k:Nat):a+n+k=a+(n+k):=Nat.add_assoc _ _ _
theorem nlt0 {a k:Nat}:(a<a+k)=(0<k):=by simp
theorem nltn {a j k:Nat}:(a+j<a+k)=(j<k):=by simp
section
variable {h X:List Blk} {A B:Blk} {m:M}
theorem vals_nil {n k:Nat}:vals n k []=true:=by rfl
theorem vals_cons {n k:Nat} {s:S} {l:List S}:vals n k (s::l)=(s.val n k&&vals n k l):=by rfl
theorem app_len {X:List Blk}:(h++X).length=h.length+X.length:=List.length_append
end

theorem MB_inj {b b':Nat} {m m':M} (e:MB b m=MB b' m'):m.n=m'.n:=by
 simp only [MB,Blk.mk.injEq,List.cons.injEq,S.i.injEq,true_and,and_true] at e
 exact e.2
theorem MW_inj {m m':M} (e:MW m=MW m'):m.w=m'.w:=by
 simp only [MW,Blk.mk.injEq,true_and] at e
 exact wc_inj e.1

def unwc:List S->Option (List Int)
 | []=>some []
 | .i .u64 x::l=>match unwc l with
  | some v=>some (x::v)
  | none=>none
 | _=>none
theorem unwc_wc:∀ v:List Int,unwc (wc v)=some v
 | []=>rfl
 | x::v=>by simp only [wc_cons,unwc,unwc_wc v]
theorem unwc_nil:unwc []=some []:=by rfl
theorem unwc_cons {x:Int} {l:List S}:unwc (.i .u64 x::l)=match unwc l with|some v=>some (x::v)|none=>none:=by rfl
theorem wc_unwc:∀ {l:List S} {v:List Int},unwc l=some v->l=wc v
 | [],v,e=>by simp only [unwc,Option.some.injEq] at e; subst e; rfl
 | .i k x::l,v,e=>by
  cases k<;>simp only [unwc,reduceCtorEq] at e
  split at e
  ·rename_i v' e'
   rw [Option.some.injEq] at e
   subst e
   rw [wc_unwc e',wc_cons]
  ·cases e
 | .u::_,_,e=>by simp [unwc] at e
 | .b _::_,_,e=>by simp [unwc] at e
 | .p _ _::_,_,e=>by simp [unwc] at e
 | .np::_,_,e=>by simp [unwc] at e
 | .sl _ _ _ _::_,_,e=>by simp [unwc] at e
 | .ns::_,_,e=>by simp [unwc] at e
 | .es _ _::_,_,e=>by simp [unwc] at e
 | .fn _ _::_,_,e=>by simp [unwc] at e
 | .nf::_,_,e=>by simp [unwc] at e

def M.fE (m:M) (a:Int):Int:=if m.gE a=0/\(m.gV a).cap.ty=0 then 121 else m.gE a
def fullM (b:Nat) (m:M) (st:M->List Blk):List V->Res
 | [.s (.i .i64 a)]=>.ok (.tup [.agg (m.gV a).cl, .s (.i .i64 (m.fE a))]) [] (st (m.gX a))
 | _=>.bad
noncomputable def fullG:=memF fullM
noncomputable def TGt2:Tab:=addT 26 get2G (addT 126 get2G (noT))
theorem TGt2_snd:TGt2.Snd Tryz.prog:=addT_snd ok26 get2_snd (addT_snd ok126 rget2_snd ((noT_snd _)))
theorem full_snd:Snd Tryz.prog 74 (FSpec.of fullG):=snd_run TGt2_snd mixed Tryz.func74 dc74 200 fun args h K hc hS=>by
 obtain ⟨a,b,m,rest,rfl,H,hS1⟩:=memF_spec hS
 clear hS
 have hS:=hS1
 clear hS1
 unfold fullM at hS
 split at hS
 ·rename_i x
  simp only [spec_ok,M.fE] at hS
  by_cases c1:m.gE x=0
  ·by_cases c2:(m.gV x).cap.ty=0
   ·rw [M.gV_null c2] at hS
    simp only [M.gV_null c2,slotZ,capZ,Slot.cl,c1,and_self,if_true] at hS
    have c3:=M.gV_null c2
    simp (maxSteps:=999999) only [go_sem,simprocAttr,↓qT,↓qF,df74,TGt2,get2G,memF_eq H,get2M,Slot.cl,c1,c2,c3,slotZ,capZ,put,fillP,sub,EVt]
    exact hS
   ·simp only [Slot.cl,c1,c2,and_false,if_false] at hS
    simp (maxSteps:=999999) only [go_sem,simprocAttr,↓qT,↓qF,df74,TGt2,get2G,memF_eq H,get2M,Slot.cl,c1,c2,put,fillP,sub,EVt]
    exact hS
  ·simp only [Slot.cl,c1,false_and,if_false] at hS
   simp (maxSteps:=999999) only [go_sem,simprocAttr,↓qT,↓qF,df74,TGt2,get2G,memF_eq H,get2M,Slot.cl,c1,put,fillP,sub,EVt]
   exact hS
 ·exact hS.elim
theorem rfull_snd:Snd Tryz.prog 98 (FSpec.of fullG):=snd_run TGt2_snd mixed Tryz.func98 dc98 200 fun args h K hc hS=>by
 obtain ⟨a,b,m,rest,rfl,H,hS1⟩:=memF_spec hS
 clear hS
 have hS:=hS1
 clear hS1
 unfold fullM at hS
 split at hS
 ·rename_i x
  simp only [spec_ok,M.fE] at hS
  by_cases c1:m.gE x=0
  ·by_cases c2:(m.gV x).cap.ty=0
   ·rw [M.gV_null c2] at hS
    simp only [M.gV_null c2,slotZ,capZ,Slot.cl,c1,and_self,if_true] at hS
    have c3:=M.gV_null c2
    simp (maxSteps:=999999) only [go_sem,simprocAttr,↓qT,↓qF,df98,TGt2,get2G,memF_eq H,get2M,Slot.cl,c1,c2,c3,slotZ,capZ,put,fillP,sub,EVt]
    exact hS
   ·simp only [Slot.cl,c1,c2,and_false,if_false] at hS
    simp (maxSteps:=999999) only [go_sem,simprocAttr,↓qT,↓qF,df98,TGt2,get2G,memF_eq H,get2M,Slot.cl,c1,c2,put,fillP,sub,EVt]
    exact hS
  ·simp only [Slot.cl,c1,false_and,if_false] at hS
   simp (maxSteps:=999999) only [go_sem,simprocAttr,↓qT,↓qF,df98,TGt2,get2G,memF_eq H,get2M,Slot.cl,c1,put,fillP,sub,EVt]
   exact hS
 ·exact hS.elim

def M.liB (m:M) (a:Int) (s:Slot):Bool:=!(s.prev==0&&(s.next==0&&s.depth==0))||m.fst==a
def M.liX (m:M) (s:Slot):M:=if (s.prev==0&&(s.next==0&&s.depth==0))=true then m.fstX else m
def listedM (b:Nat) (m:M) (st:M->List Blk):List V->Res
 | [.s (.i .i64 a),x]=>slotF (fun s=>.ok (.s (.b (m.liB a s))) [] (st (m.liX s))) [x]
 | _=>.bad
noncomputable def listedG:=memF listedM
noncomputable def TFs:Tab:=addT 100 firstG (addT 80 setFirstG (noT))
theorem TFs_snd:TFs.Snd Tryz.prog:=addT_snd ok100 first_snd (addT_snd ok80 setFirst_snd ((noT_snd _)))
theorem listed_snd:Snd Tryz.prog 75 (FSpec.of listedG):=snd_run TFs_snd mixed Tryz.func75 dc75 200 fun args h K hc hS=>by
 obtain ⟨a,b,m,rest,rfl,H,hS1⟩:=memF_spec hS
 clear hS
 have hS:=hS1
 clear hS1
 unfold listedM at hS
 split at hS
 ·rename_i x y
  obtain ⟨s,e,hS2⟩:=slotF_spec hS
  simp only [List.cons.injEq,and_true] at e
  subst e
  clear hS
  have hS:=hS2
  simp only [spec_ok,M.liB,M.liX] at hS
  by_cases c1:s.prev=0
  ·by_cases c2:s.next=0
   ·by_cases c3:s.depth=0
    ·simp only [c1,c2,c3,beq_self_eq_true,Bool.and_self,Bool.not_true,Bool.false_or,if_true] at hS
     simp (maxSteps:=999999) only [go_sem,simprocAttr,↓qT,↓qF,df75,TFs,firstG,memF_eq H,firstM,Slot.cl,c1,c2,c3,put,fillP,sub,EVt]
     exact hS
    ·have c4:(s.depth==0)=false:=by simpa using c3
     simp only [c1,c2,c4,Bool.and_false,Bool.not_false,Bool.true_or,Bool.false_eq_true,if_false,setM_self H] at hS
     simp (maxSteps:=999999) only [go_sem,simprocAttr,↓qT,↓qF,df75,TFs,firstG,memF_eq H,firstM,Slot.cl,c1,c2,c3,put,fillP,sub,EVt]
     exact hS
   ·have c4:(s.next==0)=false:=by simpa using c2
    simp only [c1,c4,Bool.and_false,Bool.false_and,Bool.not_false,Bool.true_or,Bool.false_eq_true,if_false,setM_self H] at hS
    simp (maxSteps:=999999) only [go_sem,simprocAttr,↓qT,↓qF,df75,TFs,firstG,memF_eq H,firstM,Slot.cl,c1,c2,put,fillP,sub,EVt]
    exact hS
  ·have c4:(s.prev==0)=false:=by simpa using c1
   simp only [c4,Bool.false_and,Bool.not_false,Bool.true_or,Bool.false_eq_true,if_false,setM_self H] at hS
   simp (maxSteps:=999999) only [go_sem,simprocAttr,↓qT,↓qF,df75,TFs,firstG,memF_eq H,firstM,Slot.cl,c1,put,fillP,sub,EVt]
   exact hS
 ·exact hS.elim

/-! ### what a slot's links are turned to -/
def cellAt (h:List Blk) (k:Nat):Option Int:=match h[k]? with
 | some ⟨.rw,[.i .i64 v],_⟩=>some v
 | _=>none
def slotAt (h:List Blk) (k:Nat):Option Slot:=match h[k]? with
 | some ⟨.rw,[.i .i64 a, .i .i64 b, .i .i64 c, .i .i64 d, .i .i64 e, .i .i64 g, .i .i64 i, .i .i64 j, .i .i64 k, .i .i64 l, .i .i64 m, .i .i64 p, .i .i64 n, .i .i64 q],14⟩=>some ⟨⟨a,b,c,d,e,g,i,j,k,l,m⟩,p,n,q⟩
 | _=>none
theorem cellAt_some {h:List Blk} {k:Nat} {v:Int} (e:cellAt h k=some v):∃ room,h[k]?=some ⟨.rw,[.i .i64 v],room⟩:=by
 unfold cellAt at e
 split at e
 ·rename_i h1
  rw [Option.some.injEq] at e
  subst e
  exact ⟨_,h1⟩
 ·cases e
theorem slotAt_some {h:List Blk} {k:Nat} {s:Slot} (e:slotAt h k=some s):h[k]?=some ⟨.rw,s.cl,14⟩:=by
 unfold slotAt at e
 split at e
 ·rename_i h1
  rw [Option.some.injEq] at e
  subst e
  exact h1
 ·cases e
theorem cellAt_eq {h:List Blk} {k room:Nat} {v:Int} (e:h[k]?=some ⟨.rw,[.i .i64 v],room⟩):cellAt h k=some v:=by simp only [cellAt,e]
theorem slotAt_eq {h:List Blk} {k:Nat} {s:Slot} (e:h[k]?=some ⟨.rw,s.cl,14⟩):slotAt h k=some s:=by simp only [slotAt,e,Slot.cl]
theorem setM_other {h:List Blk} {a b k:Nat} {m m':M} {B:Blk} (H:IsMem h a b m) (e:h[k]?=some B) (h1:B≠MB b m) (h2:B≠MW m):(setM h a b m')[k]?=some B:=by
 have ka:a≠k:=fun x=>by subst x; rw [H.ha,Option.some.injEq] at e; exact h1 e.symm
 have kb:b≠k:=fun x=>by subst x; rw [H.hb,Option.some.injEq] at e; exact h2 e.symm
 simp only [setM]
 rw [List.getElem?_set_ne kb,List.getElem?_set_ne ka,e]
theorem wc_head {w:List Int} {n:Int} {l:List S} (e:S.i .i64 n::l=wc w):False:=by
 cases w with
 | nil=>cases e
 | cons x w=>rw [wc_cons] at e; simp at e
theorem cell_setM {h:List Blk} {a b k room:Nat} {m:M} {v:Int} (H:IsMem h a b m) (e:h[k]?=some ⟨.rw,[.i .i64 v],room⟩) (m':M):(setM h a b m')[k]?=some ⟨.rw,[.i .i64 v],room⟩ :=
 setM_other H e (fun x=>by simp [MB] at x) (fun x=>by simp only [MW,Blk.mk.injEq] at x; exact wc_head x.2.1)
theorem slot_setM {h:List Blk} {a b k room:Nat} {m:M} {s:Slot} (H:IsMem h a b m) (e:h[k]?=some ⟨.rw,s.cl,room⟩) (m':M):(setM h a b m')[k]?=some ⟨.rw,s.cl,room⟩ :=
 setM_other H e (fun x=>by simp [MB,Slot.cl] at x) (fun x=>by simp only [MW,Blk.mk.injEq,Slot.cl] at x; exact wc_head x.2.1)

def chg (h:List Blk) (f:Nat) (cs:List (R×Nat)):Option (Slot->Slot) :=
 match cs with
 | []=>if f=77\/f=78 then some fun s=>⟨s.cap,s.prev,s.next,IntKind.i64.wrap (s.depth-1)⟩ else none
 | [(.g k,0)] =>
  if f=176 then match cellAt h k with
   | some v=>some fun s=>⟨s.cap,s.prev,v,s.depth⟩
   | none=>none
  else if f=177 then match cellAt h k with
   | some v=>some fun s=>⟨s.cap,v,s.next,s.depth⟩
   | none=>none
  else if f=81 then match slotAt h k with
   | some v=>some fun s=>⟨s.cap,s.prev,v.next,s.depth⟩
   | none=>none
  else if f=82 then match slotAt h k with
   | some v=>some fun s=>⟨s.cap,v.prev,s.next,s.depth⟩
   | none=>none
  else none
 | _=>none
def depG:List V->List Blk->Res
 | [.s (.p (.g i) 0)],h=>match slotAt h i with
  | some s=>.ok (.tup []) [] (h.set i ⟨.rw,(⟨s.cap,s.prev,s.next,IntKind.i64.wrap (s.depth-1)⟩:Slot).cl,14⟩)
  | none=>.bad
 | _,_=>.bad
def jn1G:List V->List Blk->Res
 | [.s (.p (.g i) 0), .s (.p (.g k) 0)],h=>match slotAt h i,cellAt h k with
  | some s,some v=>.ok (.tup []) [] (h.set i ⟨.rw,(⟨s.cap,s.prev,v,s.depth⟩:Slot).cl,14⟩)
  | _,_=>.bad
 | _,_=>.bad
def jn2G:List V->List Blk->Res
 | [.s (.p (.g i) 0), .s (.p (.g k) 0)],h=>match slotAt h i,cellAt h k with
  | some s,some v=>.ok (.tup []) [] (h.set i ⟨.rw,(⟨s.cap,v,s.next,s.depth⟩:Slot).cl,14⟩)
  | _,_=>.bad
 | _,_=>.bad
def rm3G:List V->List Blk->Res
 | [.s (.p (.g i) 0), .s (.p (.g k) 0)],h=>match slotAt h i,slotAt h k with
  | some s,some v=>.ok (.tup []) [] (h.set i ⟨.rw,(⟨s.cap,s.prev,v.next,s.depth⟩:Slot).cl,14⟩)
  | _,_=>.bad
 | _,_=>.bad
def rm4G:List V->List Blk->Res
 | [.s (.p (.g i) 0), .s (.p (.g k) 0)],h=>match slotAt h i,slotAt h k with
  | some s,some v=>.ok (.tup []) [] (h.set i ⟨.rw,(⟨s.cap,v.prev,s.next,s.depth⟩:Slot).cl,14⟩)
  | _,_=>.bad
 | _,_=>.bad
theorem dep1_snd:Snd Tryz.prog 77 (FSpec.of depG):=snd_run (noT_snd _) mixed Tryz.func77 dc77 100 fun args h K hc hS=>by
 unfold depG at hS
 split at hS
 ·split at hS
  ·rename_i s hs
   have e1:=slotAt_some hs
   simp only [spec_ok,Slot.cl] at hS
   simp (maxSteps:=999999) only [go_sem,simprocAttr,↓qT,↓qF,df77,e1,Slot.cl,put,fillP,sub,EVt]
   exact hS
  ·exact hS.elim
 ·exact hS.elim
theorem dep2_snd:Snd Tryz.prog 78 (FSpec.of depG):=snd_run (noT_snd _) mixed Tryz.func78 dc78 100 fun args h K hc hS=>by
 unfold depG at hS
 split at hS
 ·split at hS
  ·rename_i s hs
   have e1:=slotAt_some hs
   simp only [spec_ok,Slot.cl] at hS
   simp (maxSteps:=999999) only [go_sem,simprocAttr,↓qT,↓qF,df78,e1,Slot.cl,put,fillP,sub,EVt]
   exact hS
  ·exact hS.elim
 ·exact hS.elim
theorem jn1_snd:Snd Tryz.prog 176 (FSpec.of jn1G):=snd_run (noT_snd _) mixed Tryz.func176 dc176 100 fun args h K hc hS=>by
 unfold jn1G at hS
 split at hS
 ·split at hS
  ·rename_i s v hs hv
   have e1:=slotAt_some hs
   obtain ⟨room,e2⟩:=cellAt_some hv
   simp only [spec_ok,Slot.cl] at hS
   simp (maxSteps:=999999) only [go_sem,simprocAttr,↓qT,↓qF,df176,e1,e2,Slot.cl,put,fillP,sub,EVt]
   exact hS
  ·exact hS.elim
 ·exact hS.elim
theorem jn2_snd:Snd Tryz.prog 177 (FSpec.of jn2G):=snd_run (noT_snd _) mixed Tryz.func177 dc177 100 fun args h K hc hS=>by
 unfold jn2G at hS
 split at hS
 ·split at hS
  ·rename_i s v hs hv
   have e1:=slotAt_some hs
   obtain ⟨room,e2⟩:=cellAt_some hv
   simp only [spec_ok,Slot.cl] at hS
   simp (maxSteps:=999999) only [go_sem,simprocAttr,↓qT,↓qF,df177,e1,e2,Slot.cl,put,fillP,sub,EVt]
   exact hS
  ·exact hS.elim
 ·exact hS.elim
theorem rm3_snd:Snd Tryz.prog 81 (FSpec.of rm3G):=snd_run (noT_snd _) mixed Tryz.func81 dc81 100 fun args h K hc hS=>by
 unfold rm3G at hS
 split at hS
 ·split at hS
  ·rename_i s v hs hv
   have e1:=slotAt_some hs
   have e2:=slotAt_some hv
   simp only [spec_ok,Slot.cl] at hS
   simp (maxSteps:=999999) only [go_sem,simprocAttr,↓qT,↓qF,df81,e1,e2,Slot.cl,put,fillP,sub,EVt]
   exact hS
  ·exact hS.elim
 ·exact hS.elim
theorem rm4_snd:Snd Tryz.prog 82 (FSpec.of rm4G):=snd_run (noT_snd _) mixed Tryz.func82 dc82 100 fun args h K hc hS=>by
 unfold rm4G at hS
 split at hS
 ·split at hS
  ·rename_i s v hs hv
   have e1:=slotAt_some hs
   have e2:=slotAt_some hv
   simp only [spec_ok,Slot.cl] at hS
   simp (maxSteps:=999999) only [go_sem,simprocAttr,↓qT,↓qF,df82,e1,e2,Slot.cl,put,fillP,sub,EVt]
   exact hS
  ·exact hS.elim
 ·exact hS.elim

def M.turnX (m:M) (a:Int) (g:Slot->Slot):M:=if a=0 then m else if m.fE a=0 then (m.gX a).pX a (g (m.gV a)) else m.gX a
def turnM (b:Nat) (m:M) (st:M->List Blk):List V->Res
 | [.s (.i .i64 a), .s (.fn f cs)]=>match chg (st m) f cs with
  | some g=>.ok (.tup []) [] (st (m.turnX a g))
  | none=>.bad
 | _=>.bad
noncomputable def turnG:=memF turnM
noncomputable def TTn:Tab:=addT 74 fullG (addT 79 put2G (addT 176 jn1G (addT 177 jn2G (addT 77 depG (addT 78 depG (addT 81 rm3G (addT 82 rm4G (noT))))))))
theorem TTn_snd:TTn.Snd Tryz.prog:=addT_snd ok74 full_snd (addT_snd ok79 put2_snd (addT_snd ok176 jn1_snd (addT_snd ok177 jn2_snd (addT_snd ok77 dep1_snd (addT_snd ok78 dep2_snd (addT_snd ok81 rm3_snd (addT_snd ok82 rm4_snd ((noT_snd _)))))))))
theorem turn_snd:Snd Tryz.prog 76 (FSpec.of turnG):=snd_run TTn_snd mixed Tryz.func76 dc76 200 fun args h K hc hS=>by
 obtain ⟨a,b,m,rest,rfl,H,hS1⟩:=memF_spec hS
 clear hS
 have hS:=hS1
 clear hS1
 unfold turnM at hS
 split at hS
 ·rename_i x f cs
  simp only [setM_self H] at hS
  split at hS
  ·rename_i g hg
   simp only [spec_ok] at hS
   have hcm:∀ m',clean (setM h a b m').length (setM h a b m')=true:=fun m'=>by rw [setM_len]; exact setM_clean H hc H.ltb
   have hcm':∀ m',clean h.length (setM h a b m')=true:=fun m'=>setM_clean H hc H.ltb
   by_cases c0:x=0
   ·simp only [M.turnX,c0,if_true,setM_self H] at hS
    simp (maxSteps:=999999) only [go_sem,simprocAttr,↓qT,↓qF,df76,c0]
    exact hS
   by_cases c1:m.fE x=0
   ·simp only [M.turnX,c0,c1,if_false,if_true] at hS
    obtain ⟨s,hs⟩:∃ s,m.gV x=s:=⟨_,rfl⟩
    rw [hs] at hS
    have hs1:∀ m',slotAt (setM h a b m'++[⟨.rw,s.cl,14⟩]) h.length=some s:=fun m'=>slotAt_eq (by rw [List.getElem?_append_right (by rw [setM_len]; omega),setM_len,Nat.sub_self]; rfl)
    have hst:∀ m' B B',(setM h a b m'++[B]).set h.length B'=setM h a b m'++[B']:=fun m' B B'=>by rw [List.set_append_right _ _ (by rw [setM_len]; omega),setM_len,Nat.sub_self]; rfl
    simp only [Slot.cl] at hs1
    unfold chg at hg
    split at hg
    ·split at hg
     ·rename_i hf
      cases hg
      rcases hf with rfl|rfl
      all_goals (simp (maxSteps:=999999) only [go_sem,simprocAttr,↓qT,↓qF,df76,TTn,fullG,memF_eq H,memF_set H,setM_fun H,fullM,put2G,put2M,slotF,slot_eta,cap_eta,Slot.cl,c0,c1,hs,depG,hs1,hst,R.lend,R.unlend,S_ren,C.ren,V.ren,Blk.ren,take_app,drop_app,Nat.not_lt_zero,Nat.lt_irrefl,Nat.add_sub_cancel_left,Nat.not_lt,Nat.le_add_right,setM_len,hcm,hcm',put,fillP,sub,EVt])
      all_goals exact hS
     ·cases hg
    ·rename_i k
     have hlt:∀ {B:Blk},h[k]?=some B->k<h.length:=fun e=>(List.getElem?_eq_some_iff.1 e).1
     split at hg
     ·rename_i hf
      subst hf
      split at hg
      ·rename_i v hv
       cases hg
       obtain ⟨room,e2⟩:=cellAt_some hv
       have hv1:∀ m' B,cellAt (setM h a b m'++[B]) k=some v:=fun m' B=>cellAt_eq (by rw [List.getElem?_append_left (by rw [setM_len]; exact hlt e2)]; exact cell_setM H e2 m')
       simp (maxSteps:=999999) only [go_sem,simprocAttr,↓qT,↓qF,df76,TTn,fullG,memF_eq H,memF_set H,setM_fun H,fullM,put2G,put2M,slotF,slot_eta,cap_eta,Slot.cl,c0,c1,hs,jn1G,hs1,hst,hv1,R.lend,R.unlend,S_ren,C.ren,V.ren,Blk.ren,take_app,drop_app,Nat.not_lt_zero,Nat.lt_irrefl,Nat.add_sub_cancel_left,Nat.not_lt,Nat.le_add_right,setM_len,hcm,hcm',put,fillP,sub,EVt]
       exact hS
      ·cases hg
     split at hg
     ·rename_i hf
      subst hf
      split at hg
      ·rename_i v hv
       cases hg
       obtain ⟨room,e2⟩:=cellAt_some hv
       have hv1:∀ m' B,cellAt (setM h a b m'++[B]) k=some v:=fun m' B=>cellAt_eq (by rw [List.getElem?_append_left (by rw [setM_len]; exact hlt e2)]; exact cell_setM H e2 m')
       simp (maxSteps:=999999) only [go_sem,simprocAttr,↓qT,↓qF,df76,TTn,fullG,memF_eq H,memF_set H,setM_fun H,fullM,put2G,put2M,slotF,slot_eta,cap_eta,Slot.cl,c0,c1,hs,jn2G,hs1,hst,hv1,R.lend,R.unlend,S_ren,C.ren,V.ren,Blk.ren,take_app,drop_app,Nat.not_lt_zero,Nat.lt_irrefl,Nat.add_sub_cancel_left,Nat.not_lt,Nat.le_add_right,setM_len,hcm,hcm',put,fillP,sub,EVt]
       exact hS
      ·cases hg
     split at hg
     ·rename_i hf
      subst hf
      split at hg
      ·rename_i v hv
       cases hg
       have e2:=slotAt_some hv
       have hv1:∀ m' B,slotAt (setM h a b m'++[B]) k=some v:=fun m' B=>slotAt_eq (by rw [List.getElem?_append_left (by rw [setM_len]; exact hlt e2)]; exact slot_setM H e2 m')
       simp (maxSteps:=999999) only [go_sem,simprocAttr,↓qT,↓qF,df76,TTn,fullG,memF_eq H,memF_set H,setM_fun H,fullM,put2G,put2M,slotF,slot_eta,cap_eta,Slot.cl,c0,c1,hs,rm3G,hs1,hst,hv1,R.lend,R.unlend,S_ren,C.ren,V.ren,Blk.ren,take_app,drop_app,Nat.not_lt_zero,Nat.lt_irrefl,Nat.add_sub_cancel_left,Nat.not_lt,Nat.le_add_right,setM_len,hcm,hcm',put,fillP,sub,EVt]
       exact hS
      ·cases hg
     split at hg
     ·rename_i hf
      subst hf
      split at hg
      ·rename_i v hv
       cases hg
       have e2:=slotAt_some hv
       have hv1:∀ m' B,slotAt (setM h a b m'++[B]) k=some v:=fun m' B=>slotAt_eq (by rw [List.getElem?_append_left (by rw [setM_len]; exact hlt e2)]; exact slot_setM H e2 m')
       simp (maxSteps:=999999) only [go_sem,simprocAttr,↓qT,↓qF,df76,TTn,fullG,memF_eq H,memF_set H,setM_fun H,fullM,put2G,put2M,slotF,slot_eta,cap_eta,Slot.cl,c0,c1,hs,rm4G,hs1,hst,hv1,R.lend,R.unlend,S_ren,C.ren,V.ren,Blk.ren,take_app,drop_app,Nat.not_lt_zero,Nat.lt_irrefl,Nat.add_sub_cancel_left,Nat.not_lt,Nat.le_add_right,setM_len,hcm,hcm',put,fillP,sub,EVt]
       exact hS
      ·cases hg
     ·cases hg
    ·cases hg
   ·simp only [M.turnX,c0,c1,if_false] at hS
    simp (maxSteps:=999999) only [go_sem,simprocAttr,↓qT,↓qF,df76,TTn,fullG,memF_eq H,fullM,Slot.cl,c0,c1,put,fillP,sub,EVt]
    exact hS
  ·exact hS.elim
 ·exact hS.elim

def M.joinX (m:M) (p a n:Int):M:=((if p=0 then m.sfX a else m).turnX p fun s=>⟨s.cap,s.prev,a,s.depth⟩).turnX n fun s=>⟨s.cap,a,s.next,s.depth⟩
def joinM (b:Nat) (m:M) (st:M->List Blk):List V->Res
 | [.s (.i .i64 p), .s (.i .i64 a), .s (.i .i64 n)]=>.ok (.tup []) [] (st (m.joinX p a n))
 | _=>.bad
noncomputable def joinG:=memF joinM
noncomputable def TJn:Tab:=addT 76 turnG (addT 80 setFirstG (noT))
theorem TJn_snd:TJn.Snd Tryz.prog:=addT_snd ok76 turn_snd (addT_snd ok80 setFirst_snd ((noT_snd _)))
theorem join_snd:Snd Tryz.prog 119 (FSpec.of joinG):=snd_run TJn_snd mixed Tryz.func119 dc119 200 fun args h K hc hS=>by
 obtain ⟨a,b,m,rest,rfl,H,hS1⟩:=memF_spec hS
 clear hS
 have hS:=hS1
 clear hS1
 unfold joinM at hS
 split at hS
 ·rename_i p x n
  simp only [spec_ok,M.joinX] at hS
  have hcm:∀ m',clean h.length (setM h a b m')=true:=fun m'=>setM_clean H hc H.ltb
  have hcl:∀ m',cellAt (setM h a b m'++[⟨.rw,[.i .i64 x],1⟩]) h.length=some x:=fun m'=>cellAt_eq (room:=1) (by rw [List.getElem?_append_right (by rw [setM_len]; omega),setM_len,Nat.sub_self]; rfl)
  have t1:∀ m' q,turnG [.s (.p (.g a) 0), .s (.i .i64 q), .s (.fn 176 [(.g h.length,0)])] (setM h a b m'++[⟨.rw,[.i .i64 x],1⟩])=.ok (.tup []) [] (setM h a b (m'.turnX q fun s=>⟨s.cap,s.prev,x,s.depth⟩)++[⟨.rw,[.i .i64 x],1⟩]):=fun m' q=>by
   unfold turnG
   rw [memF_app H]
   simp only [turnM,chg,if_true,hcl]
  have t2:∀ m' q,turnG [.s (.p (.g a) 0), .s (.i .i64 q), .s (.fn 177 [(.g h.length,0)])] (setM h a b m'++[⟨.rw,[.i .i64 x],1⟩])=.ok (.tup []) [] (setM h a b (m'.turnX q fun s=>⟨s.cap,x,s.next,s.depth⟩)++[⟨.rw,[.i .i64 x],1⟩]):=fun m' q=>by
   unfold turnG
   rw [memF_app H]
   simp only [turnM,chg,if_true,hcl,Nat.reduceEqDiff,if_false]
  have t0:∀ q,turnG [.s (.p (.g a) 0), .s (.i .i64 q), .s (.fn 176 [(.g h.length,0)])] (h++[⟨.rw,[.i .i64 x],1⟩])=.ok (.tup []) [] (setM h a b (m.turnX q fun s=>⟨s.cap,s.prev,x,s.depth⟩)++[⟨.rw,[.i .i64 x],1⟩]):=fun q=>by
   have:=t1 m q
   rw [setM_self H] at this
   exact this
  by_cases c0:p=0
  ·simp only [c0,if_true] at hS
   simp (maxSteps:=999999) only [go_sem,simprocAttr,↓qT,↓qF,df119,TJn,setFirstG,memF_eq H,setFirstM,t1,t2,t0,R.lend,R.unlend,S_ren,C.ren,V.ren,Blk.ren,take_app,drop_app,Nat.not_lt_zero,Nat.lt_irrefl,Nat.add_sub_cancel_left,Nat.not_lt,Nat.le_add_right,setM_len,hcm,hc,c0]
   exact hS
  ·simp only [c0,if_false] at hS
   simp (maxSteps:=999999) only [go_sem,simprocAttr,↓qT,↓qF,df119,TJn,setFirstG,memF_eq H,setFirstM,t1,t2,t0,R.lend,R.unlend,S_ren,C.ren,V.ren,Blk.ren,take_app,drop_app,Nat.not_lt_zero,Nat.lt_irrefl,Nat.add_sub_cancel_left,Nat.not_lt,Nat.le_add_right,setM_len,hcm,hc,c0]
   exact hS
 ·exact hS.elim

def M.ins (m:M) (p a:Int):Int×M :=
 if m.fE a=0 then
  if (m.gX a).liB a (m.gV a)=true then (120,(m.gX a).liX (m.gV a))
  else if p=0 then (0,((((m.gX a).liX (m.gV a)).fstX.pX a ⟨(m.gV a).cap,(m.gV a).prev,((m.gX a).liX (m.gV a)).fst,(m.gV a).depth⟩).joinX (m.gV a).prev a ((m.gX a).liX (m.gV a)).fst))
  else if (((m.gX a).liX (m.gV a)).fstX).fE p=0 then
   if p=a\/((((m.gX a).liX (m.gV a)).fstX).gV p).depth=65535 then (120,(((m.gX a).liX (m.gV a)).fstX).gX p)
   else (0,(((((m.gX a).liX (m.gV a)).fstX).gX p).pX a ⟨(m.gV a).cap,p,((((m.gX a).liX (m.gV a)).fstX).gV p).next,IntKind.i64.wrap (((((m.gX a).liX (m.gV a)).fstX).gV p).depth+1)⟩).joinX p a ((((m.gX a).liX (m.gV a)).fstX).gV p).next)
  else ((((m.gX a).liX (m.gV a)).fstX).fE p,(((m.gX a).liX (m.gV a)).fstX).gX p)
 else (m.fE a,m.gX a)
def insM (b:Nat) (m:M) (st:M->List Blk):List V->Res
 | [.s (.i .i64 p), .s (.i .i64 a)]=>.ok (.s (.i .i64 (m.ins p a).1)) [] (st (m.ins p a).2)
 | _=>.bad
noncomputable def insG:=memF insM
noncomputable def TIn:Tab:=addT 74 fullG (addT 75 listedG (addT 100 firstG (addT 79 put2G (addT 125 empty2G (addT 119 joinG (noT))))))
theorem TIn_snd:TIn.Snd Tryz.prog:=addT_snd ok74 full_snd (addT_snd ok75 listed_snd (addT_snd ok100 first_snd (addT_snd ok79 put2_snd (addT_snd ok125 empty2_snd (addT_snd ok119 join_snd ((noT_snd _)))))))
theorem ins_snd:Snd Tryz.prog 45 (FSpec.of insG):=snd_run TIn_snd mixed Tryz.func45 dc45 300 fun args h K hc hS=>by
 obtain ⟨a,b,m,rest,rfl,H,hS1⟩:=memF_spec hS
 clear hS
 have hS:=hS1
 clear hS1
 unfold insM at hS
 split at hS
 ·rename_i p x
  simp only [spec_ok] at hS
  by_cases c1:m.fE x=0
  ·cases c2:(m.gX x).liB x (m.gV x) with
   | true =>
    simp only [M.ins,c1,c2,if_true] at hS
    simp (maxSteps:=999999) only [go_sem,simprocAttr,↓qT,↓qF,df45,TIn,fullG,memF_eq H,memF_set H,setM_fun H,fullM,listedG,listedM,slotF,slot_eta,cap_eta,Slot.cl,c1,c2,put,fillP,sub,EVt]
    exact hS
   | false =>
    by_cases c3:p=0
    ·simp only [M.ins,c1,c2,c3,Bool.false_eq_true,if_true,if_false] at hS
     simp (maxSteps:=999999) only [go_sem,simprocAttr,↓qT,↓qF,df45,TIn,fullG,memF_eq H,memF_set H,setM_fun H,fullM,listedG,listedM,firstG,firstM,put2G,put2M,joinG,joinM,slotF,slot_eta,cap_eta,Slot.cl,c1,c2,c3,put,fillP,sub,EVt]
     exact hS
    ·by_cases c4:(((m.gX x).liX (m.gV x)).fstX).fE p=0
     ·by_cases c5:p=x
      ·subst c5
       simp only [M.ins,c1,c2,c3,c4,Bool.false_eq_true,if_true,if_false,true_or] at hS
       simp (maxSteps:=999999) only [go_sem,simprocAttr,↓qT,↓qF,df45,TIn,fullG,memF_eq H,memF_set H,setM_fun H,fullM,listedG,listedM,firstG,firstM,put2G,put2M,joinG,joinM,slotF,slot_eta,cap_eta,Slot.cl,c1,c2,c3,c4,put,fillP,sub,EVt]
       exact hS
      ·by_cases c6:((((m.gX x).liX (m.gV x)).fstX).gV p).depth=65535
       ·simp only [M.ins,c1,c2,c3,c4,c5,c6,Bool.false_eq_true,if_true,if_false,or_true] at hS
        simp (maxSteps:=999999) only [go_sem,simprocAttr,↓qT,↓qF,df45,TIn,fullG,memF_eq H,memF_set H,setM_fun H,fullM,listedG,listedM,firstG,firstM,put2G,put2M,joinG,joinM,slotF,slot_eta,cap_eta,Slot.cl,c1,c2,c3,c4,c5,c6,put,fillP,sub,EVt]
        exact hS
       ·simp only [M.ins,c1,c2,c3,c4,c5,c6,Bool.false_eq_true,if_true,if_false,or_self] at hS
        simp (maxSteps:=999999) only [go_sem,simprocAttr,↓qT,↓qF,df45,TIn,fullG,memF_eq H,memF_set H,setM_fun H,fullM,listedG,listedM,firstG,firstM,put2G,put2M,joinG,joinM,slotF,slot_eta,cap_eta,Slot.cl,c1,c2,c3,c4,c5,c6,put,fillP,sub,EVt]
        repeat' first|exact hS|intro _|refine ⟨?_, ?_⟩
     ·simp only [M.ins,c1,c2,c3,c4,Bool.false_eq_true,if_true,if_false] at hS
      simp (maxSteps:=999999) only [go_sem,simprocAttr,↓qT,↓qF,df45,TIn,fullG,memF_eq H,memF_set H,setM_fun H,fullM,listedG,listedM,firstG,firstM,put2G,put2M,joinG,joinM,slotF,slot_eta,cap_eta,Slot.cl,c1,c2,c3,c4,put,fillP,sub,EVt]
      exact hS
  ·simp only [M.ins,c1,if_false] at hS
   simp (maxSteps:=999999) only [go_sem,simprocAttr,↓qT,↓qF,df45,TIn,fullG,memF_eq H,memF_set H,setM_fun H,fullM,Slot.cl,c1,put,fillP,sub,EVt]
   exact hS
 ·exact hS.elim
end Go.Proofs.YtcdfofeolgbnbaaGreat

