/- The document's derivation list: First,SetFirst,links,back,Insert,Move. -/
import Derived.Test.YtcdfofeolgbnbaaGreatZ18
import Derived.Test.YtcdfofeolgbnbaaGreatZ11
/- Memories and lists among a law's own blocks: the heap is what was there,and blocks behind it,one by one. -/
namespace Go.Proofs.YtcdfofeolgbnbaaGreat
open Go.D
set_option linter.all false
set_option maxRecDepth 100000
set_option maxHeartbeats 4000000

theorem nnn {a:Nat} (n k:Nat):a+n+k=a+(n+k):=Nat.add_assoc _ _ _
theorem nlt0 {a k:Nat}:(a<a+k)=(0<k):=by simp
theorem nltn {a j k:Nat}:(a+j<a+k)=(j<k):=by simp
section
variable {h X:List Blk} {A B:Blk} {m:M}
theorem vals_nil {n k:Nat}:vals n k []=true:=by rfl
theorem vals_cons {n k:Nat} {s:S} {l:List S}:vals n k (s::l)=(s.val n k&&vals n k l):=by rfl
theorem app_len {X:List Blk}:(h++X).length=h.length+X.length:=List.length_append
end

def unwc:List S->Option (List Int)
 | []=>some []
 | .i .u64 x::l=>match unwc l with
  | some v=>some (x::v)
  | none=>none
 | _=>none
theorem unwc_wc:∀ v:List Int,unwc (wc v)=some v
 | []=>rfl
 | x::v=>by simp only [wc_cons,unwc,unwc_wc v]
theorem unwc_nil:unwc []=some []:=by rfl
theorem unwc_cons {x:Int} {l:List S}:unwc (.i .u64 x::l)=match unwc l with|some v=>some (x::v)|none=>none:=by rfl
theorem wc_unwc:∀ {l:List S} {v:List Int},unwc l=some v->l=wc v
 | [],v,e=>by simp only [unwc,Option.some.injEq] at e; subst e; rfl
 | .i k x::l,v,e=>by
  cases k<;>simp only [unwc,reduceCtorEq] at e
  split at e
  ·rename_i v' e'
   rw [Option.some.injEq] at e
   subst e
   rw [wc_unwc e',wc_cons]
  ·cases e
 | .u::_,_,e=>by simp [unwc] at e
 | .b _::_,_,e=>by simp [unwc] at e
 | .p _ _::_,_,e=>by simp [unwc] at e
 | .np::_,_,e=>by simp [unwc] at e
 | .sl _ _ _ _::_,_,e=>by simp [unwc] at e
 | .ns::_,_,e=>by simp [unwc] at e
 | .es _ _::_,_,e=>by simp [unwc] at e
 | .fn _ _::_,_,e=>by simp [unwc] at e
 | .nf::_,_,e=>by simp [unwc] at e

def M.fE (m:M) (a:Int):Int:=if m.gE a=0/\(m.gV a).cap.ty=0 then 121 else m.gE a
def fullM (b:Nat) (m:M) (st:M->List Blk):List V->Res
 | [.s (.i .i64 a)]=>.ok (.tup [.agg (m.gV a).cl, .s (.i .i64 (m.fE a))]) [] (st (m.gX a))
 | _=>.bad
noncomputable def fullG:=memF fullM
noncomputable def TGt2:Tab:=addT 26 get2G (addT 126 get2G (noT))
theorem TGt2_snd:TGt2.Snd Tryz.prog:=addT_snd ok26 get2_snd (addT_snd ok126 rget2_snd ((noT_snd _)))
theorem full_snd:Snd Tryz.prog 74 (FSpec.of fullG):=snd_run TGt2_snd mixed Tryz.func74 dc74 200 fun args h K hc hS=>by
 obtain ⟨a,b,m,rest,rfl,H,hS1⟩:=memF_spec hS
 clear hS
 have hS:=hS1
 clear hS1
 unfold fullM at hS
 split at hS
 ·rename_i x
  simp only [spec_ok,M.fE] at hS
  by_cases c1:m.gE x=0
  ·by_cases c2:(m.gV x).cap.ty=0
   ·rw [M.gV_null c2] at hS
    simp only [M.gV_null c2,slotZ,capZ,Slot.cl,c1,and_self,if_true] at hS
    have c3:=M.gV_null c2
    simp (maxSteps:=999999) only [go_sem,simprocAttr,↓qT,↓qF,df74,TGt2,get2G,memF_eq H,get2M,Slot.cl,c1,c2,c3,slotZ,capZ,put,fillP,sub,EVt]
    exact hS
   ·simp only [Slot.cl,c1,c2,and_false,if_false] at hS
    simp (maxSteps:=999999) only [go_sem,simprocAttr,↓qT,↓qF,df74,TGt2,get2G,memF_eq H,get2M,Slot.cl,c1,c2,put,fillP,sub,EVt]
    exact hS
  ·simp only [Slot.cl,c1,false_and,if_false] at hS
   simp (maxSteps:=999999) only [go_sem,simprocAttr,↓qT,↓qF,df74,TGt2,get2G,memF_eq H,get2M,Slot.cl,c1,put,fillP,sub,EVt]
   exact hS
 ·exact hS.elim
theorem rfull_snd:Snd Tryz.prog 98 (FSpec.of fullG):=snd_run TGt2_snd mixed Tryz.func98 dc98 200 fun args h K hc hS=>by
 obtain ⟨a,b,m,rest,rfl,H,hS1⟩:=memF_spec hS
 clear hS
 have hS:=hS1
 clear hS1
 unfold fullM at hS
 split at hS
 ·rename_i x
  simp only [spec_ok,M.fE] at hS
  by_cases c1:m.gE x=0
  ·by_cases c2:(m.gV x).cap.ty=0
   ·rw [M.gV_null c2] at hS
    simp only [M.gV_null c2,slotZ,capZ,Slot.cl,c1,and_self,if_true] at hS
    have c3:=M.gV_null c2
    simp (maxSteps:=999999) only [go_sem,simprocAttr,↓qT,↓qF,df98,TGt2,get2G,memF_eq H,get2M,Slot.cl,c1,c2,c3,slotZ,capZ,put,fillP,sub,EVt]
    exact hS
   ·simp only [Slot.cl,c1,c2,and_false,if_false] at hS
    simp (maxSteps:=999999) only [go_sem,simprocAttr,↓qT,↓qF,df98,TGt2,get2G,memF_eq H,get2M,Slot.cl,c1,c2,put,fillP,sub,EVt]
    exact hS
  ·simp only [Slot.cl,c1,false_and,if_false] at hS
   simp (maxSteps:=999999) only [go_sem,simprocAttr,↓qT,↓qF,df98,TGt2,get2G,memF_eq H,get2M,Slot.cl,c1,put,fillP,sub,EVt]
   exact hS
 ·exact hS.elim

def M.liB (m:M) (a:Int) (s:Slot):Bool:=!(s.prev==0&&(s.next==0&&s.depth==0))||m.fst==a
def M.liX (m:M) (s:Slot):M:=if (s.prev==0&&(s.next==0&&s.depth==0))=true then m.fstX else m
def listedM (b:Nat) (m:M) (st:M->List Blk):List V->Res
 | [.s (.i .i64 a),x]=>slotF (fun s=>.ok (.s (.b (m.liB a s))) [] (st (m.liX s))) [x]
 | _=>.bad
noncomputable def listedG:=memF listedM
noncomputable def TFs:Tab:=addT 100 firstG (addT 80 setFirstG (noT))
theorem TFs_snd:TFs.Snd Tryz.prog:=addT_snd ok100 first_snd (addT_snd ok80 setFirst_snd ((noT_snd _)))
theorem listed_snd:Snd Tryz.prog 75 (FSpec.of listedG):=snd_run TFs_snd mixed Tryz.func75 dc75 200 fun args h K hc hS=>by
 obtain ⟨a,b,m,rest,rfl,H,hS1⟩:=memF_spec hS
 clear hS
 have hS:=hS1
 clear hS1
 unfold listedM at hS
 split at hS
 ·rename_i x y
  obtain ⟨s,e,hS2⟩:=slotF_spec hS
  simp only [List.cons.injEq,and_true] at e
  subst e
  clear hS
  have hS:=hS2
  simp only [spec_ok,M.liB,M.liX] at hS
  by_cases c1:s.prev=0
  ·by_cases c2:s.next=0
   ·by_cases c3:s.depth=0
    ·simp only [c1,c2,c3,beq_self_eq_true,Bool.and_self,Bool.not_true,Bool.false_or,if_true] at hS
     simp (maxSteps:=999999) only [go_sem,simprocAttr,↓qT,↓qF,df75,TFs,firstG,memF_eq H,firstM,Slot.cl,c1,c2,c3,put,fillP,sub,EVt]
     exact hS
    ·have c4:(s.depth==0)=false:=by simpa using c3
     simp only [c1,c2,c4,Bool.and_false,Bool.not_false,Bool.true_or,Bool.false_eq_true,if_false,setM_self H] at hS
     simp (maxSteps:=999999) only [go_sem,simprocAttr,↓qT,↓qF,df75,TFs,firstG,memF_eq H,firstM,Slot.cl,c1,c2,c3,put,fillP,sub,EVt]
     exact hS
   ·have c4:(s.next==0)=false:=by simpa using c2
    simp only [c1,c4,Bool.and_false,Bool.false_and,Bool.not_false,Bool.true_or,Bool.false_eq_true,if_false,setM_self H] at hS
    simp (maxSteps:=999999) only [go_sem,simprocAttr,↓qT,↓qF,df75,TFs,firstG,memF_eq H,firstM,Slot.cl,c1,c2,put,fillP,sub,EVt]
    exact hS
  ·have c4:(s.prev==0)=false:=by simpa using c1
   simp only [c4,Bool.false_and,Bool.not_false,Bool.true_or,Bool.false_eq_true,if_false,setM_self H] at hS
   simp (maxSteps:=999999) only [go_sem,simprocAttr,↓qT,↓qF,df75,TFs,firstG,memF_eq H,firstM,Slot.cl,c1,put,fillP,sub,EVt]
   exact hS
 ·exact hS.elim

/-! ### what a slot's links are turned to -/
def cellAt (h:List Blk) (k:Nat):Option Int:=match h[k]? with
 | some ⟨.rw,[.i .i64 v],_⟩=>some v
 | _=>none
def slotAt (h:List Blk) (k:Nat):Option Slot:=match h[k]? with
 | some ⟨.rw,[.i .i64 a, .i .i64 b, .i .i64 c, .i .i64 d, .i .i64 e, .i .i64 g, .i .i64 i, .i .i64 j, .i .i64 k, .i .i64 l, .i .i64 m, .i .i64 p, .i .i64 n, .i .i64 q],14⟩=>some ⟨⟨a,b,c,d,e,g,i,j,k,l,m⟩,p,n,q⟩
 | _=>none
theorem cellAt_some {h:List Blk} {k:Nat} {v:Int} (e:cellAt h k=some v):∃ room,h[k]?=some ⟨.rw,[.i .i64 v],room⟩:=by
 unfold cellAt at e
 split at e
 ·rename_i h1
  rw [Option.some.injEq] at e
  subst e
  exact ⟨_,h1⟩
 ·cases e
theorem slotAt_some {h:List Blk} {k:Nat} {s:Slot} (e:slotAt h k=some s):h[k]?=some ⟨.rw,s.cl,14⟩:=by
 unfold slotAt at e
 split at e
 ·rename_i h1
  rw [Option.some.injEq] at e
  subst e
  exact h1
 ·cases e
theorem cellAt_eq {h:List Blk} {k room:Nat} {v:Int} (e:h[k]?=some ⟨.rw,[.i .i64 v],room⟩):cellAt h k=some v:=by simp only [cellAt,e]
theorem slotAt_eq {h:List Blk} {k:Nat} {s:Slot} (e:h[k]?=some ⟨.rw,s.cl,14⟩):slotAt h k=some s:=by simp only [slotAt,e,Slot.cl]
theorem setM_other {h:List Blk} {a b k:Nat} {m m':M} {B:Blk} (H:IsMem h a b m) (e:h[k]?=some B) (h1:B≠MB b m) (h2:B≠MW m):(setM h a b m')[k]?=some B:=by
 have ka:a≠k:=fun x=>by subst x; rw [H.ha,Option.some.injEq] at e; exact h1 e.symm
 have kb:b≠k:=fun x=>by subst x; rw [H.hb,Option.some.injEq] at e; exact h2 e.symm
 simp only [setM]
 rw [List.getElem?_set_ne kb,List.getElem?_set_ne ka,e]
theorem wc_head {w:List Int} {n:Int} {l:List S} (e:S.i .i64 n::l=wc w):False:=by
 cases w with
 | nil=>cases e
 | cons x w=>rw [wc_cons] at e; simp at e
theorem cell_setM {h:List Blk} {a b k room:Nat} {m:M} {v:Int} (H:IsMem h a b m) (e:h[k]?=some ⟨.rw,[.i .i64 v],room⟩) (m':M):(setM h a b m')[k]?=some ⟨.rw,[.i .i64 v],room⟩ :=
 setM_other H e (fun x=>by simp [MB] at x) (fun x=>by simp only [MW,Blk.mk.injEq] at x; exact wc_head x.2.1)
theorem slot_setM {h:List Blk} {a b k room:Nat} {m:M} {s:Slot} (H:IsMem h a b m) (e:h[k]?=some ⟨.rw,s.cl,room⟩) (m':M):(setM h a b m')[k]?=some ⟨.rw,s.cl,room⟩ :=
 setM_other H e (fun x=>by simp [MB,Slot.cl] at x) (fun x=>by simp only [MW,Blk.mk.injEq,Slot.cl] at x; exact wc_head x.2.1)

def chg (h:List Blk) (f:Nat) (cs:List (R×Nat)):Option (Slot->Slot) :=
 match cs with
 | []=>if f=77\/f=78 then some fun s=>⟨s.cap,s.prev,s.next,IntKind.i64.wrap (s.depth-1)⟩ else none
 | [(.g k,0)] =>
  if f=176 then match cellAt h k with
   | some v=>some fun s=>⟨s.cap,s.prev,v,s.depth⟩
   | none=>none
  else if f=177 then match cellAt h k with
   | some v=>some fun s=>⟨s.cap,v,s.next,s.depth⟩
   | none=>none
  else if f=81 then match slotAt h k with
   | some v=>some fun s=>⟨s.cap,s.prev,v.next,s.depth⟩
   | none=>none
  else if f=82 then match slotAt h k with
   | some v=>some fun s=>⟨s.cap,v.prev,s.next,s.depth⟩
   | none=>none
  else none
 | _=>none
def depG:List V->List Blk->Res
 | [.s (.p (.g i) 0)],h=>match slotAt h i with
  | some s=>.ok (.tup []) [] (h.set i ⟨.rw,(⟨s.cap,s.prev,s.next,IntKind.i64.wrap (s.depth-1)⟩:Slot).cl,14⟩)
  | none=>.bad
 | _,_=>.bad
def jn1G:List V->List Blk->Res
 | [.s (.p (.g i) 0), .s (.p (.g k) 0)],h=>match slotAt h i,cellAt h k with
  | some s,some v=>.ok (.tup []) [] (h.set i ⟨.rw,(⟨s.cap,s.prev,v,s.depth⟩:Slot).cl,14⟩)
  | _,_=>.bad
 | _,_=>.bad
def jn2G:List V->List Blk->Res
 | [.s (.p (.g i) 0), .s (.p (.g k) 0)],h=>match slotAt h i,cellAt h k with
  | some s,some v=>.ok (.tup []) [] (h.set i ⟨.rw,(⟨s.cap,v,s.next,s.depth⟩:Slot).cl,14⟩)
  | _,_=>.bad
 | _,_=>.bad
def rm3G:List V->List Blk->Res
 | [.s (.p (.g i) 0), .s (.p (.g k) 0)],h=>match slotAt h i,slotAt h k with
  | some s,some v=>.ok (.tup []) [] (h.set i ⟨.rw,(⟨s.cap,s.prev,v.next,s.depth⟩:Slot).cl,14⟩)
  | _,_=>.bad
 | _,_=>.bad
def rm4G:List V->List Blk->Res
 | [.s (.p (.g i) 0), .s (.p (.g k) 0)],h=>match slotAt h i,slotAt h k with
  | some s,some v=>.ok (.tup []) [] (h.set i ⟨.rw,(⟨s.cap,v.prev,s.next,s.depth⟩:Slot).cl,14⟩)
  | _,_=>.bad
 | _,_=>.bad
theorem dep1_snd:Snd Tryz.prog 77 (FSpec.of depG):=snd_run (noT_snd _) mixed Tryz.func77 dc77 100 fun args h K hc hS=>by
 unfold depG at hS
 split at hS
 ·split at hS
  ·rename_i s hs
   have e1:=slotAt_some hs
   simp only [spec_ok,Slot.cl] at hS
   simp (maxSteps:=999999) only [go_sem,simprocAttr,↓qT,↓qF,df77,e1,Slot.cl,put,fillP,sub,EVt]
   exact hS
  ·exact hS.elim
 ·exact hS.elim
theorem dep2_snd:Snd Tryz.prog 78 (FSpec.of depG):=snd_run (noT_snd _) mixed Tryz.func78 dc78 100 fun args h K hc hS=>by
 unfold depG at hS
 split at hS
 ·split at hS
  ·rename_i s hs
   have e1:=slotAt_some hs
   simp only [spec_ok,Slot.cl] at hS
   simp (maxSteps:=999999) only [go_sem,simprocAttr,↓qT,↓qF,df78,e1,Slot.cl,put,fillP,sub,EVt]
   exact hS
  ·exact hS.elim
 ·exact hS.elim
theorem jn1_snd:Snd Tryz.prog 176 (FSpec.of jn1G):=snd_run (noT_snd _) mixed Tryz.func176 dc176 100 fun args h K hc hS=>by
 unfold jn1G at hS
 split at hS
 ·split at hS
  ·rename_i s v hs hv
   have e1:=slotAt_some hs
   obtain ⟨room,e2⟩:=cellAt_some hv
   simp only [spec_ok,Slot.cl] at hS
   simp (maxSteps:=999999) only [go_sem,simprocAttr,↓qT,↓qF,df176,e1,e2,Slot.cl,put,fillP,sub,EVt]
   exact hS
  ·exact hS.elim
 ·exact hS.elim
theorem jn2_snd:Snd Tryz.prog 177 (FSpec.of jn2G):=snd_run (noT_snd _) mixed Tryz.func177 dc177 100 fun args h K hc hS=>by
 unfold jn2G at hS
 split at hS
 ·split at hS
  ·rename_i s v hs hv
   have e1:=slotAt_some hs
   obtain ⟨room,e2⟩:=cellAt_some hv
   simp only [spec_ok,Slot.cl] at hS
   simp (maxSteps:=999999) only [go_sem,simprocAttr,↓qT,↓qF,df177,e1,e2,Slot.cl,put,fillP,sub,EVt]
   exact hS
  ·exact hS.elim
 ·exact hS.elim
theorem rm3_snd:Snd Tryz.prog 81 (FSpec.of rm3G):=snd_run (noT_snd _) mixed Tryz.func81 dc81 100 fun args h K hc hS=>by
 unfold rm3G at hS
 split at hS
 ·split at hS
  ·rename_i s v hs hv
   have e1:=slotAt_some hs
   have e2:=slotAt_some hv
   simp only [spec_ok,Slot.cl] at hS
   simp (maxSteps:=999999) only [go_sem,simprocAttr,↓qT,↓qF,df81,e1,e2,Slot.cl,put,fillP,sub,EVt]
   exact hS
  ·exact hS.elim
 ·exact hS.elim
theorem rm4_snd:Snd Tryz.prog 82 (FSpec.of rm4G):=snd_run (noT_snd _) mixed Tryz.func82 dc82 100 fun args h K hc hS=>by
 unfold rm4G at hS
 split at hS
 ·split at hS
  ·rename_i s v hs hv
   have e1:=slotAt_some hs
   have e2:=slotAt_some hv
   simp only [spec_ok,Slot.cl] at hS
   simp (maxSteps:=999999) only [go_sem,simprocAttr,↓qT,↓qF,df82,e1,e2,Slot.cl,put,fillP,sub,EVt]
   exact hS
  ·exact hS.elim
 ·exact hS.elim

def M.turnX (m:M) (a:Int) (g:Slot->Slot):M:=if a=0 then m else if m.fE a=0 then (m.gX a).pX a (g (m.gV a)) else m.gX a
def turnM (b:Nat) (m:M) (st:M->List Blk):List V->Res
 | [.s (.i .i64 a), .s (.fn f cs)]=>match chg (st m) f cs with
  | some g=>.ok (.tup []) [] (st (m.turnX a g))
  | none=>.bad
 | _=>.bad
noncomputable def turnG:=memF turnM
noncomputable def TTn:Tab:=addT 74 fullG (addT 79 put2G (addT 176 jn1G (addT 177 jn2G (addT 77 depG (addT 78 depG (addT 81 rm3G (addT 82 rm4G (noT))))))))
theorem TTn_snd:TTn.Snd Tryz.prog:=addT_snd ok74 full_snd (addT_snd ok79 put2_snd (addT_snd ok176 jn1_snd (addT_snd ok177 jn2_snd (addT_snd ok77 dep1_snd (addT_snd ok78 dep2_snd (addT_snd ok81 rm3_snd (addT_snd ok82 rm4_snd ((noT_snd _)))))))))
theorem turn_snd:Snd Tryz.prog 76 (FSpec.of turnG):=snd_run TTn_snd mixed Tryz.func76 dc76 200 fun args h K hc hS=>by
 obtain ⟨a,b,m,rest,rfl,H,hS1⟩:=memF_spec hS
 clear hS
 have hS:=hS1
 clear hS1
 unfold turnM at hS
 split at hS
 ·rename_i x f cs
  simp only [setM_self H] at hS
  split at hS
  ·rename_i g hg
   simp only [spec_ok] at hS
   have hcm:∀ m',clean (setM h a b m').length (setM h a b m')=true:=fun m'=>by rw [setM_len]; exact setM_clean H hc H.ltb
   have hcm':∀ m',clean h.length (setM h a b m')=true:=fun m'=>setM_clean H hc H.ltb
   by_cases c0:x=0
   ·simp only [M.turnX,c0,if_true,setM_self H] at hS
    simp (maxSteps:=999999) only [go_sem,simprocAttr,↓qT,↓qF,df76,c0]
    exact hS
   by_cases c1:m.fE x=0
   ·simp only [M.turnX,c0,c1,if_false,if_true] at hS
    obtain ⟨s,hs⟩:∃ s,m.gV x=s:=⟨_,rfl⟩
    rw [hs] at hS
    have hs1:∀ m',slotAt (setM h a b m'++[⟨.rw,s.cl,14⟩]) h.length=some s:=fun m'=>slotAt_eq (by rw [List.getElem?_append_right (by rw [setM_len]; omega),setM_len,Nat.sub_self]; rfl)
    have hst:∀ m' B B',(setM h a b m'++[B]).set h.length B'=setM h a b m'++[B']:=fun m' B B'=>by rw [List.set_append_right _ _ (by rw [setM_len]; omega),setM_len,Nat.sub_self]; rfl
    simp only [Slot.cl] at hs1
    unfold chg at hg
    split at hg
    ·split at hg
     ·rename_i hf
      cases hg
      rcases hf with rfl|rfl
      all_goals (simp (maxSteps:=999999) only [go_sem,simprocAttr,↓qT,↓qF,df76,TTn,fullG,memF_eq H,memF_set H,setM_fun H,fullM,put2G,put2M,slotF,slot_eta,cap_eta,Slot.cl,c0,c1,hs,depG,hs1,hst,R.lend,R.unlend,S_ren,C.ren,V.ren,Blk.ren,take_app,drop_app,Nat.not_lt_zero,Nat.lt_irrefl,Nat.add_sub_cancel_left,Nat.not_lt,Nat.le_add_right,setM_len,hcm,hcm',put,fillP,sub,EVt])
      all_goals exact hS
     ·cases hg
    ·rename_i k
     have hlt:∀ {B:Blk},h[k]?=some B->k<h.length:=fun e=>(List.getElem?_eq_some_iff.1 e).1
     split at hg
     ·rename_i hf
      subst hf
      split at hg
      ·rename_i v hv
       cases hg
       obtain ⟨room,e2⟩:=cellAt_some hv
       have hv1:∀ m' B,cellAt (setM h a b m'++[B]) k=some v:=fun m' B=>cellAt_eq (by rw [List.getElem?_append_left (by rw [setM_len]; exact hlt e2)]; exact cell_setM H e2 m')
       simp (maxSteps:=999999) only [go_sem,simprocAttr,↓qT,↓qF,df76,TTn,fullG,memF_eq H,memF_set H,setM_fun H,fullM,put2G,put2M,slotF,slot_eta,cap_eta,Slot.cl,c0,c1,hs,jn1G,hs1,hst,hv1,R.lend,R.unlend,S_ren,C.ren,V.ren,Blk.ren,take_app,drop_app,Nat.not_lt_zero,Nat.lt_irrefl,Nat.add_sub_cancel_left,Nat.not_lt,Nat.le_add_right,setM_len,hcm,hcm',put,fillP,sub,EVt]
       exact hS
      ·cases hg
     split at hg
     ·rename_i hf
      subst hf
      split at hg
      ·rename_i v hv
       cases hg
       obtain ⟨room,e2⟩:=cellAt_some hv
       have hv1:∀ m' B,cellAt (setM h a b m'++[B]) k=some v:=fun m' B=>cellAt_eq (by rw [List.getElem?_append_left (by rw [setM_len]; exact hlt e2)]; exact cell_setM H e2 m')
       simp (maxSteps:=999999) only [go_sem,simprocAttr,↓qT,↓qF,df76,TTn,fullG,memF_eq H,memF_set H,setM_fun H,fullM,put2G,put2M,slotF,slot_eta,cap_eta,Slot.cl,c0,c1,hs,jn2G,hs1,hst,hv1,R.lend,R.unlend,S_ren,C.ren,V.ren,Blk.ren,take_app,drop_app,Nat.not_lt_zero,Nat.lt_irrefl,Nat.add_sub_cancel_left,Nat.not_lt,Nat.le_add_right,setM_len,hcm,hcm',put,fillP,sub,EVt]
       exact hS
      ·cases hg
     split at hg
     ·rename_i hf
      subst hf
      split at hg
      ·rename_i v hv
       cases hg
       have e2:=slotAt_some hv
       have hv1:∀ m' B,slotAt (setM h a b m'++[B]) k=some v:=fun m' B=>slotAt_eq (by rw [List.getElem?_append_left (by rw [setM_len]; exact hlt e2)]; exact slot_setM H e2 m')
       simp (maxSteps:=999999) only [go_sem,simprocAttr,↓qT,↓qF,df76,TTn,fullG,memF_eq H,memF_set H,setM_fun H,fullM,put2G,put2M,slotF,slot_eta,cap_eta,Slot.cl,c0,c1,hs,rm3G,hs1,hst,hv1,R.lend,R.unlend,S_ren,C.ren,V.ren,Blk.ren,take_app,drop_app,Nat.not_lt_zero,Nat.lt_irrefl,Nat.add_sub_cancel_left,Nat.not_lt,Nat.le_add_right,setM_len,hcm,hcm',put,fillP,sub,EVt]
       exact hS
      ·cases hg
     split at hg
     ·rename_i hf
      subst hf
      split at hg
      ·rename_i v hv
       cases hg
       have e2:=slotAt_some hv
       have hv1:∀ m' B,slotAt (setM h a b m'++[B]) k=some v:=fun m' B=>slotAt_eq (by rw [List.getElem?_append_left (by rw [setM_len]; exact hlt e2)]; exact slot_setM H e2 m')
       simp (maxSteps:=999999) only [go_sem,simprocAttr,↓qT,↓qF,df76,TTn,fullG,memF_eq H,memF_set H,setM_fun H,fullM,put2G,put2M,slotF,slot_eta,cap_eta,Slot.cl,c0,c1,hs,rm4G,hs1,hst,hv1,R.lend,R.unlend,S_ren,C.ren,V.ren,Blk.ren,take_app,drop_app,Nat.not_lt_zero,Nat.lt_irrefl,Nat.add_sub_cancel_left,Nat.not_lt,Nat.le_add_right,setM_len,hcm,hcm',put,fillP,sub,EVt]
       exact hS
      ·cases hg
     ·cases hg
    ·cases hg
   ·simp only [M.turnX,c0,c1,if_false] at hS
    simp (maxSteps:=999999) only [go_sem,simprocAttr,↓qT,↓qF,df76,TTn,fullG,memF_eq H,fullM,Slot.cl,c0,c1,put,fillP,sub,EVt]
    exact hS
  ·exact hS.elim
 ·exact hS.elim

def M.joinX (m:M) (p a n:Int):M:=((if p=0 then m.sfX a else m).turnX p fun s=>⟨s.cap,s.prev,a,s.depth⟩).turnX n fun s=>⟨s.cap,a,s.next,s.depth⟩
def joinM (b:Nat) (m:M) (st:M->List Blk):List V->Res
 | [.s (.i .i64 p), .s (.i .i64 a), .s (.i .i64 n)]=>.ok (.tup []) [] (st (m.joinX p a n))
 | _=>.bad
noncomputable def joinG:=memF joinM
noncomputable def TJn:Tab:=addT 76 turnG (addT 80 setFirstG (noT))
theorem TJn_snd:TJn.Snd Tryz.prog:=addT_snd ok76 turn_snd (addT_snd ok80 setFirst_snd ((noT_snd _)))
theorem join_snd:Snd Tryz.prog 119 (FSpec.of joinG):=snd_run TJn_snd mixed Tryz.func119 dc119 200 fun args h K hc hS=>by
 obtain ⟨a,b,m,rest,rfl,H,hS1⟩:=memF_spec hS
 clear hS
 have hS:=hS1
 clear hS1
 unfold joinM at hS
 split at hS
 ·rename_i p x n
  simp only [spec_ok,M.joinX] at hS
  have hcm:∀ m',clean h.length (setM h a b m')=true:=fun m'=>setM_clean H hc H.ltb
  have hcl:∀ m',cellAt (setM h a b m'++[⟨.rw,[.i .i64 x],1⟩]) h.length=some x:=fun m'=>cellAt_eq (room:=1) (by rw [List.getElem?_append_right (by rw [setM_len]; omega),setM_len,Nat.sub_self]; rfl)
  have t1:∀ m' q,turnG [.s (.p (.g a) 0), .s (.i .i64 q), .s (.fn 176 [(.g h.length,0)])] (setM h a b m'++[⟨.rw,[.i .i64 x],1⟩])=.ok (.tup []) [] (setM h a b (m'.turnX q fun s=>⟨s.cap,s.prev,x,s.depth⟩)++[⟨.rw,[.i .i64 x],1⟩]):=fun m' q=>by
   unfold turnG
   rw [memF_app H]
   simp only [turnM,chg,if_true,hcl]
  have t2:∀ m' q,turnG [.s (.p (.g a) 0), .s (.i .i64 q), .s (.fn 177 [(.g h.length,0)])] (setM h a b m'++[⟨.rw,[.i .i64 x],1⟩])=.ok (.tup []) [] (setM h a b (m'.turnX q fun s=>⟨s.cap,x,s.next,s.depth⟩)++[⟨.rw,[.i .i64 x],1⟩]):=fun m' q=>by
   unfold turnG
   rw [memF_app H]
   simp only [turnM,chg,if_true,hcl,Nat.reduceEqDiff,if_false]
  have t0:∀ q,turnG [.s (.p (.g a) 0), .s (.i .i64 q), .s (.fn 176 [(.g h.length,0)])] (h++[⟨.rw,[.i .i64 x],1⟩])=.ok (.tup []) [] (setM h a b (m.turnX q fun s=>⟨s.cap,s.prev,x,s.depth⟩)++[⟨.rw,[.i .i64 x],1⟩]):=fun q=>by
   have:=t1 m q
   rw [setM_self H] at this
   exact this
  by_cases c0:p=0
  ·simp only [c0,if_true] at hS
   simp (maxSteps:=999999) only [go_sem,simprocAttr,↓qT,↓qF,df119,TJn,setFirstG,memF_eq H,setFirstM,t1,t2,t0,R.lend,R.unlend,S_ren,C.ren,V.ren,Blk.ren,take_app,drop_app,Nat.not_lt_zero,Nat.lt_irrefl,Nat.add_sub_cancel_left,Nat.not_lt,Nat.le_add_right,setM_len,hcm,hc,c0]
   exact hS
  ·simp only [c0,if_false] at hS
   simp (maxSteps:=999999) only [go_sem,simprocAttr,↓qT,↓qF,df119,TJn,setFirstG,memF_eq H,setFirstM,t1,t2,t0,R.lend,R.unlend,S_ren,C.ren,V.ren,Blk.ren,take_app,drop_app,Nat.not_lt_zero,Nat.lt_irrefl,Nat.add_sub_cancel_left,Nat.not_lt,Nat.le_add_right,setM_len,hcm,hc,c0]
   exact hS
 ·exact hS.elim

def M.ins (m:M) (p a:Int):Int×M :=
 if m.fE a=0 then
  if (m.gX a).liB a (m.gV a)=true then (120,(m.gX a).liX (m.gV a))
  else if p=0 then (0,((((m.gX a).liX (m.gV a)).fstX.pX a ⟨(m.gV a).cap,(m.gV a).prev,((m.gX a).liX (m.gV a)).fst,(m.gV a).depth⟩).joinX (m.gV a).prev a ((m.gX a).liX (m.gV a)).fst))
  else if (((m.gX a).liX (m.gV a)).fstX).fE p=0 then
   if p=a\/((((m.gX a).liX (m.gV a)).fstX).gV p).depth=65535 then (120,(((m.gX a).liX (m.gV a)).fstX).gX p)
   else (0,(((((m.gX a).liX (m.gV a)).fstX).gX p).pX a ⟨(m.gV a).cap,p,((((m.gX a).liX (m.gV a)).fstX).gV p).next,IntKind.i64.wrap (((((m.gX a).liX (m.gV a)).fstX).gV p).depth+1)⟩).joinX p a ((((m.gX a).liX (m.gV a)).fstX).gV p).next)
  else ((((m.gX a).liX (m.gV a)).fstX).fE p,(((m.gX a).liX (m.gV a)).fstX).gX p)
 else (m.fE a,m.gX a)
def insM (b:Nat) (m:M) (st:M->List Blk):List V->Res
 | [.s (.i .i64 p), .s (.i .i64 a)]=>.ok (.s (.i .i64 (m.ins p a).1)) [] (st (m.ins p a).2)
 | _=>.bad
noncomputable def insG:=memF insM
noncomputable def TIn:Tab:=addT 74 fullG (addT 75 listedG (addT 100 firstG (addT 79 put2G (addT 125 empty2G (addT 119 joinG (noT))))))
theorem TIn_snd:TIn.Snd Tryz.prog:=addT_snd ok74 full_snd (addT_snd ok75 listed_snd (addT_snd ok100 first_snd (addT_snd ok79 put2_snd (addT_snd ok125 empty2_snd (addT_snd ok119 join_snd ((noT_snd _)))))))
theorem ins_snd:Snd Tryz.prog 45 (FSpec.of insG):=snd_run TIn_snd mixed Tryz.func45 dc45 300 fun args h K hc hS=>by
 obtain ⟨a,b,m,rest,rfl,H,hS1⟩:=memF_spec hS
 clear hS
 have hS:=hS1
 clear hS1
 unfold insM at hS
 split at hS
 ·rename_i p x
  simp only [spec_ok] at hS
  by_cases c1:m.fE x=0
  ·cases c2:(m.gX x).liB x (m.gV x) with
   | true =>
    simp only [M.ins,c1,c2,if_true] at hS
    simp (maxSteps:=999999) only [go_sem,simprocAttr,↓qT,↓qF,df45,TIn,fullG,memF_eq H,memF_set H,setM_fun H,fullM,listedG,listedM,slotF,slot_eta,cap_eta,Slot.cl,c1,c2,put,fillP,sub,EVt]
    exact hS
   | false =>
    by_cases c3:p=0
    ·simp only [M.ins,c1,c2,c3,Bool.false_eq_true,if_true,if_false] at hS
     simp (maxSteps:=999999) only [go_sem,simprocAttr,↓qT,↓qF,df45,TIn,fullG,memF_eq H,memF_set H,setM_fun H,fullM,listedG,listedM,firstG,firstM,put2G,put2M,joinG,joinM,slotF,slot_eta,cap_eta,Slot.cl,c1,c2,c3,put,fillP,sub,EVt]
     exact hS
    ·by_cases c4:(((m.gX x).liX (m.gV x)).fstX).fE p=0
     ·by_cases c5:p=x
      ·subst c5
       simp only [M.ins,c1,c2,c3,c4,Bool.false_eq_true,if_true,if_false,true_or] at hS
       simp (maxSteps:=999999) only [go_sem,simprocAttr,↓qT,↓qF,df45,TIn,fullG,memF_eq H,memF_set H,setM_fun H,fullM,listedG,listedM,firstG,firstM,put2G,put2M,joinG,joinM,slotF,slot_eta,cap_eta,Slot.cl,c1,c2,c3,c4,put,fillP,sub,EVt]
       exact hS
      ·by_cases c6:((((m.gX x).liX (m.gV x)).fstX).gV p).depth=65535
       ·simp only [M.ins,c1,c2,c3,c4,c5,c6,Bool.false_eq_true,if_true,if_false,or_true] at hS
        simp (maxSteps:=999999) only [go_sem,simprocAttr,↓qT,↓qF,df45,TIn,fullG,memF_eq H,memF_set H,setM_fun H,fullM,listedG,listedM,firstG,firstM,put2G,put2M,joinG,joinM,slotF,slot_eta,cap_eta,Slot.cl,c1,c2,c3,c4,c5,c6,put,fillP,sub,EVt]
        exact hS
       ·simp only [M.ins,c1,c2,c3,c4,c5,c6,Bool.false_eq_true,if_true,if_false,or_self] at hS
        simp (maxSteps:=999999) only [go_sem,simprocAttr,↓qT,↓qF,df45,TIn,fullG,memF_eq H,memF_set H,setM_fun H,fullM,listedG,listedM,firstG,firstM,put2G,put2M,joinG,joinM,slotF,slot_eta,cap_eta,Slot.cl,c1,c2,c3,c4,c5,c6,put,fillP,sub,EVt]
        repeat' first|exact hS|intro _|refine ⟨?_, ?_⟩
     ·simp only [M.ins,c1,c2,c3,c4,Bool.false_eq_true,if_true,if_false] at hS
      simp (maxSteps:=999999) only [go_sem,simprocAttr,↓qT,↓qF,df45,TIn,fullG,memF_eq H,memF_set H,setM_fun H,fullM,listedG,listedM,firstG,firstM,put2G,put2M,joinG,joinM,slotF,slot_eta,cap_eta,Slot.cl,c1,c2,c3,c4,put,fillP,sub,EVt]
      exact hS
  ·simp only [M.ins,c1,if_false] at hS
   simp (maxSteps:=999999) only [go_sem,simprocAttr,↓qT,↓qF,df45,TIn,fullG,memF_eq H,memF_set H,setM_fun H,fullM,Slot.cl,c1,put,fillP,sub,EVt]
   exact hS
 ·exact hS.elim

def saidM (b:Nat) (m:M) (st:M->List Blk):List V->Res
 | [.s (.i .i64 2), .s (.i .i64 4), .s (.i .i64 4)]=>.ok (.s (.i .i64 m.fst)) [] (st m.fstX)
 | _=>.bad
noncomputable def saidG:=memF saidM
def saysM (b:Nat) (m:M) (st:M->List Blk):List V->Res
 | [.s (.i .i64 2), .s (.i .i64 n), .s (.i .i64 4), .s (.i .i64 4)]=>.ok (.s (.i .i64 (m.sfE n))) [] (st (m.sfX n))
 | _=>.bad
noncomputable def saysG:=memF saysM
theorem kept_there (m:M) (n:Int):keptB 4 4 m n=(m.has n 4&&(decide (4<=n)&&n.tmod 4==0)):=by
 have hl:=m.l
 have w1:IntKind.i64.wrap ((m.w.length:Int)-4)=m.w.length-4:=wrap64 (by omega) (by omega)
 rw [Bool.eq_iff_iff]
 simp only [keptB,w1,M.has,Bool.and_eq_true,decide_eq_true_eq,beq_iff_eq]
 omega
noncomputable def TSd:Tab:=addT 189 thereG (addT 179 readG (addT 175 writeG (noT)))
theorem TSd_snd:TSd.Snd Tryz.prog:=addT_snd ok189 rthere_snd (addT_snd ok179 rread_snd (addT_snd ok175 rwrite_snd ((noT_snd _))))
theorem said_snd:Snd Tryz.prog 178 (FSpec.of saidG):=snd_run TSd_snd mixed Tryz.func178 dc178 200 fun args h K hc hS=>by
 obtain ⟨a,b,m,rest,rfl,H,hS1⟩:=memF_spec hS
 clear hS
 have hS:=hS1
 clear hS1
 unfold saidM at hS
 split at hS
 ·simp only [spec_ok,M.fst,M.fstX,keptV,kept_there] at hS
  have w0:IntKind.i64.wrap 0=0:=by decide
  cases hh:m.has 2 1 with
  | false =>
   simp only [hh,w0,Bool.false_eq_true,if_false,Int.reduceLE,decide_false,Bool.false_and,Bool.and_false,and_false,setM_self H] at hS
   cases h1:m.has 0 4
   all_goals (simp (maxSteps:=999999) only [go_sem,simprocAttr,↓qT,↓qF,df178,TSd,readG,thereG,memF_eq H,memF_set H,setM_fun H,readM,thereM,setM_self H,hh,h1,w0])
   all_goals exact hS
  | true =>
   simp only [hh,if_true] at hS
   have hu:=m.at_u 2
   obtain ⟨n,hn⟩:∃ n,m.at 2=n:=⟨_,rfl⟩
   rw [hn] at hS hu
   by_cases c1:n<=65535
   ·have c1':¬ (65535<n):=by omega
    have wn:IntKind.i64.wrap n=n:=wrap64 (by have:=hu.1; omega) (by omega)
    simp only [c1,wn,true_and] at hS
    cases c2:m.has n 4 with
    | false =>
     simp only [c2,Bool.false_and,Bool.false_eq_true,if_false] at hS
     simp (maxSteps:=999999) only [go_sem,simprocAttr,↓qT,↓qF,df178,TSd,readG,thereG,memF_eq H,memF_set H,setM_fun H,readM,thereM,setM_self H,M.tick_has,hh,hn,c1',wn,c2]
     exact hS
    | true =>
     by_cases c3:4<=n
     ·have c3':¬ n<4:=by omega
      by_cases c4:n.tmod 4=0
      ·simp only [c2,c3,c4,decide_true,beq_self_eq_true,Bool.and_self,if_true] at hS
       simp (maxSteps:=999999) only [go_sem,simprocAttr,↓qT,↓qF,df178,TSd,readG,thereG,memF_eq H,memF_set H,setM_fun H,readM,thereM,setM_self H,M.tick_has,hh,hn,c1',wn,c2,c3',c4]
       exact hS
      ·have c4':(n.tmod 4==0)=false:=by simpa using c4
       simp only [c2,c3,c4',decide_true,Bool.and_false,Bool.false_eq_true,if_false] at hS
       simp (maxSteps:=999999) only [go_sem,simprocAttr,↓qT,↓qF,df178,TSd,readG,thereG,memF_eq H,memF_set H,setM_fun H,readM,thereM,setM_self H,M.tick_has,hh,hn,c1',wn,c2,c3',c4]
       exact hS
     ·have c3':n<4:=by omega
      simp only [c2,c3,decide_false,Bool.false_and,Bool.and_false,Bool.false_eq_true,if_false] at hS
      simp (maxSteps:=999999) only [go_sem,simprocAttr,↓qT,↓qF,df178,TSd,readG,thereG,memF_eq H,memF_set H,setM_fun H,readM,thereM,setM_self H,M.tick_has,hh,hn,c1',wn,c2,c3']
      exact hS
   ·have c1':65535<n:=by omega
    simp only [c1,false_and,if_false] at hS
    simp (maxSteps:=999999) only [go_sem,simprocAttr,↓qT,↓qF,df178,TSd,readG,thereG,memF_eq H,memF_set H,setM_fun H,readM,thereM,setM_self H,hh,hn,c1']
    exact hS
 ·exact hS.elim
theorem says_snd:Snd Tryz.prog 181 (FSpec.of saysG):=snd_run TSd_snd mixed Tryz.func181 dc181 200 fun args h K hc hS=>by
 obtain ⟨a,b,m,rest,rfl,H,hS1⟩:=memF_spec hS
 clear hS
 have hS:=hS1
 clear hS1
 unfold saysM at hS
 split at hS
 ·rename_i n
  simp only [spec_ok,M.sfE,M.sfX,kept_there] at hS
  have hun:=wrapu_u n
  by_cases c0:n=0
  ·subst c0
   have c5:IntKind.u64.wrap 0=0:=by decide
   have c6:u64 0:=u64_0
   simp only [beq_self_eq_true,Bool.true_or,true_and,c5] at hS
   cases hh:m.has 2 1
   all_goals simp only [hh,Bool.false_eq_true,if_true,if_false,setM_self H] at hS
   all_goals cases h1:m.has 0 4
   all_goals (simp (maxSteps:=999999) only [go_sem,simprocAttr,↓qT,↓qF,df181,TSd,writeG,thereG,memF_eq H,memF_set H,setM_fun H,writeM,thereM,setM_self H,hh,h1,c5,c6])
   all_goals exact hS
  ·have c0':(n==0)=false:=by simpa using c0
   simp only [c0',Bool.false_or] at hS
   cases c2:m.has n 4 with
   | false =>
    simp only [c2,Bool.false_and,Bool.false_eq_true,false_and,if_false,setM_self H] at hS
    simp (maxSteps:=999999) only [go_sem,simprocAttr,↓qT,↓qF,df181,TSd,writeG,thereG,memF_eq H,memF_set H,setM_fun H,writeM,thereM,setM_self H,c0,c2]
    exact hS
   | true =>
    by_cases c3:4<=n
    ·have c3':¬ n<4:=by omega
     by_cases c4:n.tmod 4=0
     ·simp only [c2,c3,c4,decide_true,beq_self_eq_true,Bool.and_self,true_and] at hS
      cases hh:m.has 2 1
      all_goals simp only [hh,Bool.false_eq_true,if_true,if_false,setM_self H] at hS
      all_goals (simp (maxSteps:=999999) only [go_sem,simprocAttr,↓qT,↓qF,df181,TSd,writeG,thereG,memF_eq H,memF_set H,setM_fun H,writeM,thereM,setM_self H,hh,hun,c0,c2,c3',c4])
      all_goals exact hS
     ·have c4':(n.tmod 4==0)=false:=by simpa using c4
      simp only [c2,c3,c4',decide_true,Bool.and_false,Bool.false_eq_true,false_and,if_false,setM_self H] at hS
      simp (maxSteps:=999999) only [go_sem,simprocAttr,↓qT,↓qF,df181,TSd,writeG,thereG,memF_eq H,memF_set H,setM_fun H,writeM,thereM,setM_self H,c0,c2,c3',c4]
      exact hS
    ·have c3':n<4:=by omega
     simp only [c2,c3,decide_false,Bool.false_and,Bool.and_false,Bool.false_eq_true,false_and,if_false,setM_self H] at hS
     simp (maxSteps:=999999) only [go_sem,simprocAttr,↓qT,↓qF,df181,TSd,writeG,thereG,memF_eq H,memF_set H,setM_fun H,writeM,thereM,setM_self H,c0,c2,c3']
     exact hS
 ·exact hS.elim
noncomputable def TSe:Tab:=addT 178 saidG (addT 181 saysG (noT))
theorem TSe_snd:TSe.Snd Tryz.prog:=addT_snd ok178 said_snd (addT_snd ok181 says_snd ((noT_snd _)))
theorem rfirst_snd:Snd Tryz.prog 122 (FSpec.of firstG):=snd_run TSe_snd mixed Tryz.func122 dc122 100 fun args h K hc hS=>by
 obtain ⟨a,b,m,rest,rfl,H,hS1⟩:=memF_spec hS
 clear hS
 have hS:=hS1
 clear hS1
 unfold firstM at hS
 split at hS
 ·simp only [spec_ok] at hS
  simp (maxSteps:=999999) only [go_sem,simprocAttr,↓qT,↓qF,df122,TSe,saidG,memF_eq H,saidM]
  exact hS
 ·exact hS.elim
theorem rsetFirst_snd:Snd Tryz.prog 128 (FSpec.of setFirstG):=snd_run TSe_snd mixed Tryz.func128 dc128 100 fun args h K hc hS=>by
 obtain ⟨a,b,m,rest,rfl,H,hS1⟩:=memF_spec hS
 clear hS
 have hS:=hS1
 clear hS1
 unfold setFirstM at hS
 split at hS
 ·simp only [spec_ok] at hS
  simp (maxSteps:=999999) only [go_sem,simprocAttr,↓qT,↓qF,df128,TSe,saysG,memF_eq H,saysM]
  exact hS
 ·exact hS.elim

def M.nkX (m:M) (p a:Int):M:=if m.gE p=0 then (m.gX p).pX p ⟨(m.gV p).cap,(m.gV p).prev,a,(m.gV p).depth⟩ else m.gX p
def M.lkX (m:M) (p a:Int):M:=if p=0 then m.sfX a else m.nkX p a
def M.bkX (m:M) (a n:Int):M:=if ¬ n=0/\m.gE n=0 then (m.gX n).pX n ⟨(m.gV n).cap,a,(m.gV n).next,(m.gV n).depth⟩ else m.gX n
def linksM (b:Nat) (m:M) (st:M->List Blk):List V->Res
 | [.s (.i .i64 p), .s (.i .i64 a), .s (.i .i64 _)]=>.ok (.tup []) [] (st (m.lkX p a))
 | _=>.bad
noncomputable def linksG:=memF linksM
def backM (b:Nat) (m:M) (st:M->List Blk):List V->Res
 | [.s (.i .i64 a), .s (.i .i64 n)]=>.ok (.tup []) [] (st (m.bkX a n))
 | _=>.bad
noncomputable def backG:=memF backM
noncomputable def TLk:Tab:=addT 126 get2G (addT 118 put2G (addT 128 setFirstG (noT)))
theorem TLk_snd:TLk.Snd Tryz.prog:=addT_snd ok126 rget2_snd (addT_snd ok118 rput2_snd (addT_snd ok128 rsetFirst_snd ((noT_snd _))))
theorem links_snd:Snd Tryz.prog 123 (FSpec.of linksG):=snd_run TLk_snd mixed Tryz.func123 dc123 200 fun args h K hc hS=>by
 obtain ⟨a,b,m,rest,rfl,H,hS1⟩:=memF_spec hS
 clear hS
 have hS:=hS1
 clear hS1
 unfold linksM at hS
 split at hS
 ·rename_i p x n
  simp only [spec_ok,M.lkX,M.nkX] at hS
  by_cases c0:p=0
  ·simp only [c0,if_true] at hS
   simp (maxSteps:=999999) only [go_sem,simprocAttr,↓qT,↓qF,df123,TLk,setFirstG,memF_eq H,setFirstM,c0]
   exact hS
  ·by_cases c1:m.gE p=0
   ·simp only [c0,c1,if_true,if_false] at hS
    simp (maxSteps:=999999) only [go_sem,simprocAttr,↓qT,↓qF,df123,TLk,get2G,put2G,memF_eq H,memF_set H,setM_fun H,get2M,put2M,slotF,slot_eta,cap_eta,Slot.cl,c0,c1,put,fillP,sub,EVt]
    exact hS
   ·simp only [c0,c1,if_false] at hS
    simp (maxSteps:=999999) only [go_sem,simprocAttr,↓qT,↓qF,df123,TLk,get2G,put2G,memF_eq H,memF_set H,setM_fun H,get2M,put2M,slotF,slot_eta,cap_eta,Slot.cl,c0,c1,put,fillP,sub,EVt]
    exact hS
 ·exact hS.elim
theorem back_snd:Snd Tryz.prog 124 (FSpec.of backG):=snd_run TLk_snd mixed Tryz.func124 dc124 200 fun args h K hc hS=>by
 obtain ⟨a,b,m,rest,rfl,H,hS1⟩:=memF_spec hS
 clear hS
 have hS:=hS1
 clear hS1
 unfold backM at hS
 split at hS
 ·rename_i x n
  simp only [spec_ok,M.bkX] at hS
  by_cases c0:n=0
  ·simp only [c0,not_true_eq_false,false_and,if_false] at hS
   simp (maxSteps:=999999) only [go_sem,simprocAttr,↓qT,↓qF,df124,TLk,get2G,put2G,memF_eq H,memF_set H,setM_fun H,get2M,put2M,slotF,slot_eta,cap_eta,Slot.cl,c0,put,fillP,sub,EVt]
   exact hS
  ·by_cases c1:m.gE n=0
   ·simp only [c0,c1,not_false_eq_true,and_self,if_true,if_false] at hS
    simp (maxSteps:=999999) only [go_sem,simprocAttr,↓qT,↓qF,df124,TLk,get2G,put2G,memF_eq H,memF_set H,setM_fun H,get2M,put2M,slotF,slot_eta,cap_eta,Slot.cl,c0,c1,put,fillP,sub,EVt]
    exact hS
   ·simp only [c0,c1,and_false,if_false] at hS
    simp (maxSteps:=999999) only [go_sem,simprocAttr,↓qT,↓qF,df124,TLk,get2G,put2G,memF_eq H,memF_set H,setM_fun H,get2M,put2M,slotF,slot_eta,cap_eta,Slot.cl,c0,c1,put,fillP,sub,EVt]
    exact hS
 ·exact hS.elim

def M.rins (m:M) (p a:Int):Int×M :=
 if m.fE a=0 then
  if (m.gX a).liB a (m.gV a)=true then (120,(m.gX a).fstX)
  else if p=0 then (0,(((m.gX a).fstX.lkX (m.gV a).prev a).bkX a (m.gX a).fst).pX a ⟨(m.gV a).cap,(m.gV a).prev,(m.gX a).fst,(m.gV a).depth⟩)
  else if (m.gX a).fstX.fE p=0 then
   if p=a\/((m.gX a).fstX.gV p).depth=65535 then (120,(m.gX a).fstX.gX p)
   else (0,((((m.gX a).fstX.gX p).lkX p a).bkX a ((m.gX a).fstX.gV p).next).pX a ⟨(m.gV a).cap,p,((m.gX a).fstX.gV p).next,IntKind.i64.wrap (((m.gX a).fstX.gV p).depth+1)⟩)
  else ((m.gX a).fstX.fE p,(m.gX a).fstX.gX p)
 else (m.fE a,m.gX a)
def rinsM (b:Nat) (m:M) (st:M->List Blk):List V->Res
 | [.s (.i .i64 p), .s (.i .i64 a)]=>.ok (.s (.i .i64 (m.rins p a).1)) [] (st (m.rins p a).2)
 | _=>.bad
noncomputable def rinsG:=memF rinsM
noncomputable def TRi:Tab:=addT 98 fullG (addT 122 firstG (addT 126 get2G (addT 118 put2G (addT 123 linksG (addT 124 backG (addT 128 setFirstG (noT)))))))
theorem TRi_snd:TRi.Snd Tryz.prog:=addT_snd ok98 rfull_snd (addT_snd ok122 rfirst_snd (addT_snd ok126 rget2_snd (addT_snd ok118 rput2_snd (addT_snd ok123 links_snd (addT_snd ok124 back_snd (addT_snd ok128 rsetFirst_snd ((noT_snd _))))))))
theorem rins_snd:Snd Tryz.prog 52 (FSpec.of rinsG):=snd_run TRi_snd mixed Tryz.func52 dc52 300 fun args h K hc hS=>by
 obtain ⟨a,b,m,rest,rfl,H,hS1⟩:=memF_spec hS
 clear hS
 have hS:=hS1
 clear hS1
 unfold rinsM at hS
 split at hS
 ·rename_i p x
  simp only [spec_ok] at hS
  by_cases c1:m.fE x=0
  ·obtain ⟨s,hs⟩:∃ s,m.gV x=s:=⟨_,rfl⟩
   cases c2:(m.gX x).liB x (m.gV x) with
   | true =>
    simp only [M.rins,c1,c2,if_true] at hS
    simp only [M.liB,hs] at c2
    by_cases d1:s.prev=0
    ·by_cases d2:s.next=0
     ·by_cases d3:s.depth=0
      ·simp only [d1,d2,d3,beq_self_eq_true,Bool.and_self,Bool.not_true,Bool.false_or,beq_iff_eq] at c2
       simp (maxSteps:=999999) only [go_sem,simprocAttr,↓qT,↓qF,df52,TRi,fullG,memF_eq H,memF_set H,setM_fun H,fullM,firstG,firstM,Slot.cl,c1,c2,hs,d1,d2,d3,put,fillP,sub,EVt]
       exact hS
      ·simp (maxSteps:=999999) only [go_sem,simprocAttr,↓qT,↓qF,df52,TRi,fullG,memF_eq H,memF_set H,setM_fun H,fullM,firstG,firstM,Slot.cl,c1,hs,d1,d2,d3,put,fillP,sub,EVt]
       exact hS
     ·simp (maxSteps:=999999) only [go_sem,simprocAttr,↓qT,↓qF,df52,TRi,fullG,memF_eq H,memF_set H,setM_fun H,fullM,firstG,firstM,Slot.cl,c1,hs,d1,d2,put,fillP,sub,EVt]
      exact hS
    ·simp (maxSteps:=999999) only [go_sem,simprocAttr,↓qT,↓qF,df52,TRi,fullG,memF_eq H,memF_set H,setM_fun H,fullM,firstG,firstM,Slot.cl,c1,hs,d1,put,fillP,sub,EVt]
     exact hS
   | false =>
    have c2':=c2
    simp only [M.liB,hs,Bool.or_eq_false_iff,Bool.not_eq_false',Bool.and_eq_true,beq_iff_eq,beq_eq_false_iff_ne,ne_eq] at c2'
    obtain ⟨⟨d1,d2,d3⟩,d4⟩:=c2'
    have c2:(m.gX x).liB x s=false:=by rw [<-hs]; exact c2
    by_cases c3:p=0
    ·simp only [M.rins,c1,c2,c3,hs,d1,d3,Bool.false_eq_true,if_true,if_false] at hS
     simp (maxSteps:=999999) only [go_sem,simprocAttr,↓qT,↓qF,df52,TRi,fullG,memF_eq H,memF_set H,setM_fun H,fullM,firstG,firstM,linksG,linksM,backG,backM,put2G,put2M,slotF,slot_eta,cap_eta,Slot.cl,c1,c3,hs,d1,d2,d3,d4,put,fillP,sub,EVt]
     exact hS
    ·by_cases c4:(m.gX x).fstX.fE p=0
     ·by_cases c5:p=x
      ·subst c5
       simp only [M.rins,c1,hs,c2,c3,c4,Bool.false_eq_true,if_true,if_false,true_or] at hS
       simp (maxSteps:=999999) only [go_sem,simprocAttr,↓qT,↓qF,df52,TRi,fullG,memF_eq H,memF_set H,setM_fun H,fullM,firstG,firstM,linksG,linksM,backG,backM,put2G,put2M,slotF,slot_eta,cap_eta,Slot.cl,c1,c3,c4,hs,d1,d2,d3,d4,put,fillP,sub,EVt]
       exact hS
      ·by_cases c6:((m.gX x).fstX.gV p).depth=65535
       ·simp only [M.rins,c1,hs,c2,c3,c4,c5,c6,Bool.false_eq_true,if_true,if_false,or_true] at hS
        simp (maxSteps:=999999) only [go_sem,simprocAttr,↓qT,↓qF,df52,TRi,fullG,memF_eq H,memF_set H,setM_fun H,fullM,firstG,firstM,linksG,linksM,backG,backM,put2G,put2M,slotF,slot_eta,cap_eta,Slot.cl,c1,c3,c4,c5,c6,hs,d1,d2,d3,d4,put,fillP,sub,EVt]
        exact hS
       ·simp only [M.rins,c1,c2,c3,c4,c5,c6,hs,Bool.false_eq_true,if_true,if_false,or_self] at hS
        simp (maxSteps:=999999) only [go_sem,simprocAttr,↓qT,↓qF,df52,TRi,fullG,memF_eq H,memF_set H,setM_fun H,fullM,firstG,firstM,linksG,linksM,backG,backM,put2G,put2M,slotF,slot_eta,cap_eta,Slot.cl,c1,c3,c4,c5,c6,hs,d1,d2,d3,d4,put,fillP,sub,EVt]
        exact hS
     ·simp only [M.rins,c1,hs,c2,c3,c4,Bool.false_eq_true,if_true,if_false] at hS
      simp (maxSteps:=999999) only [go_sem,simprocAttr,↓qT,↓qF,df52,TRi,fullG,memF_eq H,memF_set H,setM_fun H,fullM,firstG,firstM,linksG,linksM,backG,backM,put2G,put2M,slotF,slot_eta,cap_eta,Slot.cl,c1,c3,c4,hs,d1,d2,d3,d4,put,fillP,sub,EVt]
      exact hS
  ·simp only [M.rins,c1,if_false] at hS
   simp (maxSteps:=999999) only [go_sem,simprocAttr,↓qT,↓qF,df52,TRi,fullG,memF_eq H,memF_set H,setM_fun H,fullM,Slot.cl,c1,put,fillP,sub,EVt]
   exact hS
 ·exact hS.elim
end Go.Proofs.YtcdfofeolgbnbaaGreat

