/- A machine that runs the small code on what is known,up to what must be decided: by reckoning alone. -/
import Derived.Test.YtcdfofeolgbnbaaGreatZ9
/- A machine that runs the small code on what is known,up to what must be decided: by reckoning alone. -/
namespace Go.D
set_option linter.all false
variable [Tabs]

inductive Res where
 | ok (v:V) (ls h:List Blk)
 | ob (p:Prop) (r:Res)
 | br (b:Bool) (r1 r2:Res)
 | call (f:FuncId) (args:List V)
 | app (t:List V) (n:Nat) (v:Nat->V) (ls:Nat->List Blk)
 | all (n:Nat) (f:Nat->Res)
 | bad

def Res.holds (Γ:FuncId->FSpec) (t:List V) (ls h:List Blk) (K:List V->V->List Blk->List Blk->Prop):Res->Prop
 | .ok v ls h=>K t v ls h
 | .ob p r=>p/\r.holds Γ t ls h K
 | .br b r1 r2=>(b=true->r1.holds Γ t ls h K)/\(b=false->r2.holds Γ t ls h K)
 | .call f args=>callK Γ f args ls h fun v ls h=>K t v ls h
 | .app t' n v ls'=>∀ c,n<=c->K t' (v c) (ls' c) h
 | .all n f=>∀ c,n<=c->(f c).holds Γ t ls h K
 | .bad=>False

def bin1R (op:BinOp) (x y:S) (k:S->Res):Res :=
 match x,y with
 | .i q a, .i q' b =>
  match op with
  | .shl=>.ob (0<=b) (k (.i q (q.wrap (a*2^min b.toNat q.bits))))
  | .shr=>.ob (0<=b) (k (.i q (a/2^min b.toNat q.bits)))
  | .add=>if q=q' then k (.i q (q.wrap (a+b))) else .bad
  | .sub=>if q=q' then k (.i q (q.wrap (a-b))) else .bad
  | .mul=>if q=q' then k (.i q (q.wrap (a*b))) else .bad
  | .quo=>if q=q' then .ob (b≠0) (k (.i q (q.wrap (a.tdiv b)))) else .bad
  | .rem=>if q=q' then .ob (b≠0) (k (.i q (a.tmod b))) else .bad
  | .and=>if q=q' then k (.i q (bits .and q a b)) else .bad
  | .or=>if q=q' then k (.i q (bits .or q a b)) else .bad
  | .xor=>if q=q' then k (.i q (bits .xor q a b)) else .bad
  | .andNot=>if q=q' then k (.i q (bits .andNot q a b)) else .bad
  | .eql=>if q=q' then k (.b (a==b)) else .bad
  | .neq=>if q=q' then k (.b (a != b)) else .bad
  | .lss=>if q=q' then k (.b (decide (a<b))) else .bad
  | .leq=>if q=q' then k (.b (decide (a<=b))) else .bad
  | .gtr=>if q=q' then k (.b (decide (a > b))) else .bad
  | .geq=>if q=q' then k (.b (decide (a ≥ b))) else .bad
 | _,_=>.bad

def un1R (op:UnOp) (x:S) (k:S->Res):Res :=
 match op,x with
 | .not, .b a=>k (.b (!a))
 | .neg, .i q a=>k (.i q (q.wrap (0-a)))
 | .xor, .i q a=>k (.i q (bits .xor q (if q.signed then -1 else q.max) a))
 | _,_=>.bad

def slcR (ls h:List Blk) (esize:Nat) (r:R) (o len cap:Nat) (t:List V) (lo hi:Option Opd):Res :=
 match bnd 0 t lo,bnd len t hi with
 | some l,some u=>.ob (0<=l/\l<=u/\u<=cap) (.ok (.s (.sl r (if cap=l.toNat then o else o+l.toNat*esize) (u.toNat-l.toNat) (cap-l.toNat))) ls h)
 | _,_=>.bad

def pickR (q:Bool) (ls h:List Blk):V->V->Res
 | .s (.b x), .s (.b y)=>.ok (.s (.b (cond q x y))) ls h
 | .tup [], .s (.b y)=>.br q (.ok (.tup []) ls h) (.ok (.s (.b y)) ls h)
 | .s (.b x), .tup []=>.br q (.ok (.s (.b x)) ls h) (.ok (.tup []) ls h)
 | x,y=>.br q (.ok x ls h) (.ok y ls h)

def lenR:V->List Blk->List Blk->Res
 | .s (.sl _ _ n _),ls,h=>.ok (.s (.i .i64 n)) ls h
 | .s .ns,ls,h=>.ok (.s (.i .i64 0)) ls h
 | .s (.es _ _),ls,h=>.ok (.s (.i .i64 0)) ls h
 | _,_,_=>.bad

def istep (op:I) (t:List V) (ls h:List Blk):Res :=
 match op with
 | .mv x=>.ok (ev t x) ls h
 | .pick c a b=>match ev t c with
  | .s (.b q)=>pickR q ls h (ev t a) (ev t b)
  | _=>.bad
 | .new z=>.ok (.s (.p (.l ls.length) 0)) (ls++[⟨.rw,z,z.length⟩]) h
 | .box x=>.ob ((ev t x).plain=true) (.ok (.s (.p (.l ls.length) 0)) (ls++[⟨.rw,(ev t x).cells,(ev t x).cells.length⟩]) h)
 | .build z parts=>match fillP t parts z with
  | some z'=>.ok (.agg z') ls h
  | none=>.bad
 | .bsl n z parts=>match fillP t parts z with
  | some z'=>.ok (.s (.sl (.l ls.length) 0 n n)) (ls++[⟨.rw,z',z'.length⟩]) h
  | none=>.bad
 | .ld a n=>match ev t a with
  | .s (.p r o)=>match blk h ls r with
   | some B=>match n with
    | none=>match B.cells[o]? with
     | some s=>.ob (B.st≠.dead/\V.known (.s s)=true) (.ok (.s s) ls h)
     | none=>.bad
    | some n=>.ob (B.st≠.dead/\o+n<=B.cells.length/\known (sub B.cells o n)=true) (.ok (.agg (sub B.cells o n)) ls h)
   | none=>.bad
  | _=>.bad
 | .st a x n=>match ev t a with
  | .s (.p r o)=>match blk h ls r with
   | some B=>.ob (B.st=.rw/\(ev t x).plain=true/\(ev t x).cells.length=n/\o+n<=B.cells.length/\(ev t x).cells.all (r.takes h.length ls.length)=true)
     (.ok (.tup []) (setL ls r { B with cells:=put B.cells o (ev t x).cells }) (setH h r { B with cells:=put B.cells o (ev t x).cells }))
   | none=>.bad
  | _=>.bad
 | .nil x=>match ev t x with
  | .s (.p r o)=>.ok (.s (.p r o)) ls h
  | .s (.fn f cs)=>.ok (.s (.fn f cs)) ls h
  | _=>.bad
 | .bin op x y=>match ev t x,ev t y with
  | .s a, .s b=>bin1R op a b fun s=>.ok (.s s) ls h
  | _,_=>.bad
 | .eqb neg x y=>match ev t x,ev t y with
  | .s (.b a), .s (.b b)=>.ok (.s (.b (if neg then !(a==b) else a==b))) ls h
  | _,_=>.bad
 | .eqa neg ks x y=>match ev t x,ev t y with
  | .agg xs, .agg ys=>.ob (cmpS ks xs ys=true) (.ok (.s (.b (if neg then !eqS xs ys else eqS xs ys))) ls h)
  | _,_=>.bad
 | .eqn isSl neg x=>match ev t x with
  | .s a=>match isNil isSl a with
   | some q=>.ok (.s (.b (if neg then !q else q))) ls h
   | none=>.bad
  | _=>.bad
 | .un op x=>match ev t x with
  | .s a=>un1R op a fun s=>.ok (.s s) ls h
  | _=>.bad
 | .conv k x=>match ev t x with
  | .s (.i _ n)=>.ok (.s (.i k (k.wrap n))) ls h
  | _=>.bad
 | .mkf f caps=>match capsOf t caps with
  | some cs=>.ok (.s (.fn f cs)) ls h
  | none=>.bad
 | .mks esize bytes z x y=>match ev t x,ev t y with
  | .s (.i _ n), .s (.i _ c)=>.ob (0<=n/\n<=c/\c<=2^40/\bytes*c<=2^48/\z.length=esize)
    (.ok (.s (.sl (.l ls.length) 0 n.toNat c.toNat)) (ls++[⟨.rw,zeros z c.toNat,(zeros z c.toNat).length⟩]) h)
  | _,_=>.bad
 | .slc arr esize x lo hi =>
  match arr,ev t x with
  | some n, .s (.p r o)=>slcR ls h esize r o n n t lo hi
  | none, .s (.sl r o n c)=>slcR ls h esize r o n c t lo hi
  | none, .s .ns=>match bnd 0 t lo,bnd 0 t hi with
   | some l,some u=>.ob (l=0/\u=0) (.ok (.s .ns) ls h)
   | _,_=>.bad
  | _,_=>.bad
 | .fa x off=>match ev t x with
  | .s (.p r o)=>.ok (.s (.p r (o+off))) ls h
  | _=>.bad
 | .fld x off n=>match ev t x with
  | .agg xs=>match n with
   | none=>match xs[off]? with
    | some s=>.ok (.s s) ls h
    | none=>.bad
   | some n=>.ob (off+n<=xs.length) (.ok (.agg (sub xs off n)) ls h)
  | _=>.bad
 | .ia arr esize x i=>match ev t i with
  | .s (.i _ i)=>match arr,ev t x with
   | some n, .s (.p r o)=>.ob (0<=i/\i<n) (.ok (.s (.p r (o+i.toNat*esize))) ls h)
   | none, .s (.sl r o n _)=>.ob (0<=i/\i<n) (.ok (.s (.p r (o+i.toNat*esize))) ls h)
   | _,_=>.bad
  | _=>.bad
 | .ix len esize n x i=>match ev t x,ev t i with
  | .agg xs, .s (.i _ i)=>match n with
   | none=>match xs[i.toNat*esize]? with
    | some s=>.ob (0<=i/\i<len) (.ok (.s s) ls h)
    | none=>.bad
   | some n=>.ob (0<=i/\i<len/\i.toNat*esize+n<=xs.length) (.ok (.agg (sub xs (i.toNat*esize) n)) ls h)
  | _,_=>.bad
 | .ext x j=>match ev t x with
  | .tup cs=>match cs[j]? with
   | some c=>.ok c.v ls h
   | none=>.bad
  | _=>.bad
 | .call f args=>.call f (args.map (ev t))
 | .callv f args=>match ev t f with
  | .s (.fn g cs)=>.call g (args.map (ev t)++cs.map fun x=>.s (.p x.1 x.2))
  | _=>.bad
 | .len x=>lenR (ev t x) ls h
 | .app esize bytes x y=>match ev t x,ev t y with
  | .s b, .s y=>match shows ls h esize y with
   | some (n,new)=>match b with
    | .ns=>.ob (known new=true/\0<esize/\n*bytes<=2^47/\0<n/\vals h.length ls.length new=true) (.app t n (fun c=>.s (.sl (.l ls.length) 0 n c)) (fun c=>ls++[⟨.rw,new,c*esize⟩]))
    | .sl (.l k) 0 len cap=>match ls[k]? with
     | some B=>.ob (known new=true/\0<esize/\B.st=.rw/\B.cells.length=len*esize/\cap*esize<=B.room/\(len+n)*bytes<=2^47/\known B.cells=true/\vals h.length ls.length new=true)
       (.br (unnamed k ls&&new.all (fun s=>!s.names k)) (.app (t.map (V.kill k)) (len+n) (fun c=>.s (.sl (.l k) 0 (len+n) c)) (fun c=>ls.set k ⟨.rw,B.cells++new,c*esize⟩))
        (.app t (len+n) (fun c=>.s (.sl (.l ls.length) 0 (len+n) c)) (fun c=>ls.set k ⟨.dead,B.cells,B.room⟩++[⟨.rw,B.cells++new,c*esize⟩])))
     | none=>.bad
    | _=>.bad
   | none=>.bad
  | _,_=>.bad
 | .cpy esize x y=>match ev t x,ev t y with
  | .s x, .s y=>match shows ls h esize y with
   | some (n,src)=>match x with
    | .sl r o len _=>match blk h ls r with
     | some B=>.ob (B.st=.rw/\o+len*esize<=B.cells.length/\known src=true/\(sub src 0 (min n len*esize)).all (r.takes h.length ls.length)=true)
       (.ok (.s (.i .i64 (min n len:Nat))) (setL ls r { B with cells:=put B.cells o (sub src 0 (min n len*esize)) })
        (setH h r { B with cells:=put B.cells o (sub src 0 (min n len*esize)) }))
     | none=>.bad
    | .ns=>.ob (known src=true) (.ok (.s (.i .i64 0)) ls h)
    | _=>.bad
   | none=>.bad
  | _,_=>.bad
 | .mx isMax x y=>match ev t x,ev t y with
  | .s (.i k a), .s (.i _ b)=>.ok (.s (.i k (if isMax then (if b > a then b else a) else (if b<a then b else a)))) ls h
  | _,_=>.bad

theorem bin1R_sound {Γ:FuncId->FSpec} {op:BinOp} {x y:S} {k:S->Res} {t:List V} {ls h:List Blk} {K:List V->V->List Blk->List Blk->Prop} {k':S->Prop} (hk:∀ s,(k s).holds Γ t ls h K->k' s)
  (hh:(bin1R op x y k).holds Γ t ls h K):bin1 op x y k':=by
 unfold bin1R at hh
 unfold bin1
 split at hh
 ·cases op<;>simp only at hh ⊢<;>(try split at hh)<;>(try (simp only [Res.holds] at hh))<;>first
   | exact hh.elim
   | exact ⟨by assumption,hk _ hh⟩
   | exact ⟨hh.1,hk _ hh.2⟩
   | exact ⟨⟨by assumption,hh.1⟩,hk _ hh.2⟩
 ·exact hh.elim

theorem istep_sound {Γ:FuncId->FSpec} {op:I} {t:List V} {ls h:List Blk} {K:List V->V->List Blk->List Blk->Prop} (hh:(istep op t ls h).holds Γ t ls h K):iwp Γ op t ls h K:=by
 cases op<;>simp only [istep] at hh<;>simp only [iwp]
 case mv=>exact hh
 case pick =>
  split at hh
  ·rename_i q hq
   rw [hq]
   unfold pickR at hh
   split at hh<;>simp only [Res.holds] at hh
   ·rename_i e1 e2
    exact bcase_intro (fun h1=>by rw [h1] at hh; simpa [e1] using hh) (fun h1=>by rw [h1] at hh; simpa [e2] using hh)
   ·rename_i e1 e2
    exact bcase_intro (fun h1=>by have:=hh.1 h1; simpa [e1] using this) (fun h1=>by have:=hh.2 h1; simpa [e2] using this)
   ·rename_i e1 e2
    exact bcase_intro (fun h1=>by have:=hh.1 h1; simpa [e1] using this) (fun h1=>by have:=hh.2 h1; simpa [e2] using this)
   ·exact bcase_intro (fun h1=>by have:=hh.1 h1; simpa using this) (fun h1=>by have:=hh.2 h1; simpa using this)
  ·exact hh.elim
 case new=>exact hh
 case box x=>exact hh
 case build=>split at hh<;>simp_all [Res.holds]
 case bsl=>split at hh<;>simp_all [Res.holds]
 case ld a n =>
  split at hh
  ·rename_i r o hq
   rw [hq]
   simp only
   split at hh
   ·rename_i B hB
    rw [hB]
    simp only
    cases n with
    | none =>
     simp only at hh ⊢
     split at hh
     ·rename_i s hs
      rw [hs]
      exact hh
     ·exact hh.elim
    | some n=>exact hh
   ·exact hh.elim
  ·exact hh.elim
 case st a x n =>
  split at hh
  ·rename_i r o hq
   rw [hq]
   simp only
   split at hh
   ·rename_i B hB
    rw [hB]
    simp only
    exact hh
   ·exact hh.elim
  ·exact hh.elim
 case nil=>split at hh<;>simp_all [Res.holds]
 case bin op x y =>
  split at hh
  ·rename_i a b ha hb
   rw [ha,hb]
   simp only
   exact bin1R_sound (Γ:=Γ) (t:=t) (ls:=ls) (h:=h) (K:=K) (k':=fun s=>K t (.s s) ls h) (fun s hs=>by simpa only [Res.holds] using hs) hh
  ·exact hh.elim
 case eqb=>split at hh<;>simp_all [Res.holds]
 case eqa neg ks x y =>
  split at hh
  ·rename_i xs ys hx hy
   rw [hx,hy]
   simp only
   exact hh
  ·exact hh.elim
 case eqn =>
  split at hh
  ·rename_i a ha
   rw [ha]
   simp only
   split at hh
   ·rename_i q hq; rw [hq]; exact hh
   ·exact hh.elim
  ·exact hh.elim
 case un =>
  split at hh
  ·rename_i a ha
   rw [ha]
   simp only
   unfold un1R at hh
   unfold un1
   split at hh<;>first|exact hh|exact hh.elim
  ·exact hh.elim
 case conv=>split at hh<;>simp_all [Res.holds]
 case mkf=>split at hh<;>simp_all [Res.holds]
 case mks esize bytes z x y =>
  split at hh
  ·rename_i k1 n k2 c hx hy
   rw [hx,hy]
   simp only
   exact hh
  ·exact hh.elim
 case slc arr esize x lo hi =>
  split at hh
  ·rename_i n r o hq
   rw [hq]
   simp only
   unfold slcR at hh
   split at hh
   ·rename_i l u hl hu; rw [hl,hu]; exact hh
   ·exact hh.elim
  ·rename_i r o n c hq
   rw [hq]
   simp only
   unfold slcR at hh
   split at hh
   ·rename_i l u hl hu; rw [hl,hu]; exact hh
   ·exact hh.elim
  ·rename_i hq
   rw [hq]
   simp only
   split at hh
   ·rename_i l u hl hu; rw [hl,hu]; exact hh
   ·exact hh.elim
  ·exact hh.elim
 case fa=>split at hh<;>simp_all [Res.holds]
 case fld x off n =>
  split at hh
  ·rename_i xs hx
   rw [hx]
   simp only
   cases n with
   | none =>
    simp only at hh ⊢
    split at hh
    ·rename_i s hs; rw [hs]; exact hh
    ·exact hh.elim
   | some n =>
    simp only at hh ⊢
    exact hh
  ·exact hh.elim
 case ia arr esize x i =>
  split at hh
  ·rename_i k iv hi
   rw [hi]
   simp only
   split at hh
   ·rename_i n r o hx; rw [hx]; exact hh
   ·rename_i r o n c hx; rw [hx]; exact hh
   ·exact hh.elim
  ·exact hh.elim
 case ix len esize n x i =>
  split at hh
  ·rename_i xs k iv hx hi
   rw [hx,hi]
   simp only
   cases n with
   | none =>
    simp only at hh ⊢
    split at hh
    ·rename_i s hs; rw [hs]; exact hh
    ·exact hh.elim
   | some n =>
    simp only at hh ⊢
    obtain ⟨⟨h1,h2,h3⟩,hh⟩:=hh
    exact ⟨⟨h1,h2⟩,h3,hh⟩
  ·exact hh.elim
 case ext x j =>
  split at hh
  ·rename_i cs hx
   rw [hx]
   simp only
   split at hh
   ·rename_i c hc; rw [hc]; exact hh
   ·exact hh.elim
  ·exact hh.elim
 case call=>exact hh
 case callv =>
  split at hh
  ·rename_i g cs hf; rw [hf]; exact hh
  ·exact hh.elim
 case len=>unfold lenR at hh; split at hh<;>simp_all [Res.holds]
 case app esize bytes x y =>
  split at hh
  ·rename_i b y' hx hy
   rw [hx,hy]
   simp only
   split at hh
   ·rename_i n new hsh
    rw [hsh]
    simp only
    split at hh
    ·simp only
     obtain ⟨⟨h1,h2,h3,h4,h5⟩,hh⟩:=hh
     exact ⟨⟨h1,h2⟩,⟨h3,h4,h5⟩,hh⟩
    ·rename_i k len cap
     simp only
     split at hh
     ·rename_i B hB
      rw [hB]
      obtain ⟨⟨h1,h2,h3⟩,hh⟩:=hh
      refine ⟨⟨h1,h2⟩,h3, ?_⟩
      refine bcase_intro (fun e=>?_) (fun e=>?_)
      ·rw [if_pos rfl]; exact (hh.1 e)
      ·rw [if_neg (by simp)]; exact (hh.2 e)
     ·exact hh.elim
    ·exact hh.elim
   ·exact hh.elim
  ·exact hh.elim
 case cpy esize x y =>
  split at hh
  ·rename_i x' y' hx hy
   rw [hx,hy]
   simp only
   split at hh
   ·rename_i n src hsh
    rw [hsh]
    simp only
    split at hh
    ·rename_i r o len c
     simp only
     split at hh
     ·rename_i B hB; rw [hB]; exact hh
     ·exact hh.elim
    ·exact hh
    ·exact hh.elim
   ·exact hh.elim
  ·exact hh.elim
 case mx=>split at hh<;>simp_all [Res.holds]

/-! ### the machine -/
inductive Fr where
 | c (d:DC)
 | gi (l:List GI)
 | qgi (l:List GI)
 | blk (id:Nat)
 | lp (X:St->Prop)
 | je
 | xc (x:XC)

def popTo (id:Nat):List Fr->Option (List Fr)
 | []=>none
 | .blk j::fs=>if j=id then some fs else popTo id fs
 | .c _::fs=>popTo id fs
 | .gi _::fs=>popTo id fs
 | .qgi _::fs=>popTo id fs
 | .lp _::fs=>popTo id fs
 | .je::fs=>popTo id fs
 | .xc _::fs=>popTo id fs

mutual
def swp (Γ:FuncId->FSpec) (n0:Nat) (K:Ex->St->Prop):List Fr->St->Prop
 | [],s=>K .nrm s
 | .c d::fs,s=>∃ s',Wk n0 s s'/\dwp Γ n0 d s' fun e s=>match e with
  | .nrm=>swp Γ n0 K fs s
  | .ext id=>swx Γ n0 K fs id s
  | .ret=>K .ret s
 | .gi l::fs,s=>rwp Γ l s.t s.ls s.h fun t ls h=>swp Γ n0 K fs ⟨t,ls,h⟩
 | .qgi l::fs,s=>rqwp Γ l s.t s.ls s.h fun t=>swp Γ n0 K fs ⟨t,s.ls,s.h⟩
 | .blk _::fs,s=>swp Γ n0 K fs s
 | .lp X::_,s=>X s
 | .je::fs,s=>swp Γ n0 K fs s
 | .xc x::fs,s=>xwp Γ x s.t s.ls s.h fun t ls h=>swp Γ n0 K fs ⟨t,ls,h⟩
def swx (Γ:FuncId->FSpec) (n0:Nat) (K:Ex->St->Prop):List Fr->Nat->St->Prop
 | [],id,s=>K (.ext id) s
 | .blk j::fs,id,s=>if j=id then swp Γ n0 K fs s else swx Γ n0 K fs id s
 | .c _::fs,id,s=>swx Γ n0 K fs id s
 | .gi _::fs,id,s=>swx Γ n0 K fs id s
 | .qgi _::fs,id,s=>swx Γ n0 K fs id s
 | .lp _::fs,id,s=>swx Γ n0 K fs id s
 | .je::fs,id,s=>swx Γ n0 K fs id s
 | .xc _::fs,id,s=>swx Γ n0 K fs id s
end

inductive Stop where
 | done (e:Ex) (t:List V) (ls h:List Blk)
 | res (r:Res) (dst:Option Nat) (fs:List Fr) (t:List V) (ls h:List Blk)
 | loop (c:DC) (fs:List Fr) (t:List V) (ls h:List Blk)
 | lp (X:St->Prop) (t:List V) (ls h:List Blk)
 | leaf (fs:List Fr) (t:List V) (ls h:List Blk)
 | all (n:Nat) (f:Nat->Stop)
 | more (fs:List Fr) (t:List V) (ls h:List Blk)
 | bad

open Classical in
noncomputable def obS (p:Prop) (s:Stop):Stop:=if p then s else .bad

def resume (k:List Fr->List V->List Blk->List Blk->Stop):Stop->Stop
 | .leaf fs t ls h=>k fs t ls h
 | .all n f=>.all n fun c=>resume k (f c)
 | s=>s

def holds (Γ:FuncId->FSpec) (n0:Nat) (K:Ex->St->Prop):Stop->Prop
 | .done e t ls h=>K e ⟨t,ls,h⟩
 | .res r dst fs t ls h=>r.holds Γ t ls h fun t v ls h=>swp Γ n0 K fs ⟨putD t dst v,ls,h⟩
 | .loop c fs t ls h=>swp Γ n0 K (.c (.loop c)::fs) ⟨t,ls,h⟩
 | .lp X t ls h=>X ⟨t,ls,h⟩
 | .leaf fs t ls h=>swp Γ n0 K fs ⟨t,ls,h⟩
 | .all n f=>∀ c,n<=c->holds Γ n0 K (f c)
 | .more fs t ls h=>swp Γ n0 K fs ⟨t,ls,h⟩
 | .bad=>False

theorem holds_obS {Γ:FuncId->FSpec} {n0:Nat} {K:Ex->St->Prop} {p:Prop} {s:Stop}:holds Γ n0 K (obS p s)=(p/\holds Γ n0 K s):=by
 unfold obS
 by_cases h:p
 ·simp [h]
 ·simp [h,holds]

theorem holds_resume {Γ:FuncId->FSpec} {n0:Nat} {K:Ex->St->Prop} {k:List Fr->List V->List Blk->List Blk->Stop} (hk:∀ fs t ls h,holds Γ n0 K (k fs t ls h)->swp Γ n0 K fs ⟨t,ls,h⟩) :
  ∀ s:Stop,holds Γ n0 K (resume k s)->holds Γ n0 K s
 | .leaf fs t ls h,hh=>hk fs t ls h hh
 | .all n f,hh=>fun c hc=>holds_resume hk (f c) (hh c hc)
 | .done ..,hh=>hh
 | .res ..,hh=>hh
 | .loop ..,hh=>hh
 | .lp ..,hh=>hh
 | .more ..,hh=>hh
 | .bad,hh=>hh

def Res.spec (K:V->List Blk->Prop):Res->Prop
 | .ok v _ h=>K v h
 | .ob p r=>p/\r.spec K
 | .br b r1 r2=>(b=true->r1.spec K)/\(b=false->r2.spec K)
 | .all n f=>∀ c,n<=c->(f c).spec K
 | _=>False

def FSpec.of (g:List V->List Blk->Res):FSpec:=fun args h K=>(g args h).spec K

abbrev Tab:=FuncId->List V->List Blk->Option Res
def Tab.ok (G:Tab) (Γ:FuncId->FSpec):Prop:=∀ f args h r,G f args h=some r->∀ K,r.spec K->Γ f args h K

def Res.into (ls:List Blk):Res->Res
 | .ok v _ h=>.ok v ls h
 | .ob p r=>.ob p (r.into ls)
 | .br b r1 r2=>.br b (r1.into ls) (r2.into ls)
 | .all n f=>.all n fun c=>(f c).into ls
 | _=>.bad
def Res.unlend (n m:Nat):Res->Res
 | .ok v _ h'=>.ob (n+m<=h'.length/\clean n (h'.take n)=true) (.ok (v.ren (R.unlend n)) ((h'.drop n).map (Blk.ren (R.unlend n))) (h'.take n))
 | .ob p r=>.ob p (r.unlend n m)
 | .br b r1 r2=>.br b (r1.unlend n m) (r2.unlend n m)
 | .all e f=>.all e fun c=>(f c).unlend n m
 | _=>.bad

def callR (G:Tab) (f:FuncId) (args:List V) (ls h:List Blk):Bool->Res
 | true=>match G f args h with
  | some r=>.ob (args.all V.known=true) (r.into ls)
  | none=>.call f args
 | false=>match G f (args.map (V.ren (R.lend h.length))) (h++ls.map (Blk.ren (R.lend h.length))) with
  | some r=>.ob (args.all V.known=true) (r.unlend h.length ls.length)
  | none=>.call f args

noncomputable def Res.go (k:V->List Blk->List Blk->Stop) (ka:List V->V->List Blk->Stop) (z:Res->Stop):Res->Stop
 | .ok v ls h=>k v ls h
 | .ob p r=>obS p (r.go k ka z)
 | .br q r1 r2=>cond q (r1.go k ka z) (r2.go k ka z)
 | .app t n v ls=>.all n fun c=>ka t (v c) (ls c)
 | .all n f=>.all n fun c=>(f c).go k ka z
 | .call f args=>z (.call f args)
 | .bad=>.bad

noncomputable def Res.goQ (h:List Blk) (k:V->Stop):Res->Stop
 | .ok v _ h'=>obS (h'=h/\v.val 0 0=true) (k v)
 | .ob p r=>obS p (r.goQ h k)
 | .br q r1 r2=>cond q (r1.goQ h k) (r2.goQ h k)
 | _=>.bad

noncomputable def stepR (G:Tab) (dst:Option Nat) (fs:List Fr) (t:List V) (ls h:List Blk) (k:V->List Blk->List Blk->Stop) (ka:List V->V->List Blk->Stop) (r:Res):Stop :=
 match r with
 | .call f args=>(callR G f args ls h (args.all V.noL)).go k ka (fun r=>.res r dst fs t ls h)
 | r=>r.go k ka (fun r=>.res r dst fs t ls h)

noncomputable def stepQ (G:Tab) (op:I) (h:List Blk) (k:V->Stop) (r:Res):Stop :=
 match r with
 | .call f args=>match op with
  | .call _ _=>match G f args h with
   | some r=>obS (args.all V.known=true/\args.all V.noL=true) (r.goQ h k)
   | none=>.bad
  | .callv _ _=>match G f args h with
   | some r=>obS (args.all V.known=true/\args.all V.noL=true) (r.goQ h k)
   | none=>.bad
  | _=>.bad
 | r=>r.go (fun v _ _=>k v) (fun _ v _=>k v) fun _=>.bad

def frames:List (Bool×GI)->List Fr->List Fr
 | [],fs=>fs
 | (true,x)::l,fs=>.qgi [x]::frames l fs
 | (false,x)::l,fs=>.gi [x]::frames l fs

theorem swp_frames {Γ:FuncId->FSpec} {n0:Nat} {K:Ex->St->Prop} {fs:List Fr}:∀ (l:List (Bool×GI)) (t:List V) (ls h:List Blk),swp Γ n0 K (frames l fs) ⟨t,ls,h⟩=mwp Γ l t ls h fun t ls h=>swp Γ n0 K fs ⟨t,ls,h⟩
 | [],t,ls,h=>by simp only [frames,mwp]
 | (true,x)::l,t,ls,h=>by simp only [frames,swp,rqwp,mwp,swp_frames l]
 | (false,x)::l,t,ls,h=>by simp only [frames,swp,rwp,mwp,swp_frames l]

noncomputable def run (G:Tab):Nat->List Fr->List V->List Blk->List Blk->Stop
 | 0,fs,t,ls,h=>.more fs t ls h
 | _+1,[],t,ls,h=>.done .nrm t ls h
 | n+1, .blk _::fs,t,ls,h=>run G n fs t ls h
 | _+1, .lp X::_,t,ls,h=>.lp X t ls h
 | n+1, .gi []::fs,t,ls,h=>run G n fs t ls h
 | n+1, .gi (⟨dst,op,none⟩::l)::fs,t,ls,h =>
  stepR G dst (.gi l::fs) t ls h (fun v ls h=>run G n (.gi l::fs) (putD t dst v) ls h) (fun t v ls=>run G n (.gi l::fs) (putD t dst v) ls h) (istep op t ls h)
 | n+1, .gi (⟨dst,op,some (j,want)⟩::l)::fs,t,ls,h=>match t.getD j (.tup []) with
  | .s (.b q)=>cond q
   (cond want (run G n (.gi (⟨dst,op,none⟩::l)::fs) (t.set j (.s (.b true))) ls h) (run G n (.gi l::fs) (putD (t.set j (.s (.b true))) dst (.tup [])) ls h))
   (cond want (run G n (.gi l::fs) (putD (t.set j (.s (.b false))) dst (.tup [])) ls h) (run G n (.gi (⟨dst,op,none⟩::l)::fs) (t.set j (.s (.b false))) ls h))
  | .tup []=>run G n (.gi l::fs) (putD t dst (.tup [])) ls h
  | _=>.bad
 | n+1, .qgi []::fs,t,ls,h=>run G n fs t ls h
 | n+1, .qgi (⟨dst,op,none⟩::l)::fs,t,ls,h =>
  stepQ G op h (fun v=>run G n (.qgi l::fs) (putD t dst v) ls h) (istep op t ls h)
 | n+1, .qgi (⟨dst,op,some (j,want)⟩::l)::fs,t,ls,h=>match t.getD j (.tup []) with
  | .s (.b q)=>cond q
   (cond want (run G n (.qgi (⟨dst,op,none⟩::l)::fs) (t.set j (.s (.b true))) ls h) (run G n (.qgi l::fs) (putD (t.set j (.s (.b true))) dst (.tup [])) ls h))
   (cond want (run G n (.qgi l::fs) (putD (t.set j (.s (.b false))) dst (.tup [])) ls h) (run G n (.qgi (⟨dst,op,none⟩::l)::fs) (t.set j (.s (.b false))) ls h))
  | .tup []=>run G n (.qgi l::fs) (putD t dst (.tup [])) ls h
  | _=>.bad
 | n+1, .c .skip::fs,t,ls,h=>run G n fs t ls h
 | _+1, .je::fs,t,ls,h=>.leaf fs t ls h
 | n+1, .c (.reg l)::fs,t,ls,h=>resume (fun fs t ls h=>run G n fs t ls h) (run G n (.gi l::.je::fs) t ls h)
 | n+1, .c (.drt _ l)::fs,t,ls,h=>resume (fun fs t ls h=>run G n fs t ls h) (run G n (.gi l::.je::fs) t ls h)
 | n+1, .c (.drm l)::fs,t,ls,h=>resume (fun fs t ls h=>run G n fs t ls h) (run G n (frames l (.je::fs)) t ls h)
 | n+1, .c (.drx x)::fs,t,ls,h=>resume (fun fs t ls h=>run G n fs t ls h) (run G n (.xc x::.je::fs) t ls h)
 | n+1, .xc .done::fs,t,ls,h=>run G n fs t ls h
 | n+1, .xc (.tk true x r)::fs,t,ls,h=>run G n (.qgi [x]::.xc r::fs) t ls h
 | n+1, .xc (.tk false x r)::fs,t,ls,h=>run G n (.gi [x]::.xc r::fs) t ls h
 | n+1, .xc (.both a b)::fs,t,ls,h=>.all 0 fun c=>cond (c==0) (run G n (.xc a::fs) t ls h) (run G n (.xc b::fs) t ls h)
 | n+1, .c (.drq l)::fs,t,ls,h=>resume (fun fs t ls h=>run G n fs t ls h) (run G n (.qgi l::.je::fs) t ls h)
 | n+1, .c (.seq a b)::fs,t,ls,h=>run G n (.c a::.c b::fs) t ls h
 | n+1, .c (.cond x a b)::fs,t,ls,h=>match ev t x with
  | .s (.b q)=>cond q (run G n (.c a::fs) t ls h) (run G n (.c b::fs) t ls h)
  | _=>.bad
 | n+1, .c (.block id c)::fs,t,ls,h=>run G n (.c c::.blk id::fs) t ls h
 | _+1, .c (.loop c)::fs,t,ls,h=>.loop c fs t ls h
 | n+1, .c (.exit id)::fs,t,ls,h=>match popTo id fs with
  | some fs=>run G n fs t ls h
  | none=>.bad
 | _+1, .c .ret::_,t,ls,h=>.done .ret t ls h
 | _+1, .c (.rf g ps a b)::fs,t,ls,h=>.more (.c (.rf g ps a b)::fs) t ls h

theorem holds_cond {Γ:FuncId->FSpec} {n0:Nat} {K:Ex->St->Prop} {q:Bool} {a b:Stop} (hh:holds Γ n0 K (cond q a b)):(q=true->holds Γ n0 K a)/\(q=false->holds Γ n0 K b):=by
 cases q
 ·exact ⟨fun e=>Bool.noConfusion e,fun _=>hh⟩
 ·exact ⟨fun _=>hh,fun e=>Bool.noConfusion e⟩

theorem cond_holds {Γ:FuncId->FSpec} {n0:Nat} {K:Ex->St->Prop} {q:Bool} {a b:Stop} (h1:q=true->holds Γ n0 K a) (h2:q=false->holds Γ n0 K b):holds Γ n0 K (cond q a b):=by
 cases q
 ·exact h2 rfl
 ·exact h1 rfl

theorem swx_pop {Γ:FuncId->FSpec} {n0:Nat} {K:Ex->St->Prop} {id:Nat} {s:St}:∀ {fs fs':List Fr},popTo id fs=some fs'->swx Γ n0 K fs id s=swp Γ n0 K fs' s
 | [],_,h=>by simp [popTo] at h
 | .blk j::fs,fs',h=>by
  simp only [popTo] at h
  simp only [swx]
  split at h
  ·rename_i e; rw [if_pos e]; cases h; rfl
  ·rename_i e; rw [if_neg e]; exact swx_pop h
 | .c _::fs,fs',h=>by simp only [popTo] at h; simp only [swx]; exact swx_pop h
 | .gi _::fs,fs',h=>by simp only [popTo] at h; simp only [swx]; exact swx_pop h
 | .qgi _::fs,fs',h=>by simp only [popTo] at h; simp only [swx]; exact swx_pop h
 | .lp _::fs,fs',h=>by simp only [popTo] at h; simp only [swx]; exact swx_pop h
 | .je::fs,fs',h=>by simp only [popTo] at h; simp only [swx]; exact swx_pop h
 | .xc _::fs,fs',h=>by simp only [popTo] at h; simp only [swx]; exact swx_pop h

theorem qwp_iwp {Γ:FuncId->FSpec} {op:I} {t:List V} {ls h:List Blk} {K:V->Prop} (hc:∀ f args,op≠.call f args) (hv:∀ f args,op≠.callv f args) (hh:iwp Γ op t ls h fun _ v _ _=>K v):qwp Γ op t ls h K:=by
 cases op<;>first|exact hh|exact absurd rfl (hc _ _)|exact absurd rfl (hv _ _)

theorem ok_not_call {op:I} {t:List V} {ls h:List Blk} (e:∀ f args,istep op t ls h≠.call f args):∀ g as,op≠.call g as:=by
 intro g as he
 subst he
 exact e g (as.map (ev t)) rfl
theorem ok_not_callv {op:I} {t:List V} {ls h:List Blk} (e:∀ f args,istep op t ls h≠.call f args) (hb:istep op t ls h≠.bad):∀ g as,op≠.callv g as:=by
 intro g as he
 subst he
 cases hx:istep (.callv g as) t ls h with
 | call f args=>exact e _ _ hx
 | bad=>exact hb hx
 | _=>simp only [istep] at hx; split at hx<;>cases hx

theorem go_sound {Γ:FuncId->FSpec} {n0:Nat} {K:Ex->St->Prop} {fs:List Fr} {dst:Option Nat} {t:List V} {ls h:List Blk} {k:V->List Blk->List Blk->Stop} {ka:List V->V->List Blk->Stop} {z:Res->Stop}
  (hk:∀ v ls' h',holds Γ n0 K (k v ls' h')->swp Γ n0 K fs ⟨putD t dst v,ls',h'⟩) (hka:∀ t v ls',holds Γ n0 K (ka t v ls')->swp Γ n0 K fs ⟨putD t dst v,ls',h⟩)
  (hz:∀ f args,holds Γ n0 K (z (.call f args))->(Res.call f args).holds Γ t ls h fun t v ls h=>swp Γ n0 K fs ⟨putD t dst v,ls,h⟩) :
  ∀ r:Res,holds Γ n0 K (r.go k ka z)->r.holds Γ t ls h fun t v ls h=>swp Γ n0 K fs ⟨putD t dst v,ls,h⟩
 | .ok v ls' h',hh=>hk v ls' h' hh
 | .ob p r,hh=>by
  simp only [Res.go,holds_obS] at hh
  exact ⟨hh.1,go_sound hk hka hz r hh.2⟩
 | .br q r1 r2,hh=>⟨fun e=>go_sound hk hka hz r1 ((holds_cond hh).1 e),fun e=>go_sound hk hka hz r2 ((holds_cond hh).2 e)⟩
 | .app t' n v ls',hh=>fun c hc=>hka _ _ _ (hh c hc)
 | .all n f,hh=>fun c hc=>go_sound hk hka hz (f c) (hh c hc)
 | .call f args,hh=>hz f args hh
 | .bad,hh=>hh.elim

theorem into_spec {Γ:FuncId->FSpec} {t:List V} {ls h:List Blk} {K:List V->V->List Blk->List Blk->Prop}:∀ r:Res,(r.into ls).holds Γ t ls h K->r.spec fun v h'=>K t v ls h'
 | .ok _ _ _,hh=>hh
 | .ob _ r,hh=>⟨hh.1,into_spec r hh.2⟩
 | .br _ r1 r2,hh=>⟨fun e=>into_spec r1 (hh.1 e),fun e=>into_spec r2 (hh.2 e)⟩
 | .all _ f,hh=>fun c hc=>into_spec (f c) (hh c hc)
 | .app ..,hh=>hh.elim
 | .call ..,hh=>hh.elim
 | .bad,hh=>hh.elim

theorem unlend_spec {Γ:FuncId->FSpec} {t:List V} {ls h:List Blk} {n m:Nat} {K:List V->V->List Blk->List Blk->Prop}:∀ r:Res,(r.unlend n m).holds Γ t ls h K ->
  r.spec fun v h'=>ob (n+m<=h'.length/\clean n (h'.take n)=true) (K t (v.ren (R.unlend n)) ((h'.drop n).map (Blk.ren (R.unlend n))) (h'.take n))
 | .ok _ _ _,hh=>hh
 | .ob _ r,hh=>⟨hh.1,unlend_spec r hh.2⟩
 | .br _ r1 r2,hh=>⟨fun e=>unlend_spec r1 (hh.1 e),fun e=>unlend_spec r2 (hh.2 e)⟩
 | .all _ f,hh=>fun c hc=>unlend_spec (f c) (hh c hc)
 | .app ..,hh=>hh.elim
 | .call ..,hh=>hh.elim
 | .bad,hh=>hh.elim

theorem callR_sound {Γ:FuncId->FSpec} {G:Tab} (hG:G.ok Γ) {f:FuncId} {args:List V} {t:List V} {ls h:List Blk} {K:List V->V->List Blk->List Blk->Prop}
  (hh:(callR G f args ls h (args.all V.noL)).holds Γ t ls h K):callK Γ f args ls h fun v ls h=>K t v ls h:=by
 cases hn:args.all V.noL<;>rw [hn] at hh
 ·simp only [callR] at hh
  split at hh
  ·rename_i r hr
   refine ⟨hh.1, ?_⟩
   rw [hn]
   simp only [bcase,Bool.false_eq_true,if_false]
   exact hG _ _ _ _ hr _ (unlend_spec r hh.2)
  ·exact hh
 ·simp only [callR] at hh
  split at hh
  ·rename_i r hr
   refine ⟨hh.1, ?_⟩
   rw [hn]
   simp only [bcase,if_true]
   exact hG _ _ _ _ hr _ (into_spec r hh.2)
  ·exact hh

theorem stepR_sound {Γ:FuncId->FSpec} {G:Tab} (hG:G.ok Γ) {n0:Nat} {K:Ex->St->Prop} {fs:List Fr} {dst:Option Nat} {op:I} {t:List V} {ls h:List Blk} {k:V->List Blk->List Blk->Stop} {ka:List V->V->List Blk->Stop}
  (hk:∀ v ls' h',holds Γ n0 K (k v ls' h')->swp Γ n0 K fs ⟨putD t dst v,ls',h'⟩) (hka:∀ t v ls',holds Γ n0 K (ka t v ls')->swp Γ n0 K fs ⟨putD t dst v,ls',h⟩)
  (hh:holds Γ n0 K (stepR G dst fs t ls h k ka (istep op t ls h))):iwp Γ op t ls h fun t v ls h=>swp Γ n0 K fs ⟨putD t dst v,ls,h⟩:=by
 refine istep_sound ?_
 unfold stepR at hh
 split at hh
 ·rename_i f args e
  rw [e]
  exact callR_sound (t:=t) (K:=fun t v ls h=>swp Γ n0 K fs ⟨putD t dst v,ls,h⟩) hG (go_sound hk hka (fun f args hz=>by simpa only [holds] using hz) _ hh)
 ·exact go_sound hk hka (fun f args hz=>by simpa only [holds] using hz) _ hh

theorem goQ_sound {Γ:FuncId->FSpec} {n0:Nat} {K:Ex->St->Prop} {h:List Blk} {k:V->Stop} {Q:V->Prop} (hk:∀ v,holds Γ n0 K (k v)->Q v) :
  ∀ r:Res,holds Γ n0 K (r.goQ h k)->∃ v:V,v.val 0 0=true/\r.spec (fun v' h'=>v'=v/\h'=h)/\Q v
 | .ok v _ h',hh=>by
  simp only [Res.goQ,holds_obS] at hh
  exact ⟨v,hh.1.2,⟨rfl,hh.1.1⟩,hk v hh.2⟩
 | .ob p r,hh=>by
  simp only [Res.goQ,holds_obS] at hh
  obtain ⟨v,h1,h2,h3⟩:=goQ_sound hk r hh.2
  exact ⟨v,h1,⟨hh.1,h2⟩,h3⟩
 | .br q r1 r2,hh=>by
  have hc:=holds_cond hh
  cases q
  ·obtain ⟨v,h1,h2,h3⟩:=goQ_sound hk r2 (hc.2 rfl)
   exact ⟨v,h1,⟨fun e=>Bool.noConfusion e,fun _=>h2⟩,h3⟩
  ·obtain ⟨v,h1,h2,h3⟩:=goQ_sound hk r1 (hc.1 rfl)
   exact ⟨v,h1,⟨fun _=>h2,fun e=>Bool.noConfusion e⟩,h3⟩
 | .all ..,hh=>hh.elim
 | .app ..,hh=>hh.elim
 | .call ..,hh=>hh.elim
 | .bad,hh=>hh.elim

theorem goQ_iwp {Γ:FuncId->FSpec} {n0:Nat} {K:Ex->St->Prop} {t:List V} {ls h:List Blk} {k:V->Stop} {Q:V->Prop} (hk:∀ v,holds Γ n0 K (k v)->Q v) :
  ∀ r:Res,holds Γ n0 K (r.go (fun v _ _=>k v) (fun _ v _=>k v) fun _=>.bad)->r.holds Γ t ls h fun _ v _ _=>Q v
 | .ok v ls' h',hh=>hk v hh
 | .ob p r,hh=>by
  simp only [Res.go,holds_obS] at hh
  exact ⟨hh.1,goQ_iwp hk r hh.2⟩
 | .br q r1 r2,hh=>⟨fun e=>goQ_iwp hk r1 ((holds_cond hh).1 e),fun e=>goQ_iwp hk r2 ((holds_cond hh).2 e)⟩
 | .app t' n v ls',hh=>fun c hc=>hk _ (hh c hc)
 | .all n f,hh=>fun c hc=>goQ_iwp hk (f c) (hh c hc)
 | .call f args,hh=>hh.elim
 | .bad,hh=>hh.elim

theorem stepQ_sound {Γ:FuncId->FSpec} {G:Tab} (hG:G.ok Γ) {n0:Nat} {K:Ex->St->Prop} {op:I} {t:List V} {ls h:List Blk} {k:V->Stop} {Q:V->Prop} (hk:∀ v,holds Γ n0 K (k v)->Q v)
  (hh:holds Γ n0 K (stepQ G op h k (istep op t ls h))):qwp Γ op t ls h Q:=by
 unfold stepQ at hh
 split at hh
 ·rename_i f args e
  split at hh
  ·rename_i f' as
   simp only [istep,Res.call.injEq] at e
   obtain ⟨rfl,rfl⟩:=e
   split at hh
   ·rename_i r hr
    rw [holds_obS] at hh
    obtain ⟨v,h1,h2,h3⟩:=goQ_sound hk r hh.2
    exact ⟨hh.1,v,h1,hG _ _ _ _ hr _ h2,h3⟩
   ·exact hh.elim
  ·rename_i f' as
   simp only [istep] at e
   simp only [qwp]
   split at e
   ·rename_i g cs hev
    simp only [Res.call.injEq] at e
    obtain ⟨rfl,rfl⟩:=e
    rw [hev]
    simp only
    split at hh
    ·rename_i r hr
     rw [holds_obS] at hh
     obtain ⟨v,h1,h2,h3⟩:=goQ_sound hk r hh.2
     exact ⟨hh.1,v,h1,hG _ _ _ _ hr _ h2,h3⟩
    ·exact hh.elim
   ·cases e
  ·exact hh.elim
 ·rename_i hno
  exact qwp_iwp (ok_not_call fun f args e=>hno f args e) (ok_not_callv (fun f args e=>hno f args e) (fun e=>by rw [e] at hh; exact hh.elim)) (istep_sound (goQ_iwp hk _ hh))

theorem run_sound {Γ:FuncId->FSpec} {G:Tab} (hG:G.ok Γ) {n0:Nat} {K:Ex->St->Prop}:∀ (n:Nat) (fs:List Fr) (t:List V) (ls h:List Blk),holds Γ n0 K (run G n fs t ls h)->swp Γ n0 K fs ⟨t,ls,h⟩:=by
 intro n
 induction n with
 | zero=>intro fs t ls h hh; simpa only [run,holds] using hh
 | succ n ih =>
  intro fs t ls h hh
  match fs with
  | []=>simpa only [run,holds,swp] using hh
  | .blk _::fs=>simp only [run] at hh; simp only [swp]; exact ih _ _ _ _ hh
  | .lp X::fs=>simpa only [run,holds,swp] using hh
  | .je::fs=>simpa only [run,holds,swp] using hh
  | .gi []::fs=>simp only [run] at hh; simp only [swp,rwp]; exact ih _ _ _ _ hh
  | .gi (⟨dst,op,none⟩::l)::fs =>
   simp only [run] at hh
   have:=stepR_sound hG (fun v ls' h' hq=>ih _ _ _ _ hq) (fun t v ls' hq=>ih _ _ _ _ hq) hh
   simpa only [swp,rwp,gwp] using this
  | .gi (⟨dst,op,some (j,want)⟩::l)::fs =>
   simp only [run] at hh
   simp only [swp,rwp,gwp]
   split at hh
   ·rename_i q hq
    simp only [hq]
    have hc:=holds_cond hh
    refine bcase_intro (fun e=>?_) (fun e=>?_)
    ·have h1:=hc.1 e
     cases want with
     | true =>
      have:=ih _ _ _ _ h1
      simpa [swp,rwp,gwp] using this
     | false =>
      have:=ih _ _ _ _ h1
      simpa [swp,rwp,gwp] using this
    ·have h1:=hc.2 e
     cases want with
     | true =>
      have:=ih _ _ _ _ h1
      simpa [swp,rwp,gwp] using this
     | false =>
      have:=ih _ _ _ _ h1
      simpa [swp,rwp,gwp] using this
   ·rename_i hq
    simp only [hq]
    have:=ih _ _ _ _ hh
    simpa only [swp] using this
   ·exact hh.elim
  | .qgi []::fs=>simp only [run] at hh; simp only [swp,rqwp]; exact ih _ _ _ _ hh
  | .qgi (⟨dst,op,none⟩::l)::fs =>
   simp only [run] at hh
   have:=stepQ_sound (Q:=fun v=>swp Γ n0 K (.qgi l::fs) ⟨putD t dst v,ls,h⟩) hG (fun v hq=>ih _ _ _ _ hq) hh
   simpa only [swp,rqwp,gqwp] using this
  | .qgi (⟨dst,op,some (j,want)⟩::l)::fs =>
   simp only [run] at hh
   simp only [swp,rqwp,gqwp]
   split at hh
   ·rename_i q hq
    simp only [hq]
    have hc:=holds_cond hh
    refine bcase_intro (fun e=>?_) (fun e=>?_)
    ·have h1:=hc.1 e
     cases want with
     | true =>
      have:=ih _ _ _ _ h1
      simpa [swp,rqwp,gqwp] using this
     | false =>
      have:=ih _ _ _ _ h1
      simpa [swp,rqwp,gqwp] using this
    ·have h1:=hc.2 e
     cases want with
     | true =>
      have:=ih _ _ _ _ h1
      simpa [swp,rqwp,gqwp] using this
     | false =>
      have:=ih _ _ _ _ h1
      simpa [swp,rqwp,gqwp] using this
   ·rename_i hq
    simp only [hq]
    have:=ih _ _ _ _ hh
    simpa only [swp] using this
   ·exact hh.elim
  | .c .skip::fs=>simp only [run] at hh; simp only [swp]; exact ⟨_, .refl,by simp only [dwp]; exact ih _ _ _ _ hh⟩
  | .c (.reg l)::fs =>
   simp only [run] at hh; simp only [swp]
   refine ⟨_, .refl, ?_⟩
   simp only [dwp]
   have:=ih _ _ _ _ (holds_resume (fun fs t ls h hq=>ih fs t ls h hq) _ hh)
   simpa only [swp] using this
  | .c (.drt _ l)::fs =>
   simp only [run] at hh; simp only [swp]
   refine ⟨_, .refl, ?_⟩
   simp only [dwp]
   have:=ih _ _ _ _ (holds_resume (fun fs t ls h hq=>ih fs t ls h hq) _ hh)
   simpa only [swp] using this
  | .c (.drq l)::fs =>
   simp only [run] at hh; simp only [swp]
   refine ⟨_, .refl, ?_⟩
   simp only [dwp]
   have:=ih _ _ _ _ (holds_resume (fun fs t ls h hq=>ih fs t ls h hq) _ hh)
   simpa only [swp] using this
  | .c (.drm l)::fs =>
   simp only [run] at hh; simp only [swp]
   refine ⟨_, .refl, ?_⟩
   simp only [dwp]
   have:=ih _ _ _ _ (holds_resume (fun fs t ls h hq=>ih fs t ls h hq) _ hh)
   rw [swp_frames] at this
   simpa only [swp] using this
  | .c (.drx x)::fs =>
   simp only [run] at hh; simp only [swp]
   refine ⟨_, .refl, ?_⟩
   simp only [dwp]
   have:=ih _ _ _ _ (holds_resume (fun fs t ls h hq=>ih fs t ls h hq) _ hh)
   simpa only [swp] using this
  | .xc .done::fs=>simp only [run] at hh; simp only [swp,xwp]; exact ih _ _ _ _ hh
  | .xc (.tk true x r)::fs =>
   simp only [run] at hh
   have:=ih _ _ _ _ hh
   simpa only [swp,rqwp,xwp] using this
  | .xc (.tk false x r)::fs =>
   simp only [run] at hh
   have:=ih _ _ _ _ hh
   simpa only [swp,rwp,xwp] using this
  | .xc (.both a b)::fs =>
   simp only [run,holds] at hh
   simp only [swp,xwp]
   have h0:=ih _ _ _ _ ((holds_cond (hh 0 (Nat.le_refl _))).1 rfl)
   have h1:=ih _ _ _ _ ((holds_cond (hh 1 (Nat.zero_le _))).2 rfl)
   exact ⟨by simpa only [swp] using h0,by simpa only [swp] using h1⟩
  | .c (.seq a b)::fs =>
   simp only [run] at hh; simp only [swp]
   have:=ih _ _ _ _ hh
   simp only [swp] at this
   obtain ⟨s',hW,this⟩:=this
   refine ⟨s',hW, ?_⟩
   simp only [dwp]
   refine cast ?_ this
   congr 1
   funext e s
   cases e<;>simp only [swp,swx]
  | .c (.cond x a b)::fs =>
   simp only [run] at hh; simp only [swp]
   split at hh
   ·rename_i q hq
    have hc:=holds_cond hh
    refine ⟨_, .refl, ?_⟩
    simp only [dwp,hq]
    refine bcase_intro (fun e=>?_) (fun e=>?_)
    ·have:=ih _ _ _ _ (hc.1 e)
     simpa only [swp,if_true] using this
    ·have:=ih _ _ _ _ (hc.2 e)
     simpa only [swp,Bool.false_eq_true,if_false] using this
   ·exact hh.elim
  | .c (.block id c)::fs =>
   simp only [run] at hh; simp only [swp]
   have:=ih _ _ _ _ hh
   simp only [swp] at this
   obtain ⟨s',hW,this⟩:=this
   refine ⟨s',hW, ?_⟩
   simp only [dwp]
   refine cast ?_ this
   congr 1
   funext e s
   cases e<;>simp only [swp,swx]
   rename_i j
   by_cases hj:id=j
   ·rw [if_pos hj,if_pos hj.symm]
   ·rw [if_neg hj,if_neg (fun e=>hj e.symm)]
  | .c (.loop c)::fs=>simpa only [run,holds] using hh
  | .c (.exit id)::fs =>
   simp only [run] at hh; simp only [swp]
   refine ⟨_, .refl, ?_⟩
   simp only [dwp]
   split at hh
   ·rename_i fs' hp
    rw [swx_pop hp]
    exact ih _ _ _ _ hh
   ·exact hh.elim
  | .c .ret::fs =>
   simp only [run,holds] at hh; simp only [swp]
   exact ⟨_, .refl,by simpa only [dwp] using hh⟩
  | .c (.rf g ps a b)::fs=>simpa only [run,holds] using hh

theorem swp_loop {Γ:FuncId->FSpec} {n0:Nat} {K:Ex->St->Prop} {c:DC} {fs:List Fr} {s:St} (hh:∀ X:St->Prop,(∀ s,swp Γ n0 K (.c c::.lp X::fs) s->X s)->X s):swp Γ n0 K (.c (.loop c)::fs) s:=by
 simp only [swp,dwp]
 refine ⟨_, .refl,fun X hX=>hh X (fun s hs=>hX s ?_)⟩
 simp only [swp] at hs
 obtain ⟨s',hW,hs⟩:=hs
 refine ⟨s',hW,cast ?_ hs⟩
 congr 1
 funext e s
 cases e<;>simp only [swp,swx]

def finP (rs:List RV) (K:V->List Blk->Prop) (e:Ex) (s:St):Prop :=
 match e with
 | .ext _=>False
 | _=>match rvals s rs with
  | some l=>leave (result l) s.ls s.h K
  | none=>False

theorem finP_fin {n0:Nat} {rs:List RV} {K:V->List Blk->Prop} {e:Ex} {s:St} (h:finP rs K e s):fin n0 rs K e s:=by
 cases e with
 | ext id=>exact h
 | nrm =>
  cases hr:rvals s rs with
  | none=>simp only [finP,hr] at h
  | some l=>simp only [finP,fin,hr] at *; exact ⟨_,_,_, .refl,h⟩
 | ret =>
  cases hr:rvals s rs with
  | none=>simp only [finP,hr] at h
  | some l=>simp only [finP,fin,hr] at *; exact ⟨_,_,_, .refl,h⟩

theorem fwp_of {Γ:FuncId->FSpec} {F:DF} {args:List V} {h:List Blk} {K:V->List Blk->Prop} (Kf:Ex->St->Prop) (hK:∀ e s,Kf e s->fin h.length F.res K e s)
  (hh:swp Γ h.length Kf [.c F.body] ⟨args++List.replicate (F.ntmps-args.length) (.tup []),[],h⟩):fwp Γ F args h K:=by
 simp only [swp] at hh
 obtain ⟨s',hW,hh⟩:=hh
 refine ⟨Kf,hK,s',hW,cast ?_ hh⟩
 congr 1
 funext e s
 cases e<;>simp only [swp,swx]

theorem fwp_run {Γ:FuncId->FSpec} {G:Tab} (hG:G.ok Γ) {F:DF} {args:List V} {h:List Blk} {K:V->List Blk->Prop} (n:Nat)
  (hh:holds Γ h.length (finP F.res K) (run G n [.c F.body] (args++List.replicate (F.ntmps-args.length) (.tup [])) [] h)):fwp Γ F args h K :=
 fwp_of _ (fun _ _=>finP_fin) (run_sound hG _ _ _ _ _ hh)

theorem fwp_runW {Γ:FuncId->FSpec} {G:Tab} (hG:G.ok Γ) {F:DF} {args:List V} {h:List Blk} {K:V->List Blk->Prop} (n:Nat)
  (hh:holds Γ h.length (fin h.length F.res K) (run G n [.c F.body] (args++List.replicate (F.ntmps-args.length) (.tup [])) [] h)):fwp Γ F args h K :=
 fwp_of _ (fun _ _=>id) (run_sound hG _ _ _ _ _ hh)

theorem swp_weak {Γ:FuncId->FSpec} {n0:Nat} {K:Ex->St->Prop} {d:DC} {fs:List Fr} {s s':St} (hW:Wk n0 s s') (hh:swp Γ n0 K (.c d::fs) s'):swp Γ n0 K (.c d::fs) s:=by
 simp only [swp] at hh ⊢
 obtain ⟨s2,hW2,hh⟩:=hh
 exact ⟨s2,hW.trans hW2,hh⟩

/-! ### the machine's equations -/
section eqs
variable {G:Tab} {n:Nat} {fs fs':List Fr} {t t':List V} {ls h ls' h':List Blk} {l:List GI} {op:I} {dst:Option Nat} {j id e:Nat} {c d a b:DC} {x:Opd} {want q:Bool} {v:V} {p:Prop} {r r1 r2:Res} {f:FuncId} {args:List V}
 {v':Nat->V} {ls'':Nat->List Blk}
noncomputable def cont (G:Tab) (n:Nat) (dst:Option Nat) (l:List GI) (fs:List Fr) (t:List V) (ls h:List Blk) (r:Res):Stop :=
 stepR G dst (.gi l::fs) t ls h (fun v ls h=>run G n (.gi l::fs) (putD t dst v) ls h) (fun t v ls=>run G n (.gi l::fs) (putD t dst v) ls h) r
noncomputable def contG (G:Tab) (n:Nat) (dst:Option Nat) (l:List GI) (fs:List Fr) (t:List V) (ls h:List Blk) (r:Res):Stop :=
 r.go (fun v ls h=>run G n (.gi l::fs) (putD t dst v) ls h) (fun t v ls=>run G n (.gi l::fs) (putD t dst v) ls h) (fun r=>.res r dst (.gi l::fs) t ls h)
noncomputable def contQ (G:Tab) (n:Nat) (dst:Option Nat) (op:I) (l:List GI) (fs:List Fr) (t:List V) (ls h:List Blk) (r:Res):Stop :=
 stepQ G op h (fun v=>run G n (.qgi l::fs) (putD t dst v) ls h) r
noncomputable def contQ2 (G:Tab) (n:Nat) (dst:Option Nat) (l:List GI) (fs:List Fr) (t:List V) (ls h:List Blk) (r:Res):Stop :=
 r.go (fun v _ _=>run G n (.qgi l::fs) (putD t dst v) ls h) (fun _ v _=>run G n (.qgi l::fs) (putD t dst v) ls h) (fun _=>.bad)
noncomputable def contQG (G:Tab) (n:Nat) (dst:Option Nat) (l:List GI) (fs:List Fr) (t:List V) (ls h:List Blk) (args:List V) (r:Option Res):Stop :=
 match r with
 | some r=>obS (args.all V.known=true/\args.all V.noL=true) (r.goQ h (fun v=>run G n (.qgi l::fs) (putD t dst v) ls h))
 | none=>.bad
noncomputable def contQH (G:Tab) (n:Nat) (dst:Option Nat) (l:List GI) (fs:List Fr) (t:List V) (ls h:List Blk) (r:Res):Stop :=
 r.goQ h (fun v=>run G n (.qgi l::fs) (putD t dst v) ls h)
noncomputable def guard (G:Tab) (n:Nat) (dst:Option Nat) (op:I) (j:Nat) (want:Bool) (l:List GI) (fs:List Fr) (t:List V) (ls h:List Blk) (v:V):Stop :=
 match v with
  | .s (.b q)=>cond q
   (cond want (run G n (.gi (⟨dst,op,none⟩::l)::fs) (t.set j (.s (.b true))) ls h) (run G n (.gi l::fs) (putD (t.set j (.s (.b true))) dst (.tup [])) ls h))
   (cond want (run G n (.gi l::fs) (putD (t.set j (.s (.b false))) dst (.tup [])) ls h) (run G n (.gi (⟨dst,op,none⟩::l)::fs) (t.set j (.s (.b false))) ls h))
  | .tup []=>run G n (.gi l::fs) (putD t dst (.tup [])) ls h
  | _=>.bad
noncomputable def guardQ (G:Tab) (n:Nat) (dst:Option Nat) (op:I) (j:Nat) (want:Bool) (l:List GI) (fs:List Fr) (t:List V) (ls h:List Blk) (v:V):Stop :=
 match v with
  | .s (.b q)=>cond q
   (cond want (run G n (.qgi (⟨dst,op,none⟩::l)::fs) (t.set j (.s (.b true))) ls h) (run G n (.qgi l::fs) (putD (t.set j (.s (.b true))) dst (.tup [])) ls h))
   (cond want (run G n (.qgi l::fs) (putD (t.set j (.s (.b false))) dst (.tup [])) ls h) (run G n (.qgi (⟨dst,op,none⟩::l)::fs) (t.set j (.s (.b false))) ls h))
  | .tup []=>run G n (.qgi l::fs) (putD t dst (.tup [])) ls h
  | _=>.bad
noncomputable def condV (G:Tab) (n:Nat) (a b:DC) (fs:List Fr) (t:List V) (ls h:List Blk) (v:V):Stop :=
 match v with
  | .s (.b q)=>cond q (run G n (.c a::fs) t ls h) (run G n (.c b::fs) t ls h)
  | _=>.bad
noncomputable def exitV (G:Tab) (n:Nat) (t:List V) (ls h:List Blk):Option (List Fr)->Stop
  | some fs=>run G n fs t ls h
  | none=>.bad
def callO (args:List V) (ls:List Blk) (f:FuncId):Option Res->Res
 | some r=>.ob (args.all V.known=true) (r.into ls)
 | none=>.call f args
def callL (args:List V) (n m:Nat) (f:FuncId):Option Res->Res
 | some r=>.ob (args.all V.known=true) (r.unlend n m)
 | none=>.call f args
def tg:Option V->V
 | some v=>v
 | none=>.tup []
theorem tg_some:tg (some v)=v:=(rfl)
theorem ev_t {i:Nat}:ev t (.t i)=tg t[i]?:=by
 simp only [ev,List.getD]; cases t[i]?<;>rfl
theorem ev_k:ev t (.k v)=v:=(rfl)
theorem getD_tg {i:Nat}:t.getD i (.tup [])=tg t[i]?:=by
 simp only [List.getD]; cases t[i]?<;>rfl
def rvT:V->Option C
 | .s x=>some (.s x)
 | .agg xs=>some (.agg xs)
 | .tup _=>none
theorem rvT_s {x:S}:rvT (.s x)=some (.s x):=(rfl)
theorem rvT_agg {x:List S}:rvT (.agg x)=some (.agg x):=(rfl)
def rvC (h ls:List Blk) (n:Option Nat):V->Option C
 | .s (.p r o)=>match blk h ls r with
   | some B=>if B.st=.dead then none else match n with
    | none=>(B.cells[o]?).map C.s
    | some n=>if o+n<=B.cells.length then some (.agg (sub B.cells o n)) else none
   | none=>none
 | _=>none
theorem rval_t {i:Nat}:rval ⟨t,ls,h⟩ (.t i)=rvT (tg t[i]?):=by
 simp only [rval,getD_tg]; rfl
theorem rval_c {i:Nat} {n:Option Nat}:rval ⟨t,ls,h⟩ (.c i n)=rvC h ls n (tg t[i]?):=by
 simp only [rval,getD_tg]; rfl
theorem callR_t:callR G f args ls h true=callO args ls f (G f args h):=by unfold callR callO; rfl
theorem callR_f:callR G f args ls h false=callL args h.length ls.length f (G f (args.map (V.ren (R.lend h.length))) (h++ls.map (Blk.ren (R.lend h.length)))):=by unfold callR callL; rfl
theorem callO_some:callO args ls f (some r)=.ob (args.all V.known=true) (r.into ls):=(rfl)
theorem callO_none:callO args ls f none=.call f args:=(rfl)
theorem callL_some {n m:Nat}:callL args n m f (some r)=.ob (args.all V.known=true) (r.unlend n m):=(rfl)
theorem callL_none {n m:Nat}:callL args n m f none=.call f args:=(rfl)
theorem cont_ok:cont G n dst l fs t ls h (.ok v ls' h')=run G n (.gi l::fs) (putD t dst v) ls' h':=(rfl)
theorem cont_br:cont G n dst l fs t ls h (.br q r1 r2)=cond q (contG G n dst l fs t ls h r1) (contG G n dst l fs t ls h r2):=(rfl)
theorem cont_ob:cont G n dst l fs t ls h (.ob p r)=obS p (contG G n dst l fs t ls h r):=(rfl)
theorem cont_call:cont G n dst l fs t ls h (.call f args)=contG G n dst l fs t ls h (callR G f args ls h (args.all V.noL)):=(rfl)
theorem cont_app:cont G n dst l fs t ls h (.app t' e v' ls'')=.all e fun c=>run G n (.gi l::fs) (putD t' dst (v' c)) (ls'' c) h:=(rfl)
theorem cont_bad:cont G n dst l fs t ls h .bad=.bad:=(rfl)
theorem contG_ok:contG G n dst l fs t ls h (.ok v ls' h')=run G n (.gi l::fs) (putD t dst v) ls' h':=(rfl)
theorem contG_br:contG G n dst l fs t ls h (.br q r1 r2)=cond q (contG G n dst l fs t ls h r1) (contG G n dst l fs t ls h r2):=(rfl)
theorem contG_ob:contG G n dst l fs t ls h (.ob p r)=obS p (contG G n dst l fs t ls h r):=(rfl)
theorem contG_call:contG G n dst l fs t ls h (.call f args)=.res (.call f args) dst (.gi l::fs) t ls h:=(rfl)
theorem contG_app:contG G n dst l fs t ls h (.app t' e v' ls'')=.all e fun c=>run G n (.gi l::fs) (putD t' dst (v' c)) (ls'' c) h:=(rfl)
theorem contG_bad:contG G n dst l fs t ls h .bad=.bad:=(rfl)
theorem contQ_ok:contQ G n dst op l fs t ls h (.ok v ls' h')=run G n (.qgi l::fs) (putD t dst v) ls h:=(rfl)
theorem contQ_br:contQ G n dst op l fs t ls h (.br q r1 r2)=cond q (contQ2 G n dst l fs t ls h r1) (contQ2 G n dst l fs t ls h r2):=(rfl)
theorem contQ_ob:contQ G n dst op l fs t ls h (.ob p r)=obS p (contQ2 G n dst l fs t ls h r):=(rfl)
theorem contQ_call {as:List Opd}:contQ G n dst (.call f as) l fs t ls h (.call f args)=contQG G n dst l fs t ls h args (G f args h):=by
 unfold contQ stepQ contQG; rfl
theorem contQ_callv {g:Opd} {as:List Opd}:contQ G n dst (.callv g as) l fs t ls h (.call f args)=contQG G n dst l fs t ls h args (G f args h):=by
 unfold contQ stepQ contQG; rfl
theorem contQ_bad:contQ G n dst op l fs t ls h .bad=.bad:=(rfl)
theorem contQ2_ok:contQ2 G n dst l fs t ls h (.ok v ls' h')=run G n (.qgi l::fs) (putD t dst v) ls h:=(rfl)
theorem contQ2_br:contQ2 G n dst l fs t ls h (.br q r1 r2)=cond q (contQ2 G n dst l fs t ls h r1) (contQ2 G n dst l fs t ls h r2):=(rfl)
theorem contQ2_ob:contQ2 G n dst l fs t ls h (.ob p r)=obS p (contQ2 G n dst l fs t ls h r):=(rfl)
theorem contQG_some:contQG G n dst l fs t ls h args (some r)=obS (args.all V.known=true/\args.all V.noL=true) (contQH G n dst l fs t ls h r):=(rfl)
theorem contQH_ok:contQH G n dst l fs t ls h (.ok v ls' h')=obS (h'=h/\v.val 0 0=true) (run G n (.qgi l::fs) (putD t dst v) ls h):=(rfl)
theorem contQH_br:contQH G n dst l fs t ls h (.br q r1 r2)=cond q (contQH G n dst l fs t ls h r1) (contQH G n dst l fs t ls h r2):=(rfl)
theorem contQH_ob:contQH G n dst l fs t ls h (.ob p r)=obS p (contQH G n dst l fs t ls h r):=(rfl)
theorem guard_b:guard G n dst op j want l fs t ls h (.s (.b q))=cond q
   (cond want (run G n (.gi (⟨dst,op,none⟩::l)::fs) (t.set j (.s (.b true))) ls h) (run G n (.gi l::fs) (putD (t.set j (.s (.b true))) dst (.tup [])) ls h))
   (cond want (run G n (.gi l::fs) (putD (t.set j (.s (.b false))) dst (.tup [])) ls h) (run G n (.gi (⟨dst,op,none⟩::l)::fs) (t.set j (.s (.b false))) ls h)):=(rfl)
theorem guard_t:guard G n dst op j want l fs t ls h (.tup [])=run G n (.gi l::fs) (putD t dst (.tup [])) ls h:=(rfl)
theorem guardQ_b:guardQ G n dst op j want l fs t ls h (.s (.b q))=cond q
   (cond want (run G n (.qgi (⟨dst,op,none⟩::l)::fs) (t.set j (.s (.b true))) ls h) (run G n (.qgi l::fs) (putD (t.set j (.s (.b true))) dst (.tup [])) ls h))
   (cond want (run G n (.qgi l::fs) (putD (t.set j (.s (.b false))) dst (.tup [])) ls h) (run G n (.qgi (⟨dst,op,none⟩::l)::fs) (t.set j (.s (.b false))) ls h)):=(rfl)
theorem guardQ_t:guardQ G n dst op j want l fs t ls h (.tup [])=run G n (.qgi l::fs) (putD t dst (.tup [])) ls h:=(rfl)
theorem condV_b:condV G n a b fs t ls h (.s (.b q))=cond q (run G n (.c a::fs) t ls h) (run G n (.c b::fs) t ls h):=(rfl)
theorem exitV_some:exitV G n t ls h (some fs')=run G n fs' t ls h:=(rfl)
theorem cont_all {f':Nat->Res}:cont G n dst l fs t ls h (.all e f')=.all e fun c=>contG G n dst l fs t ls h (f' c):=(rfl)
theorem contG_all {f':Nat->Res}:contG G n dst l fs t ls h (.all e f')=.all e fun c=>contG G n dst l fs t ls h (f' c):=(rfl)
theorem into_all {f':Nat->Res}:(Res.all e f').into ls=.all e fun c=>(f' c).into ls:=(rfl)
theorem unlend_all {n m:Nat} {f':Nat->Res}:(Res.all e f').unlend n m=.all e fun c=>(f' c).unlend n m:=(rfl)
theorem into_ok:(Res.ok v ls' h').into ls=.ok v ls h':=(rfl)
theorem into_ob:(Res.ob p r).into ls=.ob p (r.into ls):=(rfl)
theorem into_br:(Res.br q r1 r2).into ls=.br q (r1.into ls) (r2.into ls):=(rfl)
theorem unlend_ok {n m:Nat}:(Res.ok v ls' h').unlend n m=.ob (n+m<=h'.length/\clean n (h'.take n)=true) (.ok (v.ren (R.unlend n)) ((h'.drop n).map (Blk.ren (R.unlend n))) (h'.take n)):=(rfl)
theorem unlend_ob {n m:Nat}:(Res.ob p r).unlend n m=.ob p (r.unlend n m):=(rfl)
theorem unlend_br {n m:Nat}:(Res.br q r1 r2).unlend n m=.br q (r1.unlend n m) (r2.unlend n m):=(rfl)
theorem run_zero:run G 0 fs t ls h=.more fs t ls h:=(rfl)
theorem run_nil:run G (n+1) [] t ls h=.done .nrm t ls h:=(rfl)
theorem run_blk:run G (n+1) (.blk id::fs) t ls h=run G n fs t ls h:=(rfl)
theorem run_lp {X:St->Prop}:run G (n+1) (.lp X::fs) t ls h=.lp X t ls h:=(rfl)
theorem run_gi0:run G (n+1) (.gi []::fs) t ls h=run G n fs t ls h:=(rfl)
theorem run_gi:run G (n+1) (.gi (⟨dst,op,none⟩::l)::fs) t ls h=cont G n dst l fs t ls h (istep op t ls h):=(rfl)
theorem run_gig:run G (n+1) (.gi (⟨dst,op,some (j,want)⟩::l)::fs) t ls h=guard G n dst op j want l fs t ls h (tg t[j]?):=by
 rw [<-getD_tg]; rfl
theorem run_q0:run G (n+1) (.qgi []::fs) t ls h=run G n fs t ls h:=(rfl)
theorem run_q:run G (n+1) (.qgi (⟨dst,op,none⟩::l)::fs) t ls h=contQ G n dst op l fs t ls h (istep op t ls h):=(rfl)
theorem run_qg:run G (n+1) (.qgi (⟨dst,op,some (j,want)⟩::l)::fs) t ls h=guardQ G n dst op j want l fs t ls h (tg t[j]?):=by
 rw [<-getD_tg]; rfl
theorem run_skip:run G (n+1) (.c .skip::fs) t ls h=run G n fs t ls h:=(rfl)
theorem run_je:run G (n+1) (.je::fs) t ls h=.leaf fs t ls h:=(rfl)
theorem run_reg:run G (n+1) (.c (.reg l)::fs) t ls h=resume (run G n) (run G n (.gi l::.je::fs) t ls h):=(rfl)
theorem run_drt:run G (n+1) (.c (.drt j l)::fs) t ls h=resume (run G n) (run G n (.gi l::.je::fs) t ls h):=(rfl)
theorem run_drq:run G (n+1) (.c (.drq l)::fs) t ls h=resume (run G n) (run G n (.qgi l::.je::fs) t ls h):=(rfl)
theorem run_drm {l:List (Bool×GI)}:run G (n+1) (.c (.drm l)::fs) t ls h=resume (run G n) (run G n (frames l (.je::fs)) t ls h):=(rfl)
theorem run_drx {x:XC}:run G (n+1) (.c (.drx x)::fs) t ls h=resume (run G n) (run G n (.xc x::.je::fs) t ls h):=(rfl)
theorem run_xd:run G (n+1) (.xc .done::fs) t ls h=run G n fs t ls h:=(rfl)
theorem run_xq {x:GI} {y:XC}:run G (n+1) (.xc (.tk true x y)::fs) t ls h=run G n (.qgi [x]::.xc y::fs) t ls h:=(rfl)
theorem run_xg {x:GI} {y:XC}:run G (n+1) (.xc (.tk false x y)::fs) t ls h=run G n (.gi [x]::.xc y::fs) t ls h:=(rfl)
theorem run_xb {x y:XC}:run G (n+1) (.xc (.both x y)::fs) t ls h=.all 0 fun c=>cond (c==0) (run G n (.xc x::fs) t ls h) (run G n (.xc y::fs) t ls h):=(rfl)
theorem frames_nil:frames [] fs=fs:=(rfl)
theorem frames_q {x:GI} {l:List (Bool×GI)}:frames ((true,x)::l) fs=.qgi [x]::frames l fs:=(rfl)
theorem frames_g {x:GI} {l:List (Bool×GI)}:frames ((false,x)::l) fs=.gi [x]::frames l fs:=(rfl)
theorem run_rf {g:Opd} {ps:List Nat}:run G (n+1) (.c (.rf g ps a b)::fs) t ls h=.more (.c (.rf g ps a b)::fs) t ls h:=(rfl)
theorem run_seq:run G (n+1) (.c (.seq a b)::fs) t ls h=run G n (.c a::.c b::fs) t ls h:=(rfl)
theorem run_cond:run G (n+1) (.c (.cond x a b)::fs) t ls h=condV G n a b fs t ls h (ev t x):=(rfl)
theorem run_block:run G (n+1) (.c (.block id c)::fs) t ls h=run G n (.c c::.blk id::fs) t ls h:=(rfl)
theorem run_loop:run G (n+1) (.c (.loop c)::fs) t ls h=.loop c fs t ls h:=(rfl)
theorem run_exit:run G (n+1) (.c (.exit id)::fs) t ls h=exitV G n t ls h (popTo id fs):=(rfl)
theorem run_ret:run G (n+1) (.c .ret::fs) t ls h=.done .ret t ls h:=(rfl)

variable {Γ:FuncId->FSpec} {n0:Nat} {K:Ex->St->Prop} {s:Stop}
def zipC (q:Bool) (t1 t2:List V):List V:=cond q t1 t2
def jv (q:Bool) (v1 v2:V):V:=cond q v1 v2
theorem zipC_nil:zipC q [] []=[]:=by cases q<;>rfl
theorem zipC_cons {v1 v2:V} {l1 l2:List V}:zipC q (v1::l1) (v2::l2)=jv q v1 v2::zipC q l1 l2:=by cases q<;>rfl
theorem jv_self:jv q v v=v:=by cases q<;>rfl
theorem jv_b {x y:Bool}:jv q (.s (.b x)) (.s (.b y))=.s (.b (cond q x y)):=by cases q<;>rfl
theorem jv_i {k:IntKind} {x y:Int}:jv q (.s (.i k x)) (.s (.i k y))=.s (.i k (cond q x y)):=by cases q<;>rfl
theorem cond_ff {x:Bool}:cond q x false=(q&&x):=by cases q<;>cases x<;>rfl
theorem cond_tt {x:Bool}:cond q true x=(q||x):=by cases q<;>cases x<;>rfl
theorem cond_ft {x:Bool}:cond q false x=(!q&&x):=by cases q<;>cases x<;>rfl
theorem cond_tf {x:Bool}:cond q x true=(!q||x):=by cases q<;>cases x<;>rfl
theorem cond_same {α:Type} {x:α}:cond q x x=x:=by cases q<;>rfl
theorem join_leaf {t1 t2:List V}:cond q (Stop.leaf fs t1 ls h) (Stop.leaf fs t2 ls h)=.leaf fs (zipC q t1 t2) ls h:=by cases q<;>rfl
theorem join_ob1 {s1 s2:Stop}:cond q (obS p s1) s2=obS (q=true->p) (cond q s1 s2):=by
 cases q
 ·simp [obS]
 ·have:(true=true->p)=p:=propext ⟨fun h=>h rfl,fun h _=>h⟩
  rw [this]; rfl
theorem join_ob2 {s1 s2:Stop}:cond q s1 (obS p s2)=obS (q=false->p) (cond q s1 s2):=by
 cases q
 ·have:(false=false->p)=p:=propext ⟨fun h=>h rfl,fun h _=>h⟩
  rw [this]; rfl
 ·simp [obS]
theorem obS_true {s:Stop}:obS True s=s:=by simp [obS]
theorem obS_false {s:Stop}:obS False s=.bad:=by simp [obS]
theorem resume_leaf {k:List Fr->List V->List Blk->List Blk->Stop}:resume k (.leaf fs t ls h)=k fs t ls h:=(rfl)
theorem resume_all {k:List Fr->List V->List Blk->List Blk->Stop} {f:Nat->Stop}:resume k (.all n f)=.all n fun c=>resume k (f c):=(rfl)
theorem resume_bad {k:List Fr->List V->List Blk->List Blk->Stop}:resume k .bad=.bad:=(rfl)
theorem resume_res {k:List Fr->List V->List Blk->List Blk->Stop}:resume k (.res r dst fs t ls h)=.res r dst fs t ls h:=(rfl)
theorem resume_cond {k:List Fr->List V->List Blk->List Blk->Stop} {s1 s2:Stop}:resume k (cond q s1 s2)=cond q (resume k s1) (resume k s2):=by cases q<;>rfl
theorem resume_ob {k:List Fr->List V->List Blk->List Blk->Stop} {s1:Stop}:resume k (obS p s1)=obS p (resume k s1):=by
 unfold obS
 by_cases h:p<;>simp [h,resume]
theorem holds_done {e:Ex}:holds Γ n0 K (.done e t ls h)=K e ⟨t,ls,h⟩:=(rfl)
theorem holds_all {f:Nat->Stop}:holds Γ n0 K (.all n f)=∀ c,n<=c->holds Γ n0 K (f c):=(rfl)
theorem holds_lp {X:St->Prop}:holds Γ n0 K (.lp X t ls h)=X ⟨t,ls,h⟩:=(rfl)
theorem holds_bad:holds Γ n0 K .bad=False:=(rfl)
theorem holds_cond_eq {a b:Stop}:holds Γ n0 K (cond q a b)=((q=true->holds Γ n0 K a)/\(q=false->holds Γ n0 K b)) :=
 propext ⟨holds_cond,fun h=>cond_holds h.1 h.2⟩

def leaveB (v:V) (ls h:List Blk) (K:V->List Blk->Prop):Bool->Prop
 | true=>K v h
 | false=>∃ keep:List Nat,keep.Nodup/\v.kept keep=true/\match getAll ls keep with
   | some l=>ob (l.all (fun B=>decide (B.st=.rw)&&B.cells.all (S.kept keep))=true) (K (v.ren (R.prom h.length keep)) (h++l.map (Blk.ren (R.prom h.length keep))))
   | none=>False
def finO (K:V->List Blk->Prop) (ls h:List Blk):Option (List C)->Prop
 | some l=>leave (result l) ls h K
 | none=>False
theorem leave_eq {K:V->List Blk->Prop}:leave v ls h K=(v.known=true/\leaveB v ls h K v.noL):=by
 unfold leave ob
 cases v.noL<;>rfl
theorem fin_ret {rs:List RV} {K:V->List Blk->Prop}:finP rs K .ret ⟨t,ls,h⟩=finO K ls h (rvals ⟨t,ls,h⟩ rs):=by
 unfold finP finO; rfl
theorem fin_nrm {rs:List RV} {K:V->List Blk->Prop}:finP rs K .nrm ⟨t,ls,h⟩=finO K ls h (rvals ⟨t,ls,h⟩ rs):=by
 unfold finP finO; rfl
theorem finO_some {K:V->List Blk->Prop} {l:List C}:finO K ls h (some l)=leave (result l) ls h K:=(rfl)
theorem leaveB_true {K:V->List Blk->Prop}:leaveB v ls h K true=K v h:=(rfl)

theorem spec_ok {K:V->List Blk->Prop}:(Res.ok v ls h).spec K=K v h:=(rfl)
theorem spec_ob {K:V->List Blk->Prop}:(Res.ob p r).spec K=(p/\r.spec K):=(rfl)
theorem spec_br {K:V->List Blk->Prop}:(Res.br q r1 r2).spec K=((q=true->r1.spec K)/\(q=false->r2.spec K)):=(rfl)
theorem spec_all {K:V->List Blk->Prop} {f':Nat->Res}:(Res.all e f').spec K=∀ c,e<=c->(f' c).spec K:=(rfl)
end eqs

theorem holds_loop {Γ:FuncId->FSpec} {n0:Nat} {K:Ex->St->Prop} {c:DC} {fs:List Fr} {t:List V} {ls h:List Blk}:holds Γ n0 K (.loop c fs t ls h)=swp Γ n0 K (.c (.loop c)::fs) ⟨t,ls,h⟩:=(rfl)

def DC.after:Nat->DC->DC
 | 0,d=>d
 | n+1, .seq _ b=>DC.after n b
 | _+1,d=>d

/-! ### cuts behind so many statements -/
theorem swp_seq {Γ:FuncId->FSpec} {n0:Nat} {K:Ex->St->Prop} {a b:DC} {fs:List Fr} {s:St}:swp Γ n0 K (.c (.seq a b)::fs) s=swp Γ n0 K (.c a::.c b::fs) s:=by
 simp only [swp]
 congr 1
 funext s'
 congr 1
 simp only [dwp]
 congr 1
 funext e s
 cases e<;>simp only [swx]

def Alike (Γ:FuncId->FSpec) (n0:Nat) (K:Ex->St->Prop) (F F':List Fr):Prop:=(∀ s,swp Γ n0 K F s=swp Γ n0 K F' s)/\∀ id s,swx Γ n0 K F id s=swx Γ n0 K F' id s

theorem Alike.c {Γ:FuncId->FSpec} {n0:Nat} {K:Ex->St->Prop} {F F':List Fr} (h:Alike Γ n0 K F F') (d:DC):Alike Γ n0 K (.c d::F) (.c d::F'):=by
 refine ⟨fun s=>?_,fun id s=>by simp only [swx]; exact h.2 id s⟩
 simp only [swp]
 congr 1
 funext s'
 congr 1
 congr 1
 funext e s
 cases e<;>simp only [h.1,h.2]

def cutFs (Γ:FuncId->FSpec) (n0:Nat) (K:Ex->St->Prop):Nat->DC->List Fr->List Fr
 | n+1, .seq a b,fs=>.c a::cutFs Γ n0 K n b fs
 | _,d,fs=>.lp (fun s=>swp Γ n0 K (.c d::fs) s)::fs

theorem cutFs_alike {Γ:FuncId->FSpec} {n0:Nat} {K:Ex->St->Prop}:∀ (n:Nat) (d:DC) (fs:List Fr),Alike Γ n0 K (cutFs Γ n0 K n d fs) (.c d::fs):=by
 have base:∀ (d:DC) (fs:List Fr),Alike Γ n0 K (.lp (fun s=>swp Γ n0 K (.c d::fs) s)::fs) (.c d::fs):=fun d fs=>⟨fun s=>by simp only [swp],fun id s=>by simp only [swx]⟩
 intro n
 induction n with
 | zero=>intro d fs; unfold cutFs; exact base d fs
 | succ n ih =>
  intro d fs
  cases d
  case seq a b =>
   have h:=(ih b fs).c a
   exact ⟨fun s=>by rw [swp_seq]; exact h.1 s,fun id s=>by rw [show cutFs Γ n0 K (n+1) (.seq a b) fs=.c a::cutFs Γ n0 K n b fs from rfl,h.2 id s]; simp only [swx]⟩
  all_goals exact base _ fs

theorem cut_at {Γ:FuncId->FSpec} {n0:Nat} {K:Ex->St->Prop} (n:Nat) {d:DC} {fs:List Fr} {s:St} (h:swp Γ n0 K (cutFs Γ n0 K n d fs) s):swp Γ n0 K (.c d::fs) s:=by
 rw [<-(cutFs_alike n d fs).1 s]; exact h

attribute [irreducible] run holds swp swx

end Go.D

