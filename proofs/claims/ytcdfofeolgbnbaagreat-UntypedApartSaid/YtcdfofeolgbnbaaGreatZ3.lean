/- Instructions that make memory and write it. -/
import Derived.Test.YtcdfofeolgbnbaaGreatZ2
/- Instructions that only look,all together; instructions that make and write. -/
namespace Go.D
set_option linter.all false
variable [Tabs]

section
variable {P:Program} {o:Oper}

theorem looks_all {op:I} (hc:compI P o=some op) (hs:op.still=true):Looks P o op:=by
 unfold compI at hc
 split at hc
 ·rename_i x ho
  cases hx:compX x with
  | none=>simp [hx] at hc
  | some y=>simp only [hx,Option.map_some,Option.some.injEq] at hc; subst hc; exact looks_mv (.inl ho) hx
 ·rename_i x ho
  cases hx:compX x with
  | none=>simp [hx] at hc
  | some y=>simp only [hx,Option.map_some,Option.some.injEq] at hc; subst hc; exact looks_mv (.inr ho) hx
 ·rename_i c x y ho
  split at hc
  ·rename_i c' x' y' h1 h2 h3; cases hc; exact looks_pick ho h1 h2 h3
  ·cases hc
 ·rename_i T ho
  cases hz:zeroOf P T with
  | none=>simp [hz] at hc
  | some z=>simp only [hz,Option.map_some,Option.some.injEq] at hc; subst hc; cases hs
 ·rename_i T x ho
  cases hx:compX x with
  | none=>simp [hx] at hc
  | some y=>simp only [hx,Option.map_some,Option.some.injEq] at hc; subst hc; cases hs
 ·rename_i T parts ho
  split at hc
  ·rename_i z fs hz hu
   split at hc
   ·rename_i hall
    cases hq:partsOf P (fieldPlaces P fs.toList) parts.toList with
    | none=>simp [hq] at hc
    | some qs=>simp only [hq,Option.map_some,Option.some.injEq] at hc; subst hc; exact looks_build_struct ho hz hu hall hq
   ·cases hc
  ·rename_i z n e hz hu
   split at hc
   ·rename_i i hi
    cases hq:partsOf P (fun j=>some (j*i.size,i.size)) parts.toList with
    | none=>simp [hq] at hc
    | some qs=>simp only [hq,Option.map_some,Option.some.injEq] at hc; subst hc; exact looks_build_array ho hz hu hi hq
   ·cases hc
  ·cases hc
 ·rename_i T n parts ho
  split at hc
  ·rename_i e hu
   split at hc
   ·rename_i i z hi hz
    split at hc
    ·cases hq:partsOf P (fun j=>some (j*i.size,i.size)) parts.toList with
     | none=>simp [hq] at hc
     | some qs=>simp only [hq,Option.map_some,Option.some.injEq] at hc; subst hc; cases hs
    ·cases hc
   ·cases hc
  ·cases hc
 ·rename_i T x ho
  split at hc
  ·rename_i y n hx hn; cases hc; exact looks_ld ho hn hx
  ·cases hc
 ·rename_i T x y ho
  split at hc
  ·cases hc; cases hs
  ·cases hc
 ·rename_i x ho
  cases hx:compX x with
  | none=>simp [hx] at hc
  | some y=>simp only [hx,Option.map_some,Option.some.injEq] at hc; subst hc; exact looks_nil ho hx
 ·rename_i b T x y U ho
  split at hc
  ·rename_i x' y' hx hy
   split at hc
   ·split at hc
    ·rename_i fs hu
     split at hc
     ·rename_i l hl
      split at hc
      ·cases hc
      ·rename_i hg; cases hc; exact looks_eqa (q:=false) ho (.inl ⟨_,hu⟩) hl (by simpa using hg) hx hy
     ·cases hc
    ·rename_i n e hu
     split at hc
     ·rename_i l hl
      split at hc
      ·cases hc
      ·rename_i hg; cases hc; exact looks_eqa (q:=false) ho (.inr ⟨_,_,hu⟩) hl (by simpa using hg) hx hy
     ·cases hc
    ·rename_i e hu
     split at hc
     ·rename_i hn; cases hc; exact looks_eqn_ptr (q:=false) ho hu hn hx
     ·cases hc
    ·rename_i e hu
     split at hc
     ·rename_i hn; cases hc; exact looks_eqn_sl (q:=false) ho hu hn hx
     ·cases hc
    ·rename_i hu; cases hc; exact looks_eqb (q:=false) ho hu hx hy
    ·cases hc; exact looks_bin ho hx hy
    ·cases hc
   ·split at hc
    ·rename_i fs hu
     split at hc
     ·rename_i l hl
      split at hc
      ·cases hc
      ·rename_i hg; cases hc; exact looks_eqa (q:=true) ho (.inl ⟨_,hu⟩) hl (by simpa using hg) hx hy
     ·cases hc
    ·rename_i n e hu
     split at hc
     ·rename_i l hl
      split at hc
      ·cases hc
      ·rename_i hg; cases hc; exact looks_eqa (q:=true) ho (.inr ⟨_,_,hu⟩) hl (by simpa using hg) hx hy
     ·cases hc
    ·rename_i e hu
     split at hc
     ·rename_i hn; cases hc; exact looks_eqn_ptr (q:=true) ho hu hn hx
     ·cases hc
    ·rename_i e hu
     split at hc
     ·rename_i hn; cases hc; exact looks_eqn_sl (q:=true) ho hu hn hx
     ·cases hc
    ·rename_i hu; cases hc; exact looks_eqb (q:=true) ho hu hx hy
    ·cases hc; exact looks_bin ho hx hy
    ·cases hc
   ·cases hc; exact looks_bin ho hx hy
  ·cases hc
 ·rename_i u T x ho
  cases hx:compX x with
  | none=>simp [hx] at hc
  | some y=>simp only [hx,Option.map_some,Option.some.injEq] at hc; subst hc; exact looks_un ho hx
 ·rename_i src dst x ho
  split at hc
  ·rename_i d k y h1 h2 h3; cases hc; exact looks_conv ho h1 h2 h3
  ·cases hc
 ·rename_i f first caps ho
  split at hc
  ·rename_i hf
   cases hx:compXs caps.toList with
   | none=>simp [hx] at hc
   | some ys=>simp only [hx,Option.map_some,Option.some.injEq] at hc; subst hc; exact looks_mkf ho hf hx
  ·cases hc
 ·rename_i T n c ho
  split at hc
  ·split at hc
   ·split at hc
    ·cases hc
    ·cases hc; cases hs
   ·cases hc
  ·cases hc
 ·rename_i T x lo hi mx ho
  split at hc
  ·cases hc
  ·split at hc
   ·rename_i x' lo' hi' h1 h2 h3
    split at hc
    ·rename_i e hu
     cases hk:P.info? e with
     | none=>simp [hk] at hc
     | some k=>simp only [hk,Option.map_some,Option.some.injEq] at hc; subst hc; exact looks_slc (arr:=none) ho hu hk h1 h2 h3
    ·rename_i n e hu
     cases hk:P.info? e with
     | none=>simp [hk] at hc
     | some k=>simp only [hk,Option.map_some,Option.some.injEq] at hc; subst hc; exact looks_slc (arr:=some n) ho hu hk h1 h2 h3
    ·cases hc
   ·cases hc
 ·rename_i T x f ho
  split at hc
  ·rename_i fs y hu hx
   split at hc
   ·rename_i fl hf
    split at hc
    ·rename_i i hi
     split at hc
     ·cases hc
     ·rename_i hsz; cases hc; exact looks_fa ho hu hf hi hsz hx
    ·cases hc
   ·cases hc
  ·cases hc
 ·rename_i T x f ho
  split at hc
  ·rename_i fs y hu hx
   split at hc
   ·rename_i fl hf
    cases hn:shapeOf P fl.type with
    | none=>simp [hn] at hc
    | some n=>simp only [hn,Option.map_some,Option.some.injEq] at hc; subst hc; exact looks_fld ho hu hf hn hx
   ·cases hc
  ·cases hc
 ·rename_i T x i ho
  split at hc
  ·rename_i n e x' i' hu hx hi
   cases hk:P.info? e with
   | none=>simp [hk] at hc
   | some k=>simp only [hk,Option.map_some,Option.some.injEq] at hc; subst hc; exact looks_ia (arr:=some n) ho hu hk hx hi
  ·rename_i e x' i' hu hx hi
   cases hk:P.info? e with
   | none=>simp [hk] at hc
   | some k=>simp only [hk,Option.map_some,Option.some.injEq] at hc; subst hc; exact looks_ia (arr:=none) ho hu hk hx hi
  ·cases hc
 ·rename_i T x i ho
  split at hc
  ·rename_i n e x' i' hu hx hi
   split at hc
   ·rename_i k m hk hm; cases hc; exact looks_ix ho hu hk hm hx hi
   ·cases hc
  ·cases hc
 ·rename_i x j ho
  cases hx:compX x with
  | none=>simp [hx] at hc
  | some y=>simp only [hx,Option.map_some,Option.some.injEq] at hc; subst hc; exact looks_ext ho hx
 ·rename_i c ho
  split at hc
  ·split at hc
   ·split at hc
    ·cases hx:compXs c.args.toList with
     | none=>simp [hx] at hc
     | some ys=>simp only [hx,Option.map_some,Option.some.injEq] at hc; subst hc; cases hs
    ·cases hc
   ·cases hc
  ·cases hx:compXs c.args.toList with
   | none=>simp [hx] at hc
   | some ys=>simp only [hx,Option.map_some,Option.some.injEq] at hc; subst hc; cases hs
  ·rename_i hcal
   split at hc
   ·rename_i x T ha hat
    split at hc
    ·rename_i e hu
     cases hx:compX x with
     | none=>simp [hx] at hc
     | some y=>simp only [hx,Option.map_some,Option.some.injEq] at hc; subst hc; exact looks_len ho hcal ha hat hu hx
    ·cases hc
   ·cases hc
  ·split at hc
   ·split at hc
    ·split at hc
     ·split at hc
      ·cases hc
      ·cases hc; cases hs
     ·cases hc
    ·cases hc
   ·cases hc
  ·split at hc
   ·split at hc
    ·split at hc
     ·cases hc; cases hs
     ·cases hc
    ·cases hc
   ·cases hc
  ·rename_i hcal
   split at hc
   ·rename_i x y ha
    split at hc
    ·rename_i x' y' hx hy; cases hc; exact looks_mx (q:=false) ho hcal ha hx hy
    ·cases hc
   ·cases hc
  ·rename_i hcal
   split at hc
   ·rename_i x y ha
    split at hc
    ·rename_i x' y' hx hy; cases hc; exact looks_mx (q:=true) ho hcal ha hx hy
    ·cases hc
   ·cases hc
  ·cases hc
 ·cases hc

end
end Go.D

/- Instructions that make memory and write it. -/
namespace Go.D
set_option linter.all false
variable [Tabs]

theorem TRel.mono {σ σ':Sg} {t:List V} {tmps:Array Value} {n m n' m':Nat} (h:TRel σ t tmps n m) (hA:Agree n m σ σ') (hn:n<=n') (hm:m<=m'):TRel σ' t tmps n' m':=by
 refine ⟨h.size,fun i v hi=>?_⟩
 obtain ⟨h1,x,h2,h3⟩:=h.at_ i v hi
 refine ⟨V.val_mono hn hm h1,x,h2, ?_⟩
 rcases h3 with h3|h3
 ·exact .inl h3
 ·exact .inr (by rw [h3,V.tr_congr hA v h1])

theorem TRel.put {σ:Sg} {t:List V} {a:Act} {n m:Nat} (h:TRel σ t a.tmps n m) (d:Option Nat) {v:V} {x:Value} (hv:v.val n m=true) (hx:Is σ v x):TRel σ (putD t d v) (a.put d x).tmps n m:=by
 cases d with
 | none=>exact h
 | some d =>
  refine ⟨by simp [putD,Act.put,h.size],fun i u hi=>?_⟩
  simp only [putD,Act.put] at hi ⊢
  by_cases hid:d=i
  ·subst hid
   rw [List.getElem?_set] at hi
   simp only [if_true] at hi
   split at hi
   ·rename_i hlt
    cases hi
    exact ⟨hv,x,by rw [Array.getElem?_setIfInBounds_self,if_pos (by rw [<-h.size]; exact hlt)],hx⟩
   ·cases hi
  ·rw [List.getElem?_set_ne hid] at hi
   obtain ⟨h1,y,h2,h3⟩:=h.at_ i u hi
   exact ⟨h1,y,by rw [Array.getElem?_setIfInBounds_ne hid]; exact h2,h3⟩

def Acts (P:Program) (Γ:FuncId->FSpec) (o:Oper) (op:I):Prop :=
 ∀ (σ0:Sg) (h0:List Blk) (w0:Base) (σ:Sg) (t:List V) (a:Act) (ls h:List Blk) (w:World) (K:List V->V->List Blk->List Blk->Prop) (next:Act->World->Prop) (Q:Exit->Act->World->Prop),
  Inv σ0 h0 w0 σ h ls w->TRel σ t a.tmps h.length ls.length->iwp Γ op t ls h K ->
  (∀ σ' t' v x ls' h' w',Inv σ0 h0 w0 σ' h' ls' w'->TRel σ' t' a.tmps h'.length ls'.length->v.val h'.length ls'.length=true->Is σ' v x->K t' v ls' h'->next (a.put o.dst x) w') ->
  o.wp P a w next Q

section
variable {P:Program} {o:Oper} {Γ:FuncId->FSpec}

theorem acts_of_value {a:Act} {w w':World} {x:Value} {next:Act->World->Prop} {Q:Exit->Act->World->Prop} (hr:(execOp a.eval o).run P w=.ok (.value x) w') (h:next (a.put o.dst x) w'):o.wp P a w next Q:=by
 unfold Oper.wp; rw [hr]; exact h

theorem acts_of_looks {op:I} (h:Looks P o op):Acts P Γ o op:=by
 intro σ0 h0 w0 σ t a ls hh w K next Q H hT hK hn
 obtain ⟨v,x,h1,h2,h3,h4⟩:=h Γ σ t a ls hh K hT (fun r B hb=>H.sim.bval hb) hK
 exact acts_of_value (h4 w H.sim) (hn σ t v x ls hh w H hT h2 h3 h1)

theorem new_own {σ0:Sg} {h0:List Blk} {w0:Base} {σ:Sg} {t:List V} {a:Act} {ls h:List Blk} {w:World} (H:Inv σ0 h0 w0 σ h ls w) (hT:TRel σ t a.tmps h.length ls.length)
  (cells:List S) (T:TypeId) (extra:Array Value) (hv:vals h.length ls.length cells=true) :
  ∃ σ',Inv σ0 h0 w0 σ' h (ls++[⟨.rw,cells,cells.length+extra.size⟩]) (w.alloc (.cells (trs σ cells++extra) T)) /\
   TRel σ' t a.tmps h.length (ls++[(⟨.rw,cells,cells.length+extra.size⟩:Blk)]).length/\∀ o,adr σ' (.l ls.length) o=⟨w.heap.size,o,none⟩:=by
 refine ⟨_,H.alloc cells T extra hv,hT.mono (agree_lay _ _ _ _ _ (Nat.le_refl _)) (Nat.le_refl _) (by simp),fun o=>by simp [adr,lay]⟩

theorem acts_new {T:TypeId} {z:List S} (ho:o.op=.alloc T) (hz:zeroOf P T=some z):Acts P Γ o (.new z):=by
 intro σ0 h0 w0 σ t a ls h w K next Q H hT hK hn
 obtain ⟨i,v,hi,hiz,hcells,hvz,_,_⟩:=zeroOf_run hz σ
 obtain ⟨σ',H',hT',hadr⟩:=new_own H hT z T #[] (vals_mono (Nat.zero_le _) (Nat.zero_le _) hvz)
 simp only [iwp] at hK
 simp only [Array.append_empty,Array.size_empty,Nat.add_zero] at H' hT'
 refine acts_of_value (w':=w.alloc (.cells (trs σ z) T)) (x:=.pointer (some ⟨w.heap.size,0,none⟩)) ?_ (hn σ' t _ _ _ h _ H' hT' ?_ (.inr ?_) hK)
 ·simp [execOp,ho,Instr.alloc,zeroValue,typeInfo,hi,hiz,newVar,newRow,hcells]
 ·simp [V.val,S.val,R.val]
 ·simp [V.tr,S.tr,hadr]

theorem acts_box {T:TypeId} {x:Operand} {y:Opd} (ho:o.op=.box T x) (hx:compX x=some y):Acts P Γ o (.box y):=by
 intro σ0 h0 w0 σ t a ls h w K next Q H hT hK hn
 simp only [iwp] at hK
 obtain ⟨hp,hK⟩:=hK
 obtain ⟨e1,e2⟩:=ev_is hT hx
 have hv:=e2.eq (plain_known hp).2
 obtain ⟨σ',H',hT',hadr⟩:=new_own H hT (ev t y).cells T #[] (plain_val hp e1)
 simp only [Array.append_empty,Array.size_empty,Nat.add_zero] at H' hT'
 refine acts_of_value (w':=w.alloc (.cells (trs σ (ev t y).cells) T)) (x:=.pointer (some ⟨w.heap.size,0,none⟩)) ?_ (hn σ' t _ _ _ h _ H' hT' ?_ (.inr ?_) hK)
 ·simp [execOp,ho,Instr.box,newVar,newRow,hv,plain_cells hp σ]
 ·simp [V.val,S.val,R.val]
 ·simp [V.tr,S.tr,hadr]

theorem zeros_length (z:List S) (n:Nat):(zeros z n).length=n*z.length:=by
 induction n with
 | zero=>simp [zeros]
 | succ n ih=>simp [zeros,ih,Nat.add_mul]; omega

theorem zeros_get (z:List S) (hz:z≠[]):∀ (n j:Nat),j<n*z.length->(zeros z n)[j]?=z[j%z.length]?
 | 0,j,h=>by simp at h
 | n+1,j,h=>by
  simp only [zeros]
  have hl:0<z.length:=List.length_pos_iff.2 hz
  by_cases hj:j<z.length
  ·rw [List.getElem?_append_left hj,Nat.mod_eq_of_lt hj]
  ·rw [List.getElem?_append_right (by omega),zeros_get z hz n (j-z.length) (by rw [Nat.add_mul] at h; omega)]
   congr 1
   rw [Nat.mod_eq_sub_mod (by omega:j ≥ z.length)]

theorem zeros_trs (σ:Sg) (z:List S) (hz:z≠[]) (n:Nat):(Array.range (n*z.length)).map (fun j=>(trs σ z)[j%(trs σ z).size]!)=trs σ (zeros z n):=by
 have hl:0<z.length:=List.length_pos_iff.2 hz
 apply Array.ext
 ·simp [trs,zeros_length]
 ·intro j h1 h2
  simp only [Array.size_map,Array.size_range] at h1
  have hg:=zeros_get z hz n j h1
  have hm:j%z.length<z.length:=Nat.mod_lt _ hl
  have h3:j<(zeros z n).length:=by rw [zeros_length]; exact h1
  rw [List.getElem?_eq_getElem h3,List.getElem?_eq_getElem hm] at hg
  simp only [Option.some.injEq] at hg
  simp only [Array.getElem_map,Array.getElem_range,trs_size]
  rw [getElem!_pos _ _ (by rw [trs_size]; exact hm)]
  simp [trs,hg]

theorem zeros_vals {z:List S} (hz:vals 0 0 z=true) (n:Nat):vals 0 0 (zeros z n)=true:=by
 induction n with
 | zero=>rfl
 | succ n ih=>simp only [zeros,vals,List.all_append,Bool.and_eq_true]; exact ⟨hz,ih⟩

theorem acts_bsl {T e:TypeId} {n:Nat} {parts:Array (Nat×Operand)} {i:TypeInfo} {z:List S} {qs:List (Nat×Nat×Opd)} (ho:o.op=.buildSlice T n parts)
  (hu:P.underlying T=some (.slice e)) (hi:P.info? e=some i) (hz:zeroOf P e=some z) (hn24:n*i.size<=2^24) (hsz:i.size≠0)
  (hq:partsOf P (fun j=>some (j*i.size,i.size)) parts.toList=some qs):Acts P Γ o (.bsl n (zeros z n) qs):=by
 intro σ0 h0 w0 σ t a ls h w K next Q H hT hK hn
 simp only [iwp] at hK
 split at hK
 ·rename_i z' hz'
  obtain ⟨k,v,hk,hiz,hcells,hvz,_,hzl⟩:=zeroOf_run hz σ
  have hki:k=i:=by rw [hk] at hi; cases hi; rfl
  rw [hki] at hk hiz hzl
  clear hki
  have hzne:z≠[]:=by intro e; rw [e] at hzl; simp at hzl; omega
  obtain ⟨f1,f2⟩:=fill_run hT _ (fun j=>some (j*i.size,i.size)) (fun _ _ h=>h) parts.toList qs (zeros z n) z' hq hz' (vals_mono (Nat.zero_le _) (Nat.zero_le _) (zeros_vals hvz n))
  obtain ⟨σ',H',hT',hadr⟩:=new_own H hT z' e #[] f2
  simp only [Array.append_empty,Array.size_empty,Nat.add_zero] at H' hT'
  refine acts_of_value (w':=w.alloc (.cells (trs σ z') e)) (x:=.slice (some ⟨w.heap.size,0,none⟩) n n) ?_ (hn σ' t _ _ _ h _ H' hT' ?_ (.inr ?_) hK)
  ·have h24:¬ (2^24<n*i.size):=by omega
   by_cases h0:n*i.size=0
   ·have hn0:n=0:=by rcases Nat.mul_eq_zero.1 h0 with h|h; exact h; exact absurd h hsz
    subst hn0
    have f1':Instr.fill (fun j=>some (j*i.size,i.size)) #[] (parts.toList.map fun x=>(x.1,a.eval x.2))=some (trs σ z'):=f1
    simp [execOp,ho,Instr.buildSlice,run_underlying hu,sizeOf,typeInfo,hi,f1',newRow,Array.range_zero']
   ·have f1':=f1
    rw [<-zeros_trs σ z hzne n,hzl] at f1'
    simp [execOp,ho,Instr.buildSlice,run_underlying hu,sizeOf,typeInfo,hi,h24,h0,zeroValue,hiz,hcells,f1',newRow]
  ·simp [V.val,S.val,R.val]
  ·simp [V.tr,S.tr,hadr]
 ·exact hK.elim

theorem acts_mks {T e:TypeId} {x y:Operand} {x' y':Opd} {i:TypeInfo} {z:List S} (ho:o.op=.makeSlice T x y)
  (hu:P.underlying T=some (.slice e)) (hi:P.info? e=some i) (hz:zeroOf P e=some z) (hsz:i.size≠0) (hx:compX x=some x') (hy:compX y=some y'):Acts P Γ o (.mks i.size i.bytes z x' y'):=by
 intro σ0 h0 w0 σ t a ls h w K next Q H hT hK hn
 simp only [iwp] at hK
 split at hK
 ·rename_i k1 n k2 c hq hq'
  obtain ⟨⟨g0,g1,g2,g3,_⟩,hK⟩:=hK
  obtain ⟨_,e1⟩:=ev_is hT hx
  obtain ⟨_,e2⟩:=ev_is hT hy
  rw [hq] at e1; rw [hq'] at e2
  have hn1:=e1.eq (by simp)
  have hc1:=e2.eq (by simp)
  simp only [V.tr,S.tr] at hn1 hc1
  obtain ⟨k,v,hk,hiz,hcells,hvz,_,hzl⟩:=zeroOf_run hz σ
  have hki:k=i:=by rw [hk] at hi; cases hi; rfl
  rw [hki] at hk hiz hzl
  clear hki
  have hzne:z≠[]:=by intro e; rw [e] at hzl; simp at hzl; omega
  obtain ⟨σ',H',hT',hadr⟩:=new_own H hT (zeros z c.toNat) e #[] (vals_mono (Nat.zero_le _) (Nat.zero_le _) (zeros_vals hvz _))
  simp only [Array.append_empty,Array.size_empty,Nat.add_zero] at H' hT'
  refine acts_of_value (w':=w.alloc (.cells (trs σ (zeros z c.toNat)) e)) (x:=.slice (some ⟨w.heap.size,0,none⟩) n.toNat c.toNat) ?_ (hn σ' t _ _ _ h _ H' hT' ?_ (.inr ?_) hK)
  ·have w1:IntKind.i64.wrap n=n:=IntWalk.i64_in n (by omega)
   have w2:IntKind.i64.wrap c=c:=IntWalk.i64_in c (by omega)
   have hc0:0<=c:=by omega
   by_cases h0:c.toNat*i.size=0
   ·have hn0:c.toNat=0:=by rcases Nat.mul_eq_zero.1 h0 with h|h; exact h; exact absurd h hsz
    have hcz:c=0:=by omega
    have hnz:n=0:=by omega
    subst hcz; subst hnz
    have w0:IntKind.i64.wrap 0=0:=by decide
    simp [execOp,ho,Instr.makeSlice,run_underlying hu,hn1,hc1,asInt,asIntOf,sizeOf,typeInfo,hi,w0,newRow,zeros,trs,Array.range_zero']
   ·have f1:=zeros_trs σ z hzne c.toNat
    rw [hzl] at f1
    have q1:¬ (c<0):=by omega
    have q2:¬ (2^48<↑i.bytes*c):=by omega
    have q3:¬ (n<0):=by omega
    have q4:¬ (c<n):=by omega
    simp [execOp,ho,Instr.makeSlice,run_underlying hu,hn1,hc1,asInt,asIntOf,sizeOf,typeInfo,hi,w1,w2,q1,q2,q3,q4,zeroValue,hiz,hcells,h0,f1,newRow]
    exact fun hq=>absurd hq (by omega)
  ·simp [V.val,S.val,R.val]
  ·simp [V.tr,S.tr,hadr]
 ·exact hK.elim

theorem acts_st {T:TypeId} {x y:Operand} {x' y':Opd} {i:TypeInfo} (ho:o.op=.store T x y) (hi:P.info? T=some i) (hx:compX x=some x') (hy:compX y=some y'):Acts P Γ o (.st x' y' i.size):=by
 intro σ0 h0 w0 σ t a ls h w K next Q H hT hK hn
 simp only [iwp] at hK
 split at hK
 ·rename_i r off hq
  split at hK
  ·rename_i B hB
   obtain ⟨⟨hrw,hp,hlen,hfit,htk⟩,hK⟩:=hK
   obtain ⟨_,e1⟩:=ev_is hT hx
   obtain ⟨_,e2⟩:=ev_is hT hy
   rw [hq] at e1
   have hxv:=e1.eq (by simp)
   simp only [V.tr,S.tr] at hxv
   have hyv:=e2.eq (plain_known hp).2
   obtain ⟨w',hr,H'⟩:=storeCells_run (P:=P) r off (ev t y').cells 0 h ls w B H hB hrw (by omega) (plain_known hp).1 htk
   simp only [Nat.add_zero] at H'
   have hT':TRel σ t a.tmps (setH h r { B with cells:=put B.cells off (ev t y').cells }).length (setL ls r { B with cells:=put B.cells off (ev t y').cells }).length:=by
    rw [setH_length,setL_length]; exact hT
   unfold Oper.wp
   have hrun:(execOp a.eval o).run P w=.ok .skip w':=by
    have hsz:((ev t y').tr σ).cells.size=i.size:=by rw [plain_cells hp σ,trs_size,hlen]
    have hr':(storeCells (adr σ r off) ((ev t y').tr σ).cells.toList 0).run P w=.ok () w':=by
     rw [plain_cells hp σ]; exact hr
    simp [execOp,ho,hxv,hyv,Instr.storeAt,Instr.sureAddr,storeVar,sizeOf,typeInfo,hi,hsz,hr']
   rw [hrun]
   exact hn σ t _ undef _ _ w' H' hT' rfl (.inr rfl) hK
  ·exact hK.elim
 ·exact hK.elim

theorem shows_run {σ:Sg} {h ls:List Blk} {w:World} (hS:Sim σ h ls w) {esize:Nat} {s:S} {n:Nat} {xs:List S} (hsh:shows ls h esize s=some (n,xs)) (hk:known xs=true) (hu:s≠.u) (m:Nat) (hm:m<=n) :
  (Builtin.lenOf (s.tr σ)).run P w=.ok n w/\(Builtin.firstCells esize m (s.tr σ)).run P w=.ok (trs σ (sub xs 0 (m*esize))) w/\xs.length=n*esize:=by
 unfold shows at hsh
 split at hsh
 ·rename_i r off n' c
  split at hsh
  ·rename_i B hB
   split at hsh
   ·split at hsh
    ·rename_i h0
     simp only [Option.some.injEq,Prod.mk.injEq] at hsh
     obtain ⟨rfl,rfl⟩:=hsh
     subst h0
     have:m=0:=by omega
     subst this
     exact ⟨by simp [Builtin.lenOf,S.tr],by simp [Builtin.firstCells,S.tr,sub,trs,loadCells,loadCellsFrom],by simp⟩
    ·cases hsh
   ·rename_i hno
    rw [not_or] at hno
    obtain ⟨hd,hlen⟩:=hno
    simp only [Option.some.injEq,Prod.mk.injEq] at hsh
    obtain ⟨rfl,rfl⟩:=hsh
    have hle:m*esize<=n'*esize:=Nat.mul_le_mul_right _ hm
    have e1:sub (sub B.cells off (n'*esize)) 0 (m*esize)=sub B.cells off (m*esize):=by
     simp only [sub,List.drop_zero,List.take_take]
     rw [Nat.min_eq_left hle]
    have hk':known (sub B.cells off (m*esize))=true:=by
     rw [<-e1]
     simp only [known,List.all_eq_true] at hk ⊢
     exact fun x hx=>hk x (by simp only [sub,List.drop_zero] at hx ⊢; exact List.mem_of_mem_take hx)
    have:=run_loadCells_sub (P:=P) hS hB hd (by omega) hk'
    refine ⟨by simp [Builtin.lenOf,S.tr], ?_,sub_length (by omega)⟩
    rw [e1]
    simpa [Builtin.firstCells,S.tr] using this
  ·cases hsh
 ·simp only [Option.some.injEq,Prod.mk.injEq] at hsh
  obtain ⟨rfl,rfl⟩:=hsh
  exact ⟨by simp [Builtin.lenOf,S.tr],by simp [Builtin.firstCells,S.tr,sub,trs],by simp⟩
 ·simp only [Option.some.injEq,Prod.mk.injEq] at hsh
  obtain ⟨rfl,rfl⟩:=hsh
  have:m=0:=by omega
  subst this
  exact ⟨by simp [Builtin.lenOf,S.tr],by simp [Builtin.firstCells,S.tr,sub,trs,loadCells,loadCellsFrom],by simp⟩
 ·cases hsh

theorem known_sub {xs:List S} {o n:Nat} (h:known xs=true):known (sub xs o n)=true:=by
 simp only [known,List.all_eq_true] at h ⊢
 exact fun x hx=>h x (List.mem_of_mem_drop (List.mem_of_mem_take hx))

theorem shows_known {ls h:List Blk} {esize:Nat} {s:S} {r:Nat×List S} (hs:shows ls h esize s=some r):s≠.u:=by
 rintro rfl; simp [shows] at hs

theorem acts_cpy {T e U:TypeId} {x y:Operand} {x' y':Opd} {i:TypeInfo} {c:Call} (ho:o.op=.call c) (hc:c.callee=.builtin .copy) (ha:c.args.toList=[x,y]) (hat:c.argTypes.toList=[T,U])
  (hu:P.underlying T=some (.slice e)) (hi:P.info? e=some i) (hx:compX x=some x') (hy:compX y=some y'):Acts P Γ o (.cpy i.size x' y'):=by
 have ha':c.args=#[x,y]:=by rw [<-ha]
 have hat':c.argTypes=#[T,U]:=by rw [<-hat]
 intro σ0 h0 w0 σ t a ls h w K next Q H hT hK hn
 simp only [iwp] at hK
 split at hK
 ·rename_i dx sy hqx hqy
  obtain ⟨_,e1⟩:=ev_is hT hx
  obtain ⟨_,e2⟩:=ev_is hT hy
  rw [hqx] at e1; rw [hqy] at e2
  split at hK
  ·rename_i n src hsh
   have hyv:=e2.eq (by simpa using shows_known hsh)
   simp only [V.tr] at hyv
   split at hK
   ·rename_i r off len cap
    have hxv:=e1.eq (by simp)
    simp only [V.tr,S.tr] at hxv
    split at hK
    ·rename_i B hB
     obtain ⟨⟨hrw,hfit,hkn,htk⟩,hK⟩:=hK
     obtain ⟨l1,_,l3⟩:=shows_run (P:=P) H.sim hsh hkn (shows_known hsh) 0 (Nat.zero_le _)
     obtain ⟨_,l2,_⟩:=shows_run (P:=P) H.sim hsh hkn (shows_known hsh) (min n len) (Nat.min_le_left _ _)
     have hmle:min n len*i.size<=n*i.size:=Nat.mul_le_mul_right _ (Nat.min_le_left _ _)
     have hmle':min n len*i.size<=len*i.size:=Nat.mul_le_mul_right _ (Nat.min_le_right _ _)
     have hsl:(sub src 0 (min n len*i.size)).length=min n len*i.size:=sub_length (by omega)
     obtain ⟨w',hr,H'⟩:=storeCells_run (P:=P) r off (sub src 0 (min n len*i.size)) 0 h ls w B H hB hrw (by omega) (known_sub hkn) htk
     simp only [Nat.add_zero] at H'
     have hT':TRel σ t a.tmps (setH h r { B with cells:=put B.cells off (sub src 0 (min n len*i.size)) }).length (setL ls r { B with cells:=put B.cells off (sub src 0 (min n len*i.size)) }).length:=by
      rw [setH_length,setL_length]; exact hT
     refine acts_of_value (w':=w') (x:=.int .i64 (min n len:Nat)) ?_ (hn σ t _ _ _ _ w' H' hT' rfl (.inr rfl) hK)
     have hr':(storeCells (adr σ r off) (trs σ (sub src 0 (min n len*i.size))).toList 0).run P w=.ok () w':=by
      simpa [trs] using hr
     have e3:Nat.min n len=min n len:=rfl
     simp [execOp,ho,resolve,hc,ha',hat',invoke,builtin,Builtin.copy_,hxv,hyv,run_underlying hu,l1,e3,sizeOf,typeInfo,hi,l2,hr',goInt]
    ·exact hK.elim
   ·have hxv:=e1.eq (by simp)
    simp only [V.tr,S.tr] at hxv
    obtain ⟨hkn,hK⟩:=hK
    obtain ⟨l1,l2,_⟩:=shows_run (P:=P) H.sim hsh hkn (shows_known hsh) 0 (Nat.zero_le _)
    refine acts_of_value (w':=w) (x:=.int .i64 0) ?_ (hn σ t _ _ _ _ w H hT rfl (.inr rfl) hK)
    have e3:Nat.min n 0=0:=Nat.min_zero n
    simp [execOp,ho,resolve,hc,ha',hat',invoke,builtin,Builtin.copy_,hxv,hyv,run_underlying hu,l1,e3,sizeOf,typeInfo,hi,l2,goInt]
   ·exact hK.elim
  ·exact hK.elim
 ·exact hK.elim

end
end Go.D

