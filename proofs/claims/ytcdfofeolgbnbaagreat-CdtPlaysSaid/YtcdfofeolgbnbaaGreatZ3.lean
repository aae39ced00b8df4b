/- Instructions that only look,all together; instructions that make and write. -/
import Derived.Test.YtcdfofeolgbnbaaGreatZ2
/- Soundness of the instructions that only look: nil tests,equality of aggregates. -/
namespace Go.D
set_option linter.all false
variable [Tabs]
section
variable {P : Program} {o : Oper}

theorem looks_eqn_ptr {q : Bool} {T U e : TypeId} {x y : Operand} {x' : Opd} (ho : o.op = .binOp (if q then .neq else .eql) T x y U)
  (hu : P.underlying T = some (.pointer e)) (hn : nilPtr y = true) (hx : compX x = some x') : Looks P o (.eqn false q x'):=by
 intro Γ σ t a ls h K hT hV hK
 obtain ⟨_,h2⟩:=ev_is hT hx
 have hy : y = .const (.pointer none):=by
  unfold nilPtr at hn
  split at hn
  ·rfl
  ·cases hn
 have hp : P.underlying T = some (.pointer (P.pointee T)):=by simp [Program.pointee,hu]
 have hyv : a.eval (.const (.pointer none)) = .pointer none:=rfl
 simp only [iwp] at hK
 split at hK
 ·rename_i s hq
  split at hK
  ·rename_i b hb
   rw [hq] at h2
   refine ⟨_,_,hK,rfl,Is.mk _,fun w _ => ?_⟩
   cases s <;> simp [isNil] at hb <;> subst hb
   all_goals
    have hv:=h2.eq (by simp)
    simp only [V.tr,S.tr] at hv
    cases q <;> simp [execOp,ho,hv,hy,hyv,V.tr,S.tr,eqGuard_at_pointer,run_eql_pointer_nil _ _ _ hp,run_neq_pointer_nil _ _ _ hp]
  ·exact hK.elim
 ·exact hK.elim

theorem equalIn_sl {T e : TypeId} (hu : P.underlying T = some (.slice e)) (w : World) (d : Nat) (b : Option Addr) (n c : Nat) :
  (Op.equalIn (d + 1) T (.slice b n c) (.slice none 0 0)).run P w = .ok b.isNone w:=by
 cases b <;> simp [Op.equalIn,run_underlying hu]
theorem run_eql_sl {T e : TypeId} (hu : P.underlying T = some (.slice e)) (w : World) (b : Option Addr) (n c : Nat) :
  (binOp .eql T (.slice b n c) (.slice none 0 0)).run P w = .ok (.bool b.isNone) w:=by
 have h:=equalIn_sl hu w 9999 b n c
 show ((Op.equalIn 10000 T (.slice b n c) (.slice none 0 0)) >>= fun r => Pure.pure (Value.bool r)).run P w = _
 rw [Sem.run_bind,h]; rfl
theorem run_neq_sl {T e : TypeId} (hu : P.underlying T = some (.slice e)) (w : World) (b : Option Addr) (n c : Nat) :
  (binOp .neq T (.slice b n c) (.slice none 0 0)).run P w = .ok (.bool (!b.isNone)) w:=by
 have h:=equalIn_sl hu w 9999 b n c
 show ((Op.equalIn 10000 T (.slice b n c) (.slice none 0 0)) >>= fun r => Pure.pure (Value.bool (!r))).run P w = _
 rw [Sem.run_bind,h]; rfl

theorem looks_eqn_sl {q : Bool} {T U e : TypeId} {x y : Operand} {x' : Opd} (ho : o.op = .binOp (if q then .neq else .eql) T x y U)
  (hu : P.underlying T = some (.slice e)) (hn : nilSl y = true) (hx : compX x = some x') : Looks P o (.eqn true q x'):=by
 intro Γ σ t a ls h K hT hV hK
 obtain ⟨_,h2⟩:=ev_is hT hx
 have hy : y = .const (.slice none 0 0):=by
  unfold nilSl at hn
  split at hn
  ·rfl
  ·cases hn
 have hyv : a.eval (.const (.slice none 0 0)) = .slice none 0 0:=rfl
 simp only [iwp] at hK
 split at hK
 ·rename_i s hq
  split at hK
  ·rename_i b hb
   rw [hq] at h2
   refine ⟨_,_,hK,rfl,Is.mk _,fun w _ => ?_⟩
   cases s <;> simp [isNil] at hb <;> subst hb
   all_goals
    have hv:=h2.eq (by simp)
    simp only [V.tr,S.tr] at hv
    cases q <;> simp [execOp,ho,hv,hy,hyv,V.tr,S.tr,eqGuard_at_slice,run_eql_sl hu,run_neq_sl hu]
  ·exact hK.elim
 ·exact hK.elim

/-! ### aggregates that are compared -/
theorem cmpS_length : ∀ {ks : List Bool} {a b : List S},cmpS ks a b = true → a.length = ks.length ∧ b.length = ks.length
 | [],[],[],_ => ⟨rfl,rfl⟩
 | k :: ks,x :: a,y :: b,h => by
  simp only [cmpS,Bool.and_eq_true] at h
  have:=cmpS_length h.2
  simp [this.1,this.2]
 | [],[],_ :: _,h => by simp [cmpS] at h
 | [],_ :: _,_,h => by simp [cmpS] at h
 | _ :: _,[],_,h => by simp [cmpS] at h
 | _ :: _,_ :: _,[],h => by simp [cmpS] at h
theorem eqS_append : ∀ (a b c d : List S),a.length = c.length → eqS (a ++ b) (c ++ d) = (eqS a c && eqS b d)
 | [],b,[],d,_ => by simp [eqS]
 | x :: a,b,y :: c,d,h => by
  simp only [List.cons_append,eqS]
  rw [eqS_append a b c d (by simpa using h),Bool.and_assoc]
 | [],_,_ :: _,_,h => by simp at h
 | _ :: _,_,[],_,h => by simp at h
theorem cmpS_append : ∀ (ks js : List Bool) (a b c d : List S),a.length = ks.length → c.length = ks.length → cmpS (ks ++ js) (a ++ b) (c ++ d) = (cmpS ks a c && cmpS js b d)
 | [],js,[],b,[],d,_,_ => by simp [cmpS]
 | k :: ks,js,x :: a,b,y :: c,d,h,h' => by
  simp only [List.cons_append,cmpS]
  rw [cmpS_append ks js a b c d (by simpa using h) (by simpa using h'),Bool.and_assoc]
 | [],_,_ :: _,_,_,_,h,_ => by simp at h
 | [],_,[],_,_ :: _,_,_,h => by simp at h
 | _ :: _,_,[],_,_,_,h,_ => by simp at h
 | _ :: _,_,_ :: _,_,[],_,_,h => by simp at h

def repr (σ : Sg) (n : Option Nat) (xs : List S) : Value :=
 match n with
 | none => (xs.headD .u).tr σ
 | some _ => .agg (trs σ xs)

theorem sub_split (xs : List S) (o n m : Nat) : sub xs o (n + m) = sub xs o n ++ sub xs (o + n) m:=by
 simp only [sub]
 rw [List.take_add,List.drop_drop]

theorem flat_shape {d : Nat} {T : TypeId} {l : List Bool} (h : flat P d T = some l) : ∃ m,shapeOf P T = some m ∧ (m = none → l.length = 1) ∧ (∀ k,m = some k → k = l.length) ∧ P.cellsOf T = l.length:=by
 cases d with
 | zero => simp [flat] at h
 | succ d =>
  unfold flat at h
  split at h
  ·rename_i i k hi hu
   split at h
   ·rename_i hs; cases h; exact ⟨none,by simp [shapeOf,hi,hu],fun _ => rfl,(fun k hk => by cases hk),by simp [Program.cellsOf,hi,hs]⟩
   ·cases h
  ·rename_i i hi hu
   split at h
   ·rename_i hs; cases h; exact ⟨none,by simp [shapeOf,hi,hu],fun _ => rfl,(fun k hk => by cases hk),by simp [Program.cellsOf,hi,hs]⟩
   ·cases h
  ·rename_i i fs hi hu
   split at h
   ·cases h
   ·split at h
    ·rename_i m hm
     split at h
     ·rename_i he; cases h; exact ⟨some i.size,by simp [shapeOf,hi,hu],(fun hk => by cases hk),(fun k hk => by cases hk; exact he),by simp [Program.cellsOf,hi,he]⟩
     ·cases h
    ·cases h
  ·rename_i i a e hi hu
   split at h
   ·rename_i m hm
    split at h
    ·rename_i he; cases h; exact ⟨some i.size,by simp [shapeOf,hi,hu],(fun hk => by cases hk),(fun k hk => by cases hk; exact he),by simp [Program.cellsOf,hi,he]⟩
    ·cases h
   ·cases h
  ·cases h

theorem run_part_flat {d : Nat} {T : TypeId} {l : List Bool} (hf : flat P d T = some l) (w : World) (σ : Sg) (xs : List S) (off : Nat) (hlen : off + l.length ≤ xs.length) :
  ∃ m,shapeOf P T = some m ∧ (part T (trs σ xs) off).run P w = .ok (repr σ m (sub xs off l.length)) w:=by
 obtain ⟨m,hm,h1,h2,_⟩:=flat_shape hf
 refine ⟨m,hm, ?_⟩
 cases m with
 | none =>
  have hl:=h1 rfl
  rw [hl] at hlen ⊢
  have hg : xs[off]? = some (xs[off]'(by omega)):=List.getElem?_eq_getElem (by omega)
  rw [run_part_none w hm σ xs off hg]
  have : sub xs off 1 = [xs[off]'(by omega)]:=by
   apply List.ext_getElem?
   intro i
   by_cases hi : i < 1
   ·rw [sub_get hi]; obtain rfl : i = 0:=by omega
    simp [hg]
   ·rw [List.getElem?_eq_none (by rw [sub_length hlen]; omega),List.getElem?_eq_none (by simp; omega)]
  simp [repr,this]
 | some k =>
  obtain rfl:=h2 k rfl
  simp [repr,run_part_some w hm σ xs off]

def EqFlat (P : Program) (d : Nat) : Prop:=∀ (T : TypeId) (l : List Bool) (m : Option Nat) (D : Nat) (w : World) (σ : Sg) (xs ys : List S),flat P d T = some l → shapeOf P T = some m → d ≤ D →
 cmpS l xs ys = true → (Op.equalIn D T (repr σ m xs) (repr σ m ys)).run P w = .ok (eqS xs ys) w

theorem eqFields_flat {d : Nat} (IH : EqFlat P d) {D : Nat} (hD : d ≤ D) (w : World) (σ : Sg) (xs ys : List S) : ∀ (fs : List Field) (o : Nat) (l : List Bool),flatFs (flat P d) fs o = some l → o + l.length ≤ xs.length → o + l.length ≤ ys.length →
  cmpS l (sub xs o l.length) (sub ys o l.length) = true → (Op.eqFields D (trs σ xs) (trs σ ys) fs).run P w = .ok (eqS (sub xs o l.length) (sub ys o l.length)) w
 | [],o,l,hf,_,_,_ => by
  simp only [flatFs,Option.some.injEq] at hf
  subst hf
  simp [Op.eqFields,sub,eqS]
 | f :: fs,o,l,hf,hx,hy,hc => by
  simp only [flatFs] at hf
  split at hf
  ·rename_i hno
   obtain ⟨hname,hoff⟩:=hno
   cases hm : flat P d f.type with
   | none => simp [hm] at hf
   | some k =>
    cases hr : flatFs (flat P d) fs (o + k.length) with
    | none => simp [hm,hr] at hf
    | some l' =>
    simp only [hm,hr,Option.some.injEq] at hf
    subst hf
    simp only [List.length_append] at hx hy hc ⊢
    rw [sub_split,sub_split] at hc ⊢
    have hl1 : (sub xs o k.length).length = k.length:=sub_length (by omega)
    have hl2 : (sub ys o k.length).length = k.length:=sub_length (by omega)
    rw [cmpS_append _ _ _ _ _ _ hl1 hl2,Bool.and_eq_true] at hc
    rw [eqS_append _ _ _ _ (by rw [hl1,hl2])]
    obtain ⟨m,hsm,p1⟩:=run_part_flat hm w σ xs o (by omega)
    obtain ⟨m',hsm',p2⟩:=run_part_flat hm w σ ys o (by omega)
    obtain rfl : m = m':=by rw [hsm] at hsm'; cases hsm'; rfl
    have p3:=IH f.type k m D w σ (sub xs o k.length) (sub ys o k.length) hm hsm hD hc.1
    have ih:=eqFields_flat IH hD w σ xs ys fs (o + k.length) l' hr (by omega) (by omega) hc.2
    subst hoff
    simp only [Op.eqFields,hname,ne_eq,not_false_eq_true,if_true,Sem.run_bind,p1,p2,p3,Result.andThen_ok]
    cases eqS (sub xs f.offset k.length) (sub ys f.offset k.length)
    ·simp
    ·simpa using ih
  ·cases hf

theorem eqItems_flat {d : Nat} (IH : EqFlat P d) {D : Nat} (hD : d ≤ D) (w : World) (σ : Sg) (xs ys : List S) {e : TypeId} {k : List Bool} (hk : flat P d e = some k) : ∀ (len i : Nat),i * k.length + (rep k len).length ≤ xs.length → i * k.length + (rep k len).length ≤ ys.length →
  cmpS (rep k len) (sub xs (i * k.length) (rep k len).length) (sub ys (i * k.length) (rep k len).length) = true →
  (Op.eqItems D e (P.cellsOf e) (trs σ xs) (trs σ ys) (List.range' i len)).run P w = .ok (eqS (sub xs (i * k.length) (rep k len).length) (sub ys (i * k.length) (rep k len).length)) w
 | 0,i,_,_,_ => by simp [Op.eqItems,sub,eqS,rep]
 | len + 1,i,hx,hy,hc => by
  obtain ⟨_,_,_,_,hcell⟩:=flat_shape hk
  simp only [rep,List.length_append] at hx hy hc ⊢
  have e2 : i * k.length + k.length = (i + 1) * k.length:=by rw [Nat.add_mul,Nat.one_mul]
  rw [sub_split,sub_split,e2] at hc ⊢
  have hl1 : (sub xs (i * k.length) k.length).length = k.length:=sub_length (by omega)
  have hl2 : (sub ys (i * k.length) k.length).length = k.length:=sub_length (by omega)
  rw [cmpS_append _ _ _ _ _ _ hl1 hl2,Bool.and_eq_true] at hc
  rw [eqS_append _ _ _ _ (by rw [hl1,hl2])]
  obtain ⟨m,hsm,p1⟩:=run_part_flat hk w σ xs (i * k.length) (by omega)
  obtain ⟨m',hsm',p2⟩:=run_part_flat hk w σ ys (i * k.length) (by omega)
  obtain rfl : m = m':=by rw [hsm] at hsm'; cases hsm'; rfl
  have p3:=IH e k m D w σ (sub xs (i * k.length) k.length) (sub ys (i * k.length) k.length) hk hsm hD hc.1
  have ih:=eqItems_flat IH hD w σ xs ys hk len (i + 1) (by omega) (by omega) hc.2
  simp only [List.range'_succ,Op.eqItems,hcell,Sem.run_bind,p1,p2,p3,Result.andThen_ok]
  rw [hcell] at ih
  cases eqS (sub xs (i * k.length) k.length) (sub ys (i * k.length) k.length)
  ·simp
  ·simpa using ih

theorem sub_all {xs : List S} {n : Nat} (h : xs.length = n) : sub xs 0 n = xs:=by
 subst h; simp [sub]

theorem eqFlat : ∀ d,EqFlat P d
 | 0 => fun T n m D w σ xs ys h => by simp [flat] at h
 | d + 1 => fun T n m D w σ xs ys h hm hD hc => by
  have IH:=eqFlat d
  obtain ⟨hx,hy⟩:=cmpS_length hc
  obtain ⟨D,rfl⟩ : ∃ D',D = D' + 1:=⟨D - 1,by omega⟩
  unfold flat at h
  split at h
  ·rename_i i k hi hu
   split at h
   ·cases h
    obtain rfl : m = none:=by simp only [shapeOf,hi,hu,Option.some.injEq] at hm; exact hm.symm
    obtain ⟨x,rfl⟩:=List.length_eq_one_iff.1 hx
    obtain ⟨y,rfl⟩:=List.length_eq_one_iff.1 hy
    simp only [cmpS,Bool.and_true] at hc
    cases x <;> cases y <;> simp only [cmp1,decide_eq_true_eq,Bool.false_eq_true] at hc
    subst hc
    simp [repr,S.tr,Op.equalIn,run_underlying hu,eqS,eq1]
   ·cases h
  ·rename_i i hi hu
   split at h
   ·cases h
    obtain rfl : m = none:=by simp only [shapeOf,hi,hu,Option.some.injEq] at hm; exact hm.symm
    obtain ⟨x,rfl⟩:=List.length_eq_one_iff.1 hx
    obtain ⟨y,rfl⟩:=List.length_eq_one_iff.1 hy
    simp only [cmpS,Bool.and_true] at hc
    cases x <;> cases y <;> simp only [cmp1,Bool.false_eq_true] at hc
    simp [repr,S.tr,Op.equalIn,run_underlying hu,eqS,eq1]
   ·cases h
  ·rename_i i fs hi hu
   split at h
   ·cases h
   ·rename_i hst
    split at h
    ·rename_i m' hm'
     split at h
     ·rename_i he
      cases h
      obtain rfl : m = some i.size:=by simp only [shapeOf,hi,hu,Option.some.injEq] at hm; exact hm.symm
      have hfo : P.fieldsOf T = fs:=by simp [Program.fieldsOf,hu]
      have:=eqFields_flat IH (D:=D) (by omega) w σ xs ys fs.toList 0 n hm' (by omega) (by omega) (by rw [sub_all hx,sub_all hy]; exact hc)
      rw [sub_all hx,sub_all hy] at this
      simp only [repr]
      rw [run_equalIn_struct w D T _ _ (by rw [hfo]; exact hu) (by simpa using hst),hfo,this]
     ·cases h
    ·cases h
  ·rename_i i a e hi hu
   split at h
   ·rename_i k hk
    split at h
    ·rename_i he
     cases h
     obtain rfl : m = some i.size:=by simp only [shapeOf,hi,hu,Option.some.injEq] at hm; exact hm.symm
     obtain ⟨me,hme,_,_,_⟩:=flat_shape hk
     have hie : ∃ ie,P.info? e = some ie:=by
      unfold shapeOf at hme; split at hme <;> first | exact ⟨_,by assumption⟩ | cases hme
     obtain ⟨ie,hie⟩:=hie
     have:=eqItems_flat IH (D:=D) (by omega) w σ xs ys hk a 0 (by omega) (by omega) (by rw [Nat.zero_mul,sub_all hx,sub_all hy]; exact hc)
     rw [Nat.zero_mul,sub_all hx,sub_all hy] at this
     simp only [repr]
     rw [run_equalIn_array w D _ _ hu hie,List.range_eq_range',this]
    ·cases h
   ·cases h
  ·cases h

theorem looks_eqa {q : Bool} {T U : TypeId} {x y : Operand} {x' y' : Opd} {l : List Bool} (ho : o.op = .binOp (if q then .neq else .eql) T x y U)
  (hs : (∃ fs,P.underlying T = some (.struct fs)) ∨ ∃ n e,P.underlying T = some (.array n e)) (hf : flat P 20 T = some l) (hg : P.eqGuardType P.depth T = false)
  (hx : compX x = some x') (hy : compX y = some y') : Looks P o (.eqa q l x' y'):=by
 intro Γ σ t a ls h K hT hV hK
 obtain ⟨_,h2⟩:=ev_is hT hx
 obtain ⟨_,y2⟩:=ev_is hT hy
 simp only [iwp] at hK
 split at hK
 ·rename_i xs ys hq hq'
  obtain ⟨hc,hK⟩:=hK
  rw [hq] at h2; rw [hq'] at y2
  have hv:=h2.eq (by simp)
  have hw:=y2.eq (by simp)
  simp only [V.tr] at hv hw
  refine ⟨_,_,hK,rfl,Is.mk _,fun w _ => ?_⟩
  have hm : ∃ k,shapeOf P T = some (some k):=by
   obtain ⟨m,hm,_,_⟩:=flat_shape hf
   cases hi : P.info? T with
   | none => simp [shapeOf,hi] at hm
   | some i => rcases hs with ⟨fs,hs⟩ | ⟨n,e,hs⟩ <;> exact ⟨i.size,by simp [shapeOf,hi,hs]⟩
  obtain ⟨k,hm⟩:=hm
  have:=eqFlat 20 T l (some k) 10000 w σ xs ys hf hm (by omega) hc
  simp only [repr] at this
  cases q
  ·simp [execOp,ho,hv,hw,V.tr,S.tr,run_eqGuard_agg w _ _ _ _ _ _ hg,run_eql_struct,this]
  ·simp [execOp,ho,hv,hw,V.tr,S.tr,run_eqGuard_agg w _ _ _ _ _ _ hg,run_neq_struct,this]
 ·exact hK.elim

end
end Go.D

/- Soundness of the instructions that only look: aggregates that are built,slices of slices; all of them together. -/
namespace Go.D
set_option linter.all false
variable [Tabs]
section
variable {P : Program} {o : Oper}

theorem plain_known {v : V} (h : v.plain = true) : known v.cells = true ∧ v ≠ .s .u:=by
 cases v with
 | s x => cases x <;> simp [V.plain,V.cells,known] at h ⊢
 | agg xs => exact ⟨h,by simp⟩
 | tup cs => simp [V.plain] at h

theorem plain_cells {v : V} (h : v.plain = true) (σ : Sg) : (v.tr σ).cells = trs σ v.cells:=by
 cases v with
 | s x => cases x <;> simp [V.plain,V.cells,V.tr,S.tr,Value.cells,trs] at h ⊢
 | agg xs => rfl
 | tup cs => simp [V.plain] at h

theorem plain_val {v : V} {n m : Nat} (h : v.plain = true) (hv : v.val n m = true) : vals n m v.cells = true:=by
 cases v with
 | s x => have hv' : x.val n m = true:=hv; simp [vals,V.cells,hv']
 | agg xs => exact hv
 | tup cs => simp [V.plain] at h

theorem vals_put {n m : Nat} : ∀ (vs xs : List S) (o : Nat),vals n m xs = true → vals n m vs = true → vals n m (put xs o vs) = true
 | [],xs,o,h,_ => h
 | v :: vs,xs,o,h,h' => by
  simp only [vals,List.all_cons,Bool.and_eq_true] at h'
  exact vals_put vs (xs.set o v) (o + 1) (vals_set h h'.1) h'.2

theorem trs_put (σ : Sg) : ∀ (vs xs : List S) (o j : Nat),(((trs σ vs).toList.zipIdx j).foldl (fun cs (x : Value × Nat) => cs.setIfInBounds (o + x.2) x.1) (trs σ xs)) = trs σ (put xs (o + j) vs)
 | [],xs,o,j => rfl
 | v :: vs,xs,o,j => by
  have h1 : (trs σ xs).setIfInBounds (o + j) (v.tr σ) = trs σ (xs.set (o + j) v):=by
   simp [trs,List.map_set]
  have:=trs_put σ vs (xs.set (o + j) v) o (j + 1)
  simp only [trs,List.map_cons,List.zipIdx_cons,List.foldl_cons] at this ⊢
  rw [put,show o + j + 1 = o + (j + 1) by omega,← this]
  congr 1

theorem fill_run {σ : Sg} {t : List V} {a : Act} {n m : Nat} (hT : TRel σ t a.tmps n m) (place place' : Nat → Option (Nat × Nat)) (hpl : ∀ i x,place i = some x → place' i = some x) : ∀ (parts : List (Nat × Operand)) (qs : List (Nat × Nat × Opd)) (z z' : List S),
  partsOf P place parts = some qs → fillP t qs z = some z' → vals n m z = true → Instr.fill place' (trs σ z) (parts.map fun x => (x.1,a.eval x.2)) = some (trs σ z') ∧ vals n m z' = true
 | [],qs,z,z',hq,hz,hv => by
  simp only [partsOf,Option.some.injEq] at hq; subst hq
  simp only [fillP,Option.some.injEq] at hz; subst hz
  exact ⟨rfl,hv⟩
 | (i,x) :: parts,qs,z,z',hq,hz,hv => by
  simp only [partsOf] at hq
  split at hq
  ·rename_i off size y l h1 h2 h3
   simp only [Option.some.injEq] at hq
   subst hq
   simp only [fillP] at hz
   split at hz
   ·rename_i hc
    simp only [Bool.and_eq_true,beq_iff_eq,decide_eq_true_eq] at hc
    obtain ⟨⟨c1,c2⟩,c3⟩:=hc
    obtain ⟨e1,e2⟩:=ev_is hT h2
    have hx:=e2.eq (plain_known c1).2
    have ih:=fill_run hT place place' hpl parts l _ z' h3 hz (vals_put _ _ _ hv (plain_val c1 e1))
    refine ⟨?_,ih.2⟩
    simp only [List.map_cons,Instr.fill,hpl i _ h1,hx,plain_cells c1 σ,trs_size]
    rw [if_neg (by simp; omega)]
    have:=trs_put σ (ev t y).cells z off 0
    rw [← ih.1]
    congr 1
    rw [← Array.foldl_toList,Array.toList_zipIdx]
    simpa using this
   ·cases hz
  ·cases hq

theorem zeroOf_run {T : TypeId} {z : List S} (h : zeroOf P T = some z) (σ : Sg) : ∃ i v,P.info? T = some i ∧ i.zero = some v ∧ v.cells = trs σ z ∧ vals 0 0 z = true ∧ known z = true ∧ z.length = i.size:=by
 unfold zeroOf at h
 split at h
 ·rename_i i hi
  split at h
  ·rename_i v hz
   split at h
   ·rename_i l hl
    split at h
    ·rename_i hs
     cases h
     have:=ofSs_tr hl σ
     exact ⟨i,v,hi,hz,by simp [trs,this.1],this.2.1,this.2.2,hs⟩
    ·cases h
   ·cases h
  ·cases h
 ·cases h

theorem looks_build_struct {T : TypeId} {parts : Array (Nat × Operand)} {fs : Array Field} {z : List S} {qs : List (Nat × Nat × Opd)} (ho : o.op = .build T parts) (hz : zeroOf P T = some z)
  (hu : P.underlying T = some (.struct fs)) (hall : allSized P fs.toList = true) (hq : partsOf P (fieldPlaces P fs.toList) parts.toList = some qs) : Looks P o (.build z qs):=by
 intro Γ σ t a ls h K hT hV hK
 simp only [iwp] at hK
 split at hK
 ·rename_i z' hz'
  obtain ⟨i,v,hi,hiz,hcells,hvz,_,_⟩:=zeroOf_run hz σ
  have hpl : ∃ places,fs.toList.mapM (fun f => (P.info? f.type).map fun i => (f.offset,i.size)) = some places ∧ ∀ j x,fieldPlaces P fs.toList j = some x → places.toArray[j]? = some x:=by
   clear hz' hK hq
   generalize fs.toList = l at hall
   induction l with
   | nil => exact ⟨[],rfl,fun j x hx => by simp [fieldPlaces] at hx⟩
   | cons f l ih =>
    simp only [allSized,List.all_cons,Bool.and_eq_true] at hall
    obtain ⟨ps,h1,h2⟩:=ih hall.2
    obtain ⟨k,hk⟩:=Option.isSome_iff_exists.1 hall.1
    refine ⟨(f.offset,k.size) :: ps,by simp [List.mapM_cons,hk,h1],fun j x hx => ?_⟩
    cases j with
    | zero => simp only [fieldPlaces,List.getElem?_cons_zero,hk,Option.map_some,Option.some.injEq] at hx; simp [hx]
    | succ j => simp only [fieldPlaces,List.getElem?_cons_succ] at hx; have:=h2 j x hx; simpa using this
  obtain ⟨places,hp1,hp2⟩:=hpl
  obtain ⟨f1,f2⟩:=fill_run hT (fieldPlaces P fs.toList) (fun j => places.toArray[j]?) hp2 parts.toList qs z z' hq hz' (vals_mono (Nat.zero_le _) (Nat.zero_le _) hvz)
  refine ⟨_,_,hK,f2,Is.mk _,fun w _ => ?_⟩
  have hb : P.built T (parts.map fun (x : Nat × Operand) => (x.1,a.eval x.2)).toList = some (trs σ z'):=by
   simp only [Program.built,hi,hu,hiz,hp1,hcells,Array.toList_map]
   exact f1
  have:=run_build w T _ _ hb
  simp [execOp,ho,this,V.tr]
 ·exact hK.elim

theorem looks_build_array {T e : TypeId} {n : Nat} {parts : Array (Nat × Operand)} {i : TypeInfo} {z : List S} {qs : List (Nat × Nat × Opd)} (ho : o.op = .build T parts) (hz : zeroOf P T = some z)
  (hu : P.underlying T = some (.array n e)) (hi : P.info? e = some i) (hq : partsOf P (fun j => some (j * i.size,i.size)) parts.toList = some qs) : Looks P o (.build z qs):=by
 intro Γ σ t a ls h K hT hV hK
 simp only [iwp] at hK
 split at hK
 ·rename_i z' hz'
  obtain ⟨k,v,hk,hiz,hcells,hvz,_,_⟩:=zeroOf_run hz σ
  obtain ⟨f1,f2⟩:=fill_run hT _ (fun j => some (j * i.size,i.size)) (fun _ _ h => h) parts.toList qs z z' hq hz' (vals_mono (Nat.zero_le _) (Nat.zero_le _) hvz)
  refine ⟨_,_,hK,f2,Is.mk _,fun w _ => ?_⟩
  have hb : P.built T (parts.map fun (x : Nat × Operand) => (x.1,a.eval x.2)).toList = some (trs σ z'):=by
   simp only [Program.built,hk,hu,hiz,hi,hcells,Array.toList_map]
   exact f1
  have:=run_build w T _ _ hb
  simp [execOp,ho,this,V.tr]
 ·exact hK.elim

theorem bnd_run {σ : Sg} {t : List V} {a : Act} {n m : Nat} (hT : TRel σ t a.tmps n m) {x : Option Operand} {y : Option Opd} (hx : compB x = some y) {d : Int} {l : Int} (hl : bnd d t y = some l) :
  (x = none ∧ l = d) ∨ ∃ z k,x = some z ∧ a.eval z = .int k l:=by
 cases x with
 | none => simp only [compB,Option.some.injEq] at hx; subst hx; simp only [bnd,Option.some.injEq] at hl; exact .inl ⟨rfl,hl.symm⟩
 | some z =>
  simp only [compB] at hx
  cases h1 : compX z with
  | none => simp [h1] at hx
  | some z' =>
   simp only [h1,Option.map_some,Option.some.injEq] at hx
   subst hx
   simp only [bnd] at hl
   obtain ⟨_,h2⟩:=ev_is hT h1
   split at hl
   ·rename_i k n hq
    cases hl
    rw [hq] at h2
    exact .inr ⟨z,k,rfl,h2.eq (by simp)⟩
   ·cases hl

theorem sliceBounds_run (w : World) (isSl : Bool) (len cap : Nat) (lo hi : Option Value) {l u : Int} (hl : (lo = none ∧ l = 0) ∨ ∃ k,lo = some (.int k l)) (hu : (hi = none ∧ u = len) ∨ ∃ k,hi = some (.int k u))
  (h0 : 0 ≤ l) (h1 : l ≤ u) (h2 : u ≤ cap) : (Instr.sliceBounds isSl len cap lo hi none).run P w = .ok (l.toNat,u.toNat,cap) w:=by
 have e1 : ((u.toNat : Nat) : Int) = u:=Int.toNat_of_nonneg (by omega)
 rcases hu with ⟨rfl,rfl⟩ | ⟨k,rfl⟩
 ·rcases hl with ⟨rfl,rfl⟩ | ⟨k',rfl⟩
  ·simp [Instr.sliceBounds]
  ·simp [Instr.sliceBounds,Instr.sliceBound,asIntOf,h0,h1]
 ·rcases hl with ⟨rfl,rfl⟩ | ⟨k',rfl⟩
  ·simp [Instr.sliceBounds,Instr.sliceBound,asIntOf,h2,h1]
  ·simp [Instr.sliceBounds,Instr.sliceBound,asIntOf,h0,h2,e1,h1,(by omega : 0 ≤ u)]

theorem slice_addr (σ : Sg) (r : R) (off cap l k : Nat) : (if cap = l then adr σ r off else (adr σ r off).add (l * k)) = adr σ r (if cap = l then off else off + l * k):=by
 split
 ·rfl
 ·rw [adr_add]

theorem looks_slc {T e : TypeId} {x : Operand} {x' : Opd} {lo hi : Option Operand} {lo' hi' : Option Opd} {arr : Option Nat} {k : TypeInfo} (ho : o.op = .slice T x lo hi none)
  (hu : match arr with | some n => P.underlying T = some (.array n e) | none => P.underlying T = some (.slice e)) (hk : P.info? e = some k)
  (hx : compX x = some x') (hlo : compB lo = some lo') (hhi : compB hi = some hi') : Looks P o (.slc arr k.size x' lo' hi'):=by
 intro Γ σ t a ls h K hT hV hK
 obtain ⟨h1,h2⟩:=ev_is hT hx
 simp only [iwp] at hK
 split at hK
 ·rename_i n r off hq
  split at hK
  ·rename_i l u hl hh
   obtain ⟨⟨g0,g1,g2⟩,hK⟩:=hK
   rw [hq] at h1 h2
   have hv:=h2.eq (by simp)
   simp only [V.tr,S.tr] at hv
   have hL:=bnd_run hT hlo hl
   have hU:=bnd_run hT hhi hh
   refine ⟨_,_,hK,h1,Is.mk _,fun w _ => ?_⟩
   have hb:=sliceBounds_run (P:=P) w false n n (lo.map a.eval) (hi.map a.eval) (l:=l) (u:=u)
    (by rcases hL with ⟨rfl,h⟩ | ⟨z,k',rfl,h⟩; exact .inl ⟨rfl,h⟩; exact .inr ⟨k',by simp [h]⟩)
    (by rcases hU with ⟨rfl,h⟩ | ⟨z,k',rfl,h⟩; exact .inl ⟨rfl,h⟩; exact .inr ⟨k',by simp [h]⟩) g0 g1 g2
   simp only at hu
   simp only [execOp,ho,hv,Instr.sliceAt,Sem.run_bind,run_underlying hu,Result.andThen_ok,Instr.sureAddr,Sem.run_pure,Option.map_none,hb,sizeOf,typeInfo,run_program,hk,slice_addr,V.tr,S.tr]
  ·exact hK.elim
 ·rename_i r off n c hq
  split at hK
  ·rename_i l u hl hh
   obtain ⟨⟨g0,g1,g2⟩,hK⟩:=hK
   rw [hq] at h1 h2
   have hv:=h2.eq (by simp)
   simp only [V.tr,S.tr] at hv
   have hL:=bnd_run hT hlo hl
   have hU:=bnd_run hT hhi hh
   refine ⟨_,_,hK,h1,Is.mk _,fun w _ => ?_⟩
   have hb:=sliceBounds_run (P:=P) w true n c (lo.map a.eval) (hi.map a.eval) (l:=l) (u:=u)
    (by rcases hL with ⟨rfl,h⟩ | ⟨z,k',rfl,h⟩; exact .inl ⟨rfl,h⟩; exact .inr ⟨k',by simp [h]⟩)
    (by rcases hU with ⟨rfl,h⟩ | ⟨z,k',rfl,h⟩; exact .inl ⟨rfl,h⟩; exact .inr ⟨k',by simp [h]⟩) g0 g1 g2
   simp only at hu
   have hsa : (if c = l.toNat then some (adr σ r off) else (some (adr σ r off)).map (·.add (l.toNat * k.size))) = some (adr σ r (if c = l.toNat then off else off + l.toNat * k.size)):=by
    rw [← slice_addr]; split <;> rfl
   simp only [execOp,ho,hv,Instr.sliceAt,Instr.slice,Sem.run_bind,run_underlying hu,Result.andThen_ok,Sem.run_pure,Option.map_none,hb,sizeOf,typeInfo,run_program,hk,hsa,V.tr,S.tr]
  ·exact hK.elim
 ·rename_i hq
  split at hK
  ·rename_i l u hl hh
   obtain ⟨⟨rfl,rfl⟩,hK⟩:=hK
   rw [hq] at h1 h2
   have hv:=h2.eq (by simp)
   simp only [V.tr,S.tr] at hv
   have hL:=bnd_run hT hlo hl
   have hU:=bnd_run hT hhi hh
   refine ⟨_,_,hK,h1,Is.mk _,fun w _ => ?_⟩
   have hb:=sliceBounds_run (P:=P) w true 0 0 (lo.map a.eval) (hi.map a.eval) (l:=0) (u:=0)
    (by rcases hL with ⟨rfl,h⟩ | ⟨z,k',rfl,h⟩; exact .inl ⟨rfl,h⟩; exact .inr ⟨k',by simp [h]⟩)
    (by rcases hU with ⟨rfl,h⟩ | ⟨z,k',rfl,h⟩; exact .inl ⟨rfl,h⟩; exact .inr ⟨k',by simp [h]⟩) (by omega) (by omega) (by omega)
   simp only at hu
   simp only [execOp,ho,hv,Instr.sliceAt,Instr.slice,Sem.run_bind,run_underlying hu,Result.andThen_ok,Sem.run_pure,Option.map_none,hb,sizeOf,typeInfo,run_program,hk,V.tr,S.tr]
   rfl
  ·exact hK.elim
 ·exact hK.elim

end
end Go.D

/- Instructions that only look,all together; instructions that make and write. -/
namespace Go.D
set_option linter.all false
variable [Tabs]

section
variable {P : Program} {o : Oper}

theorem looks_all {op : I} (hc : compI P o = some op) (hs : op.still = true) : Looks P o op:=by
 unfold compI at hc
 split at hc
 ·rename_i x ho
  cases hx : compX x with
  | none => simp [hx] at hc
  | some y => simp only [hx,Option.map_some,Option.some.injEq] at hc; subst hc; exact looks_mv (.inl ho) hx
 ·rename_i x ho
  cases hx : compX x with
  | none => simp [hx] at hc
  | some y => simp only [hx,Option.map_some,Option.some.injEq] at hc; subst hc; exact looks_mv (.inr ho) hx
 ·rename_i c x y ho
  split at hc
  ·rename_i c' x' y' h1 h2 h3; cases hc; exact looks_pick ho h1 h2 h3
  ·cases hc
 ·rename_i T ho
  cases hz : zeroOf P T with
  | none => simp [hz] at hc
  | some z => simp only [hz,Option.map_some,Option.some.injEq] at hc; subst hc; cases hs
 ·rename_i T x ho
  cases hx : compX x with
  | none => simp [hx] at hc
  | some y => simp only [hx,Option.map_some,Option.some.injEq] at hc; subst hc; cases hs
 ·rename_i T parts ho
  split at hc
  ·rename_i z fs hz hu
   split at hc
   ·rename_i hall
    cases hq : partsOf P (fieldPlaces P fs.toList) parts.toList with
    | none => simp [hq] at hc
    | some qs => simp only [hq,Option.map_some,Option.some.injEq] at hc; subst hc; exact looks_build_struct ho hz hu hall hq
   ·cases hc
  ·rename_i z n e hz hu
   split at hc
   ·rename_i i hi
    cases hq : partsOf P (fun j => some (j * i.size,i.size)) parts.toList with
    | none => simp [hq] at hc
    | some qs => simp only [hq,Option.map_some,Option.some.injEq] at hc; subst hc; exact looks_build_array ho hz hu hi hq
   ·cases hc
  ·cases hc
 ·rename_i T n parts ho
  split at hc
  ·rename_i e hu
   split at hc
   ·rename_i i z hi hz
    split at hc
    ·cases hq : partsOf P (fun j => some (j * i.size,i.size)) parts.toList with
     | none => simp [hq] at hc
     | some qs => simp only [hq,Option.map_some,Option.some.injEq] at hc; subst hc; cases hs
    ·cases hc
   ·cases hc
  ·cases hc
 ·rename_i T x ho
  split at hc
  ·rename_i y n hx hn; cases hc; exact looks_ld ho hn hx
  ·cases hc
 ·rename_i T x y ho
  split at hc
  ·cases hc; cases hs
  ·cases hc
 ·rename_i x ho
  cases hx : compX x with
  | none => simp [hx] at hc
  | some y => simp only [hx,Option.map_some,Option.some.injEq] at hc; subst hc; exact looks_nil ho hx
 ·rename_i b T x y U ho
  split at hc
  ·rename_i x' y' hx hy
   split at hc
   ·split at hc
    ·rename_i fs hu
     split at hc
     ·rename_i l hl
      split at hc
      ·cases hc
      ·rename_i hg; cases hc; exact looks_eqa (q:=false) ho (.inl ⟨_,hu⟩) hl (by simpa using hg) hx hy
     ·cases hc
    ·rename_i n e hu
     split at hc
     ·rename_i l hl
      split at hc
      ·cases hc
      ·rename_i hg; cases hc; exact looks_eqa (q:=false) ho (.inr ⟨_,_,hu⟩) hl (by simpa using hg) hx hy
     ·cases hc
    ·rename_i e hu
     split at hc
     ·rename_i hn; cases hc; exact looks_eqn_ptr (q:=false) ho hu hn hx
     ·cases hc
    ·rename_i e hu
     split at hc
     ·rename_i hn; cases hc; exact looks_eqn_sl (q:=false) ho hu hn hx
     ·cases hc
    ·rename_i hu; cases hc; exact looks_eqb (q:=false) ho hu hx hy
    ·cases hc; exact looks_bin ho hx hy
    ·cases hc
   ·split at hc
    ·rename_i fs hu
     split at hc
     ·rename_i l hl
      split at hc
      ·cases hc
      ·rename_i hg; cases hc; exact looks_eqa (q:=true) ho (.inl ⟨_,hu⟩) hl (by simpa using hg) hx hy
     ·cases hc
    ·rename_i n e hu
     split at hc
     ·rename_i l hl
      split at hc
      ·cases hc
      ·rename_i hg; cases hc; exact looks_eqa (q:=true) ho (.inr ⟨_,_,hu⟩) hl (by simpa using hg) hx hy
     ·cases hc
    ·rename_i e hu
     split at hc
     ·rename_i hn; cases hc; exact looks_eqn_ptr (q:=true) ho hu hn hx
     ·cases hc
    ·rename_i e hu
     split at hc
     ·rename_i hn; cases hc; exact looks_eqn_sl (q:=true) ho hu hn hx
     ·cases hc
    ·rename_i hu; cases hc; exact looks_eqb (q:=true) ho hu hx hy
    ·cases hc; exact looks_bin ho hx hy
    ·cases hc
   ·cases hc; exact looks_bin ho hx hy
  ·cases hc
 ·rename_i u T x ho
  cases hx : compX x with
  | none => simp [hx] at hc
  | some y => simp only [hx,Option.map_some,Option.some.injEq] at hc; subst hc; exact looks_un ho hx
 ·rename_i src dst x ho
  split at hc
  ·rename_i d k y h1 h2 h3; cases hc; exact looks_conv ho h1 h2 h3
  ·cases hc
 ·rename_i f first caps ho
  split at hc
  ·rename_i hf
   cases hx : compXs caps.toList with
   | none => simp [hx] at hc
   | some ys => simp only [hx,Option.map_some,Option.some.injEq] at hc; subst hc; exact looks_mkf ho hf hx
  ·cases hc
 ·rename_i T n c ho
  split at hc
  ·split at hc
   ·split at hc
    ·cases hc
    ·cases hc; cases hs
   ·cases hc
  ·cases hc
 ·rename_i T x lo hi mx ho
  split at hc
  ·cases hc
  ·split at hc
   ·rename_i x' lo' hi' h1 h2 h3
    split at hc
    ·rename_i e hu
     cases hk : P.info? e with
     | none => simp [hk] at hc
     | some k => simp only [hk,Option.map_some,Option.some.injEq] at hc; subst hc; exact looks_slc (arr:=none) ho hu hk h1 h2 h3
    ·rename_i n e hu
     cases hk : P.info? e with
     | none => simp [hk] at hc
     | some k => simp only [hk,Option.map_some,Option.some.injEq] at hc; subst hc; exact looks_slc (arr:=some n) ho hu hk h1 h2 h3
    ·cases hc
   ·cases hc
 ·rename_i T x f ho
  split at hc
  ·rename_i fs y hu hx
   split at hc
   ·rename_i fl hf
    split at hc
    ·rename_i i hi
     split at hc
     ·cases hc
     ·rename_i hsz; cases hc; exact looks_fa ho hu hf hi hsz hx
    ·cases hc
   ·cases hc
  ·cases hc
 ·rename_i T x f ho
  split at hc
  ·rename_i fs y hu hx
   split at hc
   ·rename_i fl hf
    cases hn : shapeOf P fl.type with
    | none => simp [hn] at hc
    | some n => simp only [hn,Option.map_some,Option.some.injEq] at hc; subst hc; exact looks_fld ho hu hf hn hx
   ·cases hc
  ·cases hc
 ·rename_i T x i ho
  split at hc
  ·rename_i n e x' i' hu hx hi
   cases hk : P.info? e with
   | none => simp [hk] at hc
   | some k => simp only [hk,Option.map_some,Option.some.injEq] at hc; subst hc; exact looks_ia (arr:=some n) ho hu hk hx hi
  ·rename_i e x' i' hu hx hi
   cases hk : P.info? e with
   | none => simp [hk] at hc
   | some k => simp only [hk,Option.map_some,Option.some.injEq] at hc; subst hc; exact looks_ia (arr:=none) ho hu hk hx hi
  ·cases hc
 ·rename_i T x i ho
  split at hc
  ·rename_i n e x' i' hu hx hi
   split at hc
   ·rename_i k m hk hm; cases hc; exact looks_ix ho hu hk hm hx hi
   ·cases hc
  ·cases hc
 ·rename_i x j ho
  cases hx : compX x with
  | none => simp [hx] at hc
  | some y => simp only [hx,Option.map_some,Option.some.injEq] at hc; subst hc; exact looks_ext ho hx
 ·rename_i c ho
  split at hc
  ·split at hc
   ·split at hc
    ·cases hx : compXs c.args.toList with
     | none => simp [hx] at hc
     | some ys => simp only [hx,Option.map_some,Option.some.injEq] at hc; subst hc; cases hs
    ·cases hc
   ·cases hc
  ·cases hx : compXs c.args.toList with
   | none => simp [hx] at hc
   | some ys => simp only [hx,Option.map_some,Option.some.injEq] at hc; subst hc; cases hs
  ·rename_i hcal
   split at hc
   ·rename_i x T ha hat
    split at hc
    ·rename_i e hu
     cases hx : compX x with
     | none => simp [hx] at hc
     | some y => simp only [hx,Option.map_some,Option.some.injEq] at hc; subst hc; exact looks_len ho hcal ha hat hu hx
    ·cases hc
   ·cases hc
  ·split at hc
   ·split at hc
    ·split at hc
     ·split at hc
      ·cases hc
      ·cases hc; cases hs
     ·cases hc
    ·cases hc
   ·cases hc
  ·split at hc
   ·split at hc
    ·split at hc
     ·cases hc; cases hs
     ·cases hc
    ·cases hc
   ·cases hc
  ·rename_i hcal
   split at hc
   ·rename_i x y ha
    split at hc
    ·rename_i x' y' hx hy; cases hc; exact looks_mx (q:=false) ho hcal ha hx hy
    ·cases hc
   ·cases hc
  ·rename_i hcal
   split at hc
   ·rename_i x y ha
    split at hc
    ·rename_i x' y' hx hy; cases hc; exact looks_mx (q:=true) ho hcal ha hx hy
    ·cases hc
   ·cases hc
  ·cases hc
 ·cases hc

end
end Go.D

