/- Law 11: the arguments of its statements. -/
import Derived.Test.YtcdfofeolgbnbaaGreatZ12
import Derived.Deep.Slices
import Derived.ChangeSame
import Derived.ReadAgain
import Derived.RowKit3
import Derived.OpenShut
import Derived.SizedLaws
import Derived.JoinedCond
import Derived.KernelRfl
import Derived.Test.YtcdfofeolgbnbaaGreatRows
import Derived.Test.YtcdfofeolgbnbaaGreatZ15
import Derived.Test.YtcdfofeolgbnbaaGreatZ20
import Derived.Test.YtcdfofeolgbnbaaGreatZ30
import Derived.Test.YtcdfofeolgbnbaaGreatZ33
import Derived.Test.YtcdfofeolgbnbaaGreatZ35
/- The arguments of a statement: what is read of them becomes values over read-only blocks; behind the call they read as before. -/
namespace Go.D
set_option linter.all false
variable [Tabs]

inductive TY where
 | int (k : IntKind)
 | bool
 | slice (e : List TY)

mutual
def hasT (h : List Blk) : TY → S → Prop
 | .int k,s => ∃ n,s = .i k n ∧ (Lit.int k n).wf = true
 | .bool,s => ∃ b,s = .b b
 | .slice e,s => s = .ns ∨ (∃ a c,s = .es a c) ∨ ∃ (j n c : Nat) (E : List (List S)) (st : BK) (room : Nat),s = .sl (.g j) 0 n c ∧ n ≤ c ∧ n ≤ 140737488355328 ∧ h[j]? = some ⟨st,E.flatten,room⟩ ∧ E.length = n ∧ (n ≠ 0 → st = .ro) ∧ st ≠ .rw ∧ ∀ x,x ∈ E → hasTs h e x
def hasTs (h : List Blk) : List TY → List S → Prop
 | [],[] => True
 | t :: ts,s :: ss => hasT h t s ∧ hasTs h ts ss
 | _,_ => False
end

structure RO (σ : Sg) (h : List Blk) (w : World) : Prop where
 ok : ∀ k B,h[k]? = some B → B.st ≠ .rw ∧ OkBlk σ w (.g k) B
 val : ∀ B,B ∈ h → vals h.length 0 B.cells = true

theorem RO.sim {σ : Sg} {h : List Blk} {w : World} (H : RO σ h w) : Sim σ h [] w:=by
 refine ⟨fun r B hb => ?_,fun r r' B B' hb hb' hne hst hd => ?_,H.val,fun B hB => by cases hB⟩
 ·cases r with
  | g k => exact (H.ok k B hb).2
  | l k => simp [blk] at hb
 ·cases r with
  | g k => exact absurd hst (H.ok k B hb).1
  | l k => simp [blk] at hb

mutual
theorem hasT_mono {h h' : List Blk} : ∀ {t : TY} {s : S},hasT h t s → hasT (h ++ h') t s
 | .int k,s,hs => hs
 | .bool,s,hs => hs
 | .slice e,s,hs => by
  rcases hs with hs | hs | ⟨j,n,c,E,st,room,h1,h2,h3,h4,h5,h6,h7,h8⟩
  ·exact .inl hs
  ·exact .inr (.inl hs)
  ·exact .inr (.inr ⟨j,n,c,E,st,room,h1,h2,h3,by rw [List.getElem?_append_left (List.getElem?_eq_some_iff.1 h4).1]; exact h4,h5,h6,h7,fun x hx => hasTs_mono (h8 x hx)⟩)
theorem hasTs_mono {h h' : List Blk} : ∀ {ts : List TY} {ss : List S},hasTs h ts ss → hasTs (h ++ h') ts ss
 | [],[],_ => trivial
 | t :: ts,s :: ss,hs => ⟨hasT_mono hs.1,hasTs_mono hs.2⟩
 | [],_ :: _,hs => hs.elim
 | _ :: _,[],hs => hs.elim
end

/-! ### types,flattened -/
def tyFields (P : Program) (r : TypeId → Option (List TY)) : List Field → Nat → Option (List TY)
 | [],_ => some []
 | f :: fs,off => match r f.type,tyFields P r fs (off + P.cellsOf f.type) with
  | some l,some q => if f.offset = off ∧ l.length = P.cellsOf f.type then some (l ++ q) else none
  | _,_ => none

def tyOf (P : Program) : Nat → TypeId → Option (List TY)
 | 0,_ => none
 | d + 1,t => match P.underlying t with
  | some (.int k) => some [.int k]
  | some .bool => some [.bool]
  | some (.slice e) => match tyOf P d e with
   | some l => if l.length = P.cellsOf e ∧ 0 < l.length ∧ 0 < P.bytesOf e then some [.slice l] else none
   | none => none
  | some (.struct fs) => match tyFields P (tyOf P d) fs.toList 0 with
   | some l => if l.length = P.cellsOf t then some l else none
   | none => none
  | some (.array n e) => match tyOf P d e with
   | some l => if l.length = P.cellsOf e ∧ P.cellsOf t = n * P.cellsOf e then some (List.replicate n l).flatten else none
   | none => none
  | _ => none

section
variable {H : Type} {enc : TypeId × Value → H} {P : Program} {w : World}

def Opens (w : World) (cs : List Value) (tys : List TY) : Prop :=
 ∀ (σ : Sg) (h : List Blk),RO σ h w → ∃ (h' : List Blk) (σ' : Sg) (ss : List S),(∀ k,k < h.length → σ' (.g k) = σ (.g k)) ∧ RO σ' (h ++ h') w ∧ hasTs (h ++ h') tys ss ∧ ss.map (S.tr σ') = cs ∧ vals (h ++ h').length 0 ss = true ∧ known ss = true

theorem hasTs_append {h : List Blk} : ∀ {t1 t2 : List TY} {s1 s2 : List S},hasTs h t1 s1 → hasTs h t2 s2 → hasTs h (t1 ++ t2) (s1 ++ s2)
 | [],_,[],_,_,h2 => h2
 | _ :: _,_,_ :: _,_,h1,h2 => ⟨h1.1,hasTs_append h1.2 h2⟩
 | [],_,_ :: _,_,h1,_ => h1.elim
 | _ :: _,_,[],_,h1,_ => h1.elim

theorem hasTs_length {h : List Blk} : ∀ {ts : List TY} {ss : List S},hasTs h ts ss → ss.length = ts.length
 | [],[],_ => rfl
 | _ :: _,_ :: _,h1 => by simp [hasTs_length h1.2]
 | [],_ :: _,h1 => h1.elim
 | _ :: _,[],h1 => h1.elim

theorem trs_old {σ σ' : Sg} {n : Nat} (hA : ∀ k,k < n → σ' (.g k) = σ (.g k)) {ss : List S} (hv : vals n 0 ss = true) : ss.map (S.tr σ') = ss.map (S.tr σ):=by
 simp only [vals,List.all_eq_true] at hv
 refine List.map_congr_left fun s hs => S.tr_congr (n:=n) (m:=0) (fun r hr => ?_) s (hv s hs)
 cases r with
 | g k => exact hA k (by simpa [R.val] using hr)
 | l k => simp [R.val] at hr

theorem Opens.nil : Opens w [] []:=fun σ h H => ⟨[], σ,[],fun _ _ => rfl,by simpa using H,trivial,rfl,rfl,rfl⟩

theorem Opens.append {c1 c2 : List Value} {t1 t2 : List TY} (h1 : Opens w c1 t1) (h2 : Opens w c2 t2) : Opens w (c1 ++ c2) (t1 ++ t2):=fun σ h H => by
 obtain ⟨ha, σa,sa,a1,a2,a3,a4,a5,a6⟩:=h1 σ h H
 obtain ⟨hb, σb,sb,b1,b2,b3,b4,b5,b6⟩:=h2 σa (h ++ ha) a2
 refine ⟨ha ++ hb, σb,sa ++ sb,fun k hk => ?_,by rw [← List.append_assoc]; exact b2, ?_, ?_, ?_, ?_⟩
 ·rw [b1 k (by simp; omega),a1 k hk]
 ·rw [← List.append_assoc]; exact hasTs_append (hasTs_mono a3) b3
 ·rw [List.map_append,b4,trs_old b1 a5,a4]
 ·rw [← List.append_assoc]
  simp only [vals,List.all_append,Bool.and_eq_true]
  exact ⟨vals_mono (by simp) (Nat.le_refl _) a5,b5⟩
 ·simp only [known,List.all_append,Bool.and_eq_true]
  exact ⟨a6,b6⟩

theorem Opens.one {v : Value} {t : TY} (h : ∀ σ : Sg,∀ h : List Blk,∃ s : S,hasT h t s ∧ s.tr σ = v ∧ s.val 0 0 = true ∧ V.known (.s s) = true) : Opens w [v] [t]:=fun σ h0 H => by
 obtain ⟨s,e1,e2,e3,e4⟩:=h σ h0
 refine ⟨[], σ,[s],fun _ _ => rfl,by simpa using H,⟨by simpa using e1,trivial⟩,by simp [e2], ?_, ?_⟩
 ·simp only [vals,List.all_cons,List.all_nil,Bool.and_true]
  exact S.val_mono (Nat.zero_le _) (Nat.zero_le _) e3
 ·rw [known_cons,e4]; rfl

theorem Opens.list {l : List TY} (C : Nat → List Value) : ∀ m : Nat,(∀ i,i < m → Opens w (C i) l) → ∀ (σ : Sg) (h : List Blk),RO σ h w → ∃ (h' : List Blk) (σ' : Sg) (E : List (List S)),(∀ k,k < h.length → σ' (.g k) = σ (.g k)) ∧ RO σ' (h ++ h') w ∧ E.length = m ∧
   (∀ x,x ∈ E → hasTs (h ++ h') l x) ∧ E.flatten.map (S.tr σ') = ((List.range m).map C).flatten ∧ vals (h ++ h').length 0 E.flatten = true ∧ known E.flatten = true
 | 0,_, σ,h,H => ⟨[], σ,[],fun _ _ => rfl,by simpa using H,rfl,fun x hx => absurd hx List.not_mem_nil,rfl,rfl,rfl⟩
 | m + 1,hC, σ,h,H => by
  obtain ⟨ha, σa,E,a1,a2,a3,a4,a5,a6,a7⟩:=Opens.list C m (fun i hi => hC i (by omega)) σ h H
  obtain ⟨hb, σb,sb,b1,b2,b3,b4,b5,b6⟩:=hC m (by omega) σa (h ++ ha) a2
  refine ⟨ha ++ hb, σb,E ++ [sb],fun k hk => ?_,by rw [← List.append_assoc]; exact b2,by simp [a3],fun x hx => ?_, ?_, ?_, ?_⟩
  ·rw [b1 k (by simp; omega),a1 k hk]
  ·rw [← List.append_assoc]
   rcases List.mem_append.1 hx with h1 | h1
   ·exact hasTs_mono (a4 x h1)
   ·simp only [List.mem_singleton] at h1; subst h1; exact b3
  ·rw [List.flatten_append,List.map_append,trs_old b1 a6,a5,List.range_succ,List.map_append,List.flatten_append]
   simp [b4]
  ·rw [← List.append_assoc,List.flatten_append,show [sb].flatten = sb by simp]
   simp only [vals,List.all_append,Bool.and_eq_true]
   exact ⟨vals_mono (by simp) (Nat.le_refl _) a6,b5⟩
  ·rw [List.flatten_append,show [sb].flatten = sb by simp]
   simp only [known,List.all_append,Bool.and_eq_true]
   exact ⟨a7,b6⟩

theorem Opens.slice {l : List TY} {a : Addr} {len cap k : Nat} (ha : a.spot = none) (hk : l.length = k) (hlc : len ≤ cap) (hcm : len ≤ 140737488355328) (C : Nat → List Value) (hC : ∀ i,i < len → Opens w (C i) l)
  (hcell : ∀ i j,i < len → j < k → ∃ v,(C i)[j]? = some v ∧ w.cell? (a.add (i * k + j)) = some v) (hlen : ∀ i,i < len → (C i).length = k) (hsz : len ≠ 0 → a.block < w.heap.size) : Opens w [.slice (some a) len cap] [.slice l]:=fun σ h H => by
 obtain ⟨ha', σa,E,a1,a2,a3,a4,a5,a6,a7⟩:=Opens.list C len hC σ h H
 let n:=(h ++ ha').length
 let σ' : Sg:=fun r => if r = .g n then (a.block,a.off) else σa r
 have hσ : ∀ k,k < n → σ' (.g k) = σa (.g k):=fun k hk => by
  show (if R.g k = .g n then _ else _) = _
  rw [if_neg (by intro e; cases e; omega)]
 have hσn : σ' (.g n) = (a.block,a.off):=by
  show (if R.g n = .g n then _ else _) = _
  rw [if_pos rfl]
 have hEl : ∀ x,x ∈ E → x.length = k:=fun x hx => by rw [hasTs_length (a4 x hx),hk]
 have hEt : E.flatten.map (S.tr σ') = ((List.range len).map C).flatten:=by rw [trs_old hσ a6,a5]
 have hflat : ∀ (m : Nat) (q : Nat) (v : Value),m ≤ len → (((List.range m).map C).flatten)[q]? = some v → w.cell? (a.add q) = some v ∧ q < m * k:=by
  intro m
  induction m with
  | zero => intro q v _ h; simp at h
  | succ m ih =>
   intro q v hm hq
   have hl : (((List.range m).map C).flatten).length = m * k:=by
    have : ∀ m',m' ≤ len → (((List.range m').map C).flatten).length = m' * k:=by
     intro m'
     induction m' with
     | zero => intro _; simp
     | succ m' ih' => intro hm'; rw [List.range_succ,List.map_append,List.flatten_append,List.length_append,ih' (by omega)]; simp [hlen m' (by omega),Nat.succ_mul]
    exact this m (by omega)
   rw [List.range_succ,List.map_append,List.flatten_append] at hq
   by_cases hlt : q < m * k
   ·rw [List.getElem?_append_left (by omega)] at hq
    obtain ⟨h1,h2⟩:=ih q v (by omega) hq
    exact ⟨h1,by rw [Nat.succ_mul]; omega⟩
   ·rw [List.getElem?_append_right (by omega),hl] at hq
    simp only [List.map_cons,List.map_nil,List.flatten_cons,List.flatten_nil,List.append_nil] at hq
    have hj : q - m * k < k:=by
     have:=(List.getElem?_eq_some_iff.1 hq).1
     rw [hlen m (by omega)] at this; exact this
    obtain ⟨v',h1,h2⟩:=hcell m (q - m * k) (by omega) hj
    rw [hq] at h1
    cases h1
    have e : m * k + (q - m * k) = q:=by omega
    rw [e] at h2
    exact ⟨h2,by rw [Nat.succ_mul]; omega⟩
 let B : Blk:=⟨if len = 0 then .dead else .ro,E.flatten,0⟩
 have hBst : B.st ≠ .rw:=by
  show (if len = 0 then BK.dead else .ro) ≠ .rw
  split <;> simp
 have hn1 : (h ++ (ha' ++ [B])).length = n + 1:=by simp only [n,List.length_append,List.length_cons,List.length_nil]; omega
 refine ⟨ha' ++ [B], σ',[.sl (.g n) 0 len cap],fun k hk => ?_,⟨fun k B' hB => ?_,fun B' hB => ?_⟩,⟨.inr (.inr ⟨n,len,cap,E,_,0,rfl,hlc,hcm, ?_,a3,fun h0 => if_neg h0,hBst,fun x hx => ?_⟩),trivial⟩, ?_, ?_,rfl⟩
 ·rw [hσ k (by show k < (h ++ ha').length; simp; omega),a1 k hk]
 ·rw [← List.append_assoc] at hB
  by_cases hk : k < n
  ·rw [List.getElem?_append_left hk] at hB
   obtain ⟨c1,c2⟩:=a2.ok k B' hB
   refine ⟨c1,c2.move (n:=n) (m:=0) (hσ k hk) (fun r hr => ?_) (a2.val B' (List.mem_of_getElem? hB)) (Nat.le_refl _) (fun _ => rfl)⟩
   cases r with
   | g i => exact hσ i (by simpa [R.val] using hr)
   | l i => simp [R.val] at hr
  ·have hkn : k = n:=by
    have:=(List.getElem?_eq_some_iff.1 hB).1
    simp only [List.length_append,List.length_cons,List.length_nil] at this
    simp only [n,List.length_append] at hk ⊢
    omega
   subst hkn
   rw [List.getElem?_append_right (Nat.le_refl _),Nat.sub_self] at hB
   simp only [List.getElem?_cons_zero,Option.some.injEq] at hB
   subst hB
   refine ⟨hBst, ?_⟩
   unfold OkBlk
   show match (if len = 0 then BK.dead else .ro) with
    | .dead => True
    | .ro => _
    | .rw => _
   by_cases h0 : len = 0
   ·rw [if_pos h0]; trivial
   ·rw [if_neg h0]
    refine ⟨by rw [hσn]; exact hsz h0,fun i s hs _ => ?_⟩
    have h1 : (E.flatten.map (S.tr σ'))[i]? = some (s.tr σ'):=by
     rw [List.getElem?_map,show E.flatten[i]? = some s from hs]; rfl
    rw [hEt] at h1
    have h2:=(hflat len i _ (Nat.le_refl _) h1).1
    have e : a.add i = adr σ' (.g n) i:=by
     simp only [adr,hσn,Addr.add]
     cases a; simp only at ha; subst ha
     by_cases hi : i = 0
     ·subst hi; simp
     ·simp [hi]
    rw [← e]; exact h2
 ·rw [hn1]
  rw [← List.append_assoc] at hB
  rcases List.mem_append.1 hB with hB | hB
  ·exact vals_mono (Nat.le_succ n) (Nat.le_refl _) (a2.val B' hB)
  ·simp only [List.mem_singleton] at hB
   subst hB
   exact vals_mono (Nat.le_succ n) (Nat.le_refl _) a6
 ·rw [← List.append_assoc,List.getElem?_append_right (Nat.le_refl _),Nat.sub_self]; rfl
 ·rw [← List.append_assoc]; exact hasTs_mono (a4 x hx)
 ·simp only [List.map_cons,List.map_nil,S.tr,adr,hσn,Nat.add_zero]
  cases a; simp only at ha; subst ha; rfl
 ·rw [hn1]; simp [vals,S.val,R.val]


theorem Opens.fields {d : TypeId → Option (List TY)} {cs : List Value} : ∀ (fs : List Field) (off : Nat) (tys : List TY),tyFields P d fs off = some tys → off + tys.length = cs.length →
   (∀ f,f ∈ fs → ∀ l,d f.type = some l → l.length = P.cellsOf f.type → f.offset + P.cellsOf f.type ≤ cs.length → Opens w ((cs.drop f.offset).take (P.cellsOf f.type)) l) → Opens w (cs.drop off) tys
 | [],off,tys,ht,hl,_ => by
  simp only [tyFields,Option.some.injEq] at ht
  subst ht
  rw [List.drop_eq_nil_of_le (by simp at hl; omega)]
  exact Opens.nil
 | f :: fs,off,tys,ht,hl,hf => by
  simp only [tyFields] at ht
  split at ht
  ·rename_i l q h1 h2
   split at ht
   ·rename_i hc
    cases ht
    obtain ⟨h3,h4⟩:=hc
    simp only [List.length_append] at hl
    have ih:=Opens.fields fs (off + P.cellsOf f.type) q h2 (by omega) (fun g hg => hf g (List.mem_cons_of_mem _ hg))
    have h0:=hf f List.mem_cons_self l h1 h4 (by rw [h3]; omega)
    rw [h3] at h0
    have e : cs.drop off = (cs.drop off).take (P.cellsOf f.type) ++ cs.drop (off + P.cellsOf f.type):=by
     rw [← List.drop_drop,List.take_append_drop]
    rw [e]
    exact h0.append ih
   ·cases ht
  ·cases ht

theorem Opens.array {k : Nat} {l : List TY} (hk : l.length = k) : ∀ (n : Nat) (cs : List Value),cs.length = n * k → (∀ i,i < n → Opens w ((cs.drop (i * k)).take k) l) → Opens w cs (List.replicate n l).flatten
 | 0,cs,hl,_ => by
  have : cs = []:=by cases cs <;> simp_all
  subst this
  exact Opens.nil
 | n + 1,cs,hl,h => by
  have h0:=h 0 (by omega)
  simp only [Nat.zero_mul,List.drop_zero] at h0
  have ih:=Opens.array hk n (cs.drop k) (by simp [hl,Nat.succ_mul]) (fun i hi => by
   have:=h (i + 1) (by omega)
   rw [List.drop_drop]
   have e : k + i * k = (i + 1) * k:=by rw [Nat.succ_mul]; omega
   rw [e]; exact this)
  have e : cs = cs.take k ++ cs.drop k:=(List.take_append_drop _ _).symm
  rw [e,List.replicate_succ,List.flatten_cons]
  exact h0.append ih


theorem weightsAll_mem {e : TypeId} : ∀ {l : List (DataW H)} {d : DataW H},d ∈ l → ∀ n,n ∈ d.weights P e → n ∈ DataW.weightsAll P e l
 | x :: l,d,h,n,hn => by
  simp only [DataW.weightsAll,List.mem_append]
  rcases List.mem_cons.1 h with rfl | h
  ·exact .inl hn
  ·exact .inr (weightsAll_mem h n hn)

theorem open_trod {base : Nat} {spare : Nat → Bool} {held : Bool} : ∀ (d : Nat) (n : Nat) (t : TypeId) (cs : List Value) (x : DataW H × List MemPlace) (tys : List TY),
  DataW.trod enc P w base spare held n t cs = some x → tyOf P d t = some tys → (∀ k,k ∈ x.1.weights P t → k ≤ reachBytes) → Opens w cs tys
 | 0,_,_,_,_,_,_,ht,_ => by simp [tyOf] at ht
 | d + 1,n,t,cs,x,tys,hx,ht,hw => by
  simp only [tyOf] at ht
  split at ht
  ·rename_i k hu
   cases ht
   obtain ⟨m,rfl,_,hwf⟩:=DataW.trod_int hu hx
   exact Opens.one fun σ h => ⟨.i k m,⟨m,rfl,hwf⟩,rfl,rfl,rfl⟩
  ·rename_i hu
   cases ht
   obtain ⟨b,rfl,_⟩:=DataW.trod_bool hu hx
   exact Opens.one fun σ h => ⟨.b b,⟨b,rfl⟩,rfl,rfl,rfl⟩
  ·rename_i e hu
   split at ht
   ·rename_i l hl
    split at ht
    ·rename_i hc
     cases ht
     rcases DataW.trod_slice hu hx with ⟨rfl,_⟩ | ⟨a,len,cap,elems,rest,m,_,rfl,rfl,hb,hlc,hcm,hel,hE,_,_⟩
     ·exact Opens.one fun σ h => ⟨.ns, .inl rfl,rfl,rfl,rfl⟩
     ·by_cases hl0 : len = 0
      ·subst hl0
       exact Opens.one fun σ h => ⟨.es a cap, .inr (.inl ⟨a,cap,rfl⟩),rfl,rfl,rfl⟩
      have hget : ∀ i,i < len → ∃ cs',w.cells? base (a.add (i * P.cellsOf e)) (P.cellsOf e) = some cs' ∧ ∃ y,DataW.trod enc P w base spare held m e cs' = some y:=fun i hi => by
       have:=hE i hi
       rw [List.getElem?_eq_getElem (by omega)] at this
       obtain ⟨cs',h1,h2⟩:=Option.bind_eq_some_iff.1 this
       exact ⟨cs',h1,_,h2⟩
      let C : Nat → List Value:=fun i => (w.cells? base (a.add (i * P.cellsOf e)) (P.cellsOf e)).getD []
      have hC : ∀ i,i < len → w.cells? base (a.add (i * P.cellsOf e)) (P.cellsOf e) = some (C i):=fun i hi => by
       obtain ⟨cs',h1,_⟩:=hget i hi
       simp only [C,h1,Option.getD_some]
      have hadd : ∀ i j,(a.add i).add j = a.add (i + j):=fun i j => by
       simp only [Addr.add]
       by_cases hi : i = 0
       ·subst hi; simp
       ·by_cases hj : j = 0
        ·subst hj; simp [hi]
        ·simp [hi,hj,Nat.add_assoc]
      have hsp : a.spot = none:=by
       obtain ⟨_,h3,h4⟩:=World.cells?_some (hC 0 (by omega))
       have h5:=h4 0 (by have:=hc.1; omega)
       rw [List.getElem?_eq_getElem (by have:=hc.1; omega)] at h5
       have h6:=World.cell?_spot h5
       simpa [Addr.add] using h6
      have hbound : len ≤ 140737488355328:=by
       have h1:=hw ((elems.length + rest.length) * P.bytesOf e) (by simp [DataW.weights,hu])
       have h2:=reachBytes_lt
       have h3:=hc.2.2
       have h4 : len ≤ (elems.length + rest.length) * P.bytesOf e:=by
        calc len ≤ elems.length + rest.length:=by omega
         _ ≤ (elems.length + rest.length) * P.bytesOf e:=Nat.le_mul_of_pos_right _ h3
       omega
      refine Opens.slice (k:=P.cellsOf e) hsp hc.1 hlc hbound C (fun i hi => ?_) (fun i j hi hj => ?_) (fun i hi => (World.cells?_some (hC i hi)).2.1) (fun h0 => ?_)
      ·obtain ⟨cs',h1,y,h2⟩:=hget i hi
       rw [hC i hi] at h1
       cases h1
       have hy : elems[i]? = some y:=by
        rw [← hE i hi,hC i hi]; exact h2
       exact open_trod d m e (C i) y l h2 hl fun k hk => hw k (by
        simp only [DataW.weights,hu,List.mem_cons,List.mem_append]
        exact .inr (.inl (weightsAll_mem (List.mem_map.2 ⟨y,List.mem_of_getElem? hy,rfl⟩) k hk)))
      ·obtain ⟨_,h3,h4⟩:=World.cells?_some (hC i hi)
       have h5:=h4 j hj
       rw [List.getElem?_eq_getElem (by omega),hadd] at h5
       exact ⟨_,List.getElem?_eq_getElem (by omega),h5⟩
      ·have h3:=hC 0 (by omega)
       obtain ⟨_,h4,h5⟩:=World.cells?_some h3
       have h6:=h5 0 (by have:=hc.1; omega)
       rw [List.getElem?_eq_getElem (by have:=hc.1; omega),hadd] at h6
       simp only [Nat.zero_mul,Nat.add_zero,Addr.add,if_true] at h6
       unfold World.cell? at h6
       cases hb : w.heap[a.block]? with
       | none => rw [hb] at h6; cases h6
       | some o => exact (Array.getElem?_eq_some_iff.1 hb).1
    ·cases ht
   ·cases ht
  ·rename_i fs hu
   split at ht
   ·rename_i l hl
    split at ht
    ·rename_i hlen
     have ht' : l = tys:=by simpa using ht
     rw [← ht']
     obtain ⟨xs,m,_,rfl,hcs,hxs,hf⟩:=DataW.trod_struct hu hx
     have:=Opens.fields (w:=w) (cs:=cs) fs.toList 0 l hl (by omega) (fun f hf' q hq hql hle => by
      obtain ⟨i,hi,rfl⟩:=List.mem_iff_getElem.1 hf'
      have hi' : i < fs.size:=by simpa using hi
      have h1:=hf i fs[i] (Array.getElem?_eq_getElem hi')
      rw [List.getElem?_eq_getElem (by omega)] at h1
      exact open_trod d m _ _ _ q h1 hq fun k hk => hw k (by
       simp only [DataW.weights,hu]
       exact DataW.weights_mem_each (j:=i) (t:=fs[i].type) (d:=(xs[i]'(by omega)).1) (by simp [hi']) (by rw [List.getElem?_map,List.getElem?_eq_getElem (by omega)]; rfl) k hk))
     simpa using this
    ·cases ht
   ·cases ht
  ·rename_i m e hu
   split at ht
   ·rename_i l hl
    split at ht
    ·rename_i hc
     cases ht
     obtain ⟨xs,f,_,rfl,hcs,hxs,hf⟩:=DataW.trod_array hu hx
     refine Opens.array (k:=P.cellsOf e) hc.1 m cs (by rw [hcs,hc.2]) (fun i hi => ?_)
     have h1:=hf i hi
     rw [List.getElem?_eq_getElem (by omega)] at h1
     exact open_trod d f _ _ _ l h1 hl fun k hk => hw k (by
      simp only [DataW.weights,hu]
      exact weightsAll_mem (List.mem_map.2 ⟨_,List.getElem_mem _,rfl⟩) k hk)
    ·cases ht
   ·cases ht
  ·cases ht

end

end Go.D

/- A statement's step: its arguments opened,its answer closed. -/
namespace Go.D
set_option linter.all false
variable [Tabs]
open Go.ChangeShapes Go.WideShapes
section
variable {H : Type} {enc : TypeId × Value → H} {P : Program} {W W' : World}

structure Still (W W' : World) : Prop where
 os : W'.os = W.os
 output : W'.output = W.output
 heap : ∀ b,b < W.heap.size → W'.heap[b]? = W.heap[b]?

theorem Still.keptBut (h : Still W W') (may : MemPlace → Prop) : W.keptBut W' may:=by
 refine ⟨h.os,h.output,fun i hi => ?_⟩
 rw [h.heap i hi]
 split
 ·rename_i e1 e2
  cases e1.symm.trans e2
  exact ⟨rfl,rfl,rfl,fun _ _ => rfl⟩
 ·rename_i e1 e2
  cases e1.symm.trans e2
  exact .inr ⟨rfl,rfl⟩
 ·rfl

theorem Still.cell (h : Still W W') {a : Addr} (ha : a.block < W.heap.size) : W'.cell? a = W.cell? a:=by
 simp only [World.cell?,h.heap a.block ha]

theorem Still.same (h : Still W W') {p : MemPlace} (hp : p.block < W.heap.size) : W.sameAt W' p:=by
 cases p with
 | cell b off => exact h.cell hp
 | map b => exact h.heap b hp

theorem law_post {T : TypeId → Prop} {f : Func} {s : ChangeSpec} {args : Array Value} {ds gs : List (DataW H)} {before : List MemPlace} {bt : TypeId} (K : Kids P T) (hz : ∀ t e,T t → P.underlying t = some (.slice e) → 0 < P.cellsOf e)
  (hT : ∀ t,t ∈ f.params.toList → T t) (hv : s.vars = []) (hbt : P.underlying bt = some .bool) (hrt : f.resultTypes = #[bt]) (hfn : s.fn H (ds ++ gs) = { results:=[.lit (.bool true)],args:=ds }) {apart : Bool}
  (hW : DataW.Whole enc P f.params.toList s.vars apart W args.toList ds gs before) (hS : Still W W') {fresh handsOn : Bool} :
  s.post enc P f apart fresh handsOn false W args (.bool true) W':=by
 obtain ⟨p,q,hA,hV,hb,hfz,hnd⟩:=id hW
 have hlt : ∀ x,x ∈ before → x.block < W.heap.size:=fun x hx => hW.lt x hx
 rw [hv] at hV
 obtain ⟨rfl,rfl⟩:=trodVars_none hV
 simp only [List.append_nil] at hb hfn
 subst hb
 have hcarry : ∀ {ts : List TypeId} {vs : List Value} {ds : List (DataW H)} {p : List MemPlace} {sp : Nat → Bool},DataW.TrodAll enc P W 0 sp true ts vs ds p → (∀ x,x ∈ p → x.block < W.heap.size) → DataW.TrodAll enc P W' 0 sp true ts vs ds p:=by
  intro ts
  induction ts with
  | nil =>
   intro vs ds p sp h _
   cases vs <;> cases ds <;> first | exact h | exact h.elim
  | cons t ts ih =>
   intro vs ds p sp h hp
   match vs,ds,h with
   | v :: vs,d :: ds,⟨p1,p2,⟨n,h1⟩,h2,e⟩ =>
    exact ⟨p1,p2,⟨n,DataW.trod_carry n _ _ _ h1 (fun x hx => hS.same (hp x (by rw [e]; exact List.mem_append_left _ hx)))⟩,ih h2 (fun x hx => hp x (by rw [e]; exact List.mem_append_right _ hx)),e⟩
 have hres : ∀ (b : Nat) (sp : Nat → Bool) (hd : Bool),DataW.TrodAll enc P W' b sp hd f.resultTypes.toList ((Value.bool true).resultList f.resultTypes.size) (s.fn H (ds ++ [])).results []:=fun b sp hd => by
  simp only [List.append_nil,hfn,hrt]
  exact ⟨[],[],⟨1,by simp [DataW.trod,Value.cells,hbt]⟩,rfl,rfl⟩
 have hsp : ∀ sp : Nat → Bool,(∀ x,x ∈ before → sp x.block = true) → DataW.TrodAll enc P W' 0 sp true f.params.toList args.toList (s.fn H (ds ++ [])).args before:=fun sp hx => by
  simp only [List.append_nil,hfn]
  exact hcarry (DataW.TrodAll.respare K hz hT hA hx) hlt
 have hvars : ∀ sp : Nat → Bool,DataW.TrodVars enc P W' sp s.vars (s.fn H (ds ++ [])).vars []:=fun sp => by
  simp only [List.append_nil,hfn,hv]; rfl
 refine ⟨ds,[],before,[],before,[],hW,hres _ _ _,hsp _ (fun x hx => decide_eq_true (hlt x hx)),hvars _,hS.keptBut _,fun h => Bool.noConfusion h⟩
end
end Go.D

/- A statement's row: a law whose small code answers true over whatever read-only arguments holds. -/
namespace Go.D
set_option linter.all false
variable [Tabs]
open Go.ChangeShapes Go.WideShapes

def paramTy (P : Program) (d : Nat) (t : TypeId) : Option (Bool × List TY) :=
 match tyOf P d t with
 | some l => match P.underlying t with
  | some (.struct _) => some (true,l)
  | some (.array _ _) => some (true,l)
  | some (.int _) => some (false,l)
  | some .bool => some (false,l)
  | some (.slice _) => some (false,l)
  | _ => none
 | none => none
def paramTys (P : Program) (d : Nat) : List TypeId → Option (List (Bool × List TY))
 | [] => some []
 | t :: ts => match paramTy P d t,paramTys P d ts with
  | some x,some l => some (x :: l)
  | _,_ => none

def hasV (h : List Blk) : Bool × List TY → V → Prop
 | (true,l),v => ∃ ss,v = .agg ss ∧ hasTs h l ss
 | (false,l),v => ∃ s,v = .s s ∧ hasTs h l [s]
def hasVs (h : List Blk) : List (Bool × List TY) → List V → Prop
 | [],[] => True
 | t :: ts,v :: vs => hasV h t v ∧ hasVs h ts vs
 | _,_ => False

theorem hasV_mono {h h' : List Blk} {t : Bool × List TY} {v : V} (H : hasV h t v) : hasV (h ++ h') t v:=by
 obtain ⟨b,l⟩:=t
 cases b with
 | true => obtain ⟨ss,e,H⟩:=H; exact ⟨ss,e,hasTs_mono H⟩
 | false => obtain ⟨s,e,H⟩:=H; exact ⟨s,e,hasTs_mono H⟩

section
variable {H : Type} {enc : TypeId × Value → H} {P : Program} {w : World}

theorem V.tr_old {σ σ' : Sg} {n : Nat} (hA : ∀ k,k < n → σ' (.g k) = σ (.g k)) {v : V} (hv : v.val n 0 = true) : v.tr σ' = v.tr σ :=
 V.tr_congr (n:=n) (m:=0) (fun r hr => by
  cases r with
  | g k => exact hA k (by simpa [R.val] using hr)
  | l k => simp [R.val] at hr) v hv

theorem open_arg {r : Reach} {base : Nat} {t : TypeId} {v : Value} {d : DataW H} {p : List MemPlace} {D : Nat} {x : Bool × List TY} {sp : Nat → Bool} {held : Bool} {b0 : Nat}
  (hok : Value.okWide P w r base t v) (ht : DataW.Trod enc P w b0 sp held t v d p) (hx : paramTy P D t = some x) (hw : ∀ k,k ∈ d.weights P t → k ≤ reachBytes) :
  ∀ (σ : Sg) (h : List Blk),RO σ h w → ∃ (h' : List Blk) (σ' : Sg) (u : V),(∀ k,k < h.length → σ' (.g k) = σ (.g k)) ∧ RO σ' (h ++ h') w ∧ hasV (h ++ h') x u ∧ u.tr σ' = v ∧ u.val (h ++ h').length 0 = true ∧ u.known = true:=by
 obtain ⟨n,ht⟩:=ht
 unfold paramTy at hx
 split at hx
 ·rename_i l hl
  have agg : ∀ cs,v = .agg cs → Row.okWide P w r base t cs → x = (true,l) → ∀ (σ : Sg) (h : List Blk),RO σ h w → ∃ (h' : List Blk) (σ' : Sg) (u : V),(∀ k,k < h.length → σ' (.g k) = σ (.g k)) ∧ RO σ' (h ++ h') w ∧ hasV (h ++ h') x u ∧ u.tr σ' = v ∧ u.val (h ++ h').length 0 = true ∧ u.known = true:=by
   intro cs hv hr hx σ h hR
   subst hv; subst hx
   obtain ⟨h', σ',ss,a1,a2,a3,a4,a5,a6⟩:=open_trod D n t cs.toList (d,p) l ht hl hw σ h hR
   refine ⟨h', σ', .agg ss,a1,a2,⟨ss,rfl,a3⟩, ?_,a5,a6⟩
   simp only [V.tr,trs,a4,Array.toArray_toList]
  have one : v.cells = #[v] → x = (false,l) → ∀ (σ : Sg) (h : List Blk),RO σ h w → ∃ (h' : List Blk) (σ' : Sg) (u : V),(∀ k,k < h.length → σ' (.g k) = σ (.g k)) ∧ RO σ' (h ++ h') w ∧ hasV (h ++ h') x u ∧ u.tr σ' = v ∧ u.val (h ++ h').length 0 = true ∧ u.known = true:=by
   intro hc hx σ h hR
   subst hx
   rw [hc] at ht
   obtain ⟨h', σ',ss,a1,a2,a3,a4,a5,a6⟩:=open_trod D n t [v] (d,p) l ht hl hw σ h hR
   match ss,a4 with
   | [s],a4 =>
    simp only [List.map_cons,List.map_nil,List.cons.injEq,and_true] at a4
    refine ⟨h', σ', .s s,a1,a2,⟨s,rfl,a3⟩,a4, ?_, ?_⟩
    ·simpa [vals,V.val] using a5
    ·simpa [known_cons,known_nil] using a6
  unfold Value.okWide at hok
  split at hx <;> rename_i hu <;> simp only [hu,Option.some.injEq] at hok hx
  ·obtain ⟨cs,hv,_,hr⟩:=hok; exact agg cs hv hr hx.symm
  ·obtain ⟨cs,hv,_,hr⟩:=hok; exact agg cs hv hr hx.symm
  ·refine one ?_ hx.symm
   unfold Cell.okWide at hok; rw [hu] at hok
   cases v <;> first | rfl | (simp [Cell.ok,hu] at hok)
  ·refine one ?_ hx.symm
   unfold Cell.okWide at hok; rw [hu] at hok
   cases v <;> first | rfl | (simp [Cell.ok,hu] at hok)
  ·refine one ?_ hx.symm
   unfold Cell.okWide at hok; rw [hu] at hok
   cases v <;> first | rfl | (simp [Cell.ok,hu] at hok)
  ·cases hx
 ·cases hx

theorem open_args {r : Reach} {base D : Nat} {sp : Nat → Bool} {held : Bool} {b0 : Nat} : ∀ (ts : List TypeId) (vs : List Value) (ds : List (DataW H)) (p : List MemPlace) (xs : List (Bool × List TY)),
  (∀ (j : Nat) t v,ts[j]? = some t → vs[j]? = some v → Value.okWide P w r base t v) → DataW.TrodAll enc P w b0 sp held ts vs ds p → paramTys P D ts = some xs → (∀ (j : Nat) t d,ts[j]? = some t → ds[j]? = some d → ∀ k,k ∈ d.weights P t → k ≤ reachBytes) →
  ∀ (σ : Sg) (h : List Blk),RO σ h w → ∃ (h' : List Blk) (σ' : Sg) (us : List V),(∀ k,k < h.length → σ' (.g k) = σ (.g k)) ∧ RO σ' (h ++ h') w ∧ hasVs (h ++ h') xs us ∧ us.map (V.tr σ') = vs ∧ us.all (V.val (h ++ h').length 0) = true ∧ us.all V.known = true
 | [],vs,ds,p,xs,_,ht,hx,_ => fun σ h hR => by
  obtain ⟨rfl,rfl,rfl⟩:=trodAll_nil ht
  simp only [paramTys,Option.some.injEq] at hx
  subst hx
  exact ⟨[], σ,[],fun _ _ => rfl,by simpa using hR,trivial,rfl,rfl,rfl⟩
 | t :: ts,vs,ds,p,xs,hok,ht,hx,hw => fun σ h hR => by
  obtain ⟨v,vs',d,ds',p',q,rfl,rfl,rfl,h0,h1⟩:=trodAll_cons ht
  simp only [paramTys] at hx
  split at hx
  ·rename_i x l hx1 hx2
   cases hx
   obtain ⟨ha, σa,u,a1,a2,a3,a4,a5,a6⟩:=open_arg (hok 0 t v rfl rfl) h0 hx1 (hw 0 t d rfl rfl) σ h hR
   obtain ⟨hb, σb,us,b1,b2,b3,b4,b5,b6⟩:=open_args ts vs' ds' q l (fun j t v ht hv => hok (j + 1) t v (by simpa using ht) (by simpa using hv)) h1 hx2 (fun j t d ht hd => hw (j + 1) t d (by simpa using ht) (by simpa using hd)) σa (h ++ ha) a2
   refine ⟨ha ++ hb, σb,u :: us,fun k hk => ?_,by rw [← List.append_assoc]; exact b2, ?_, ?_, ?_, ?_⟩
   ·rw [b1 k (by simp; omega),a1 k hk]
   ·rw [← List.append_assoc]; exact ⟨hasV_mono a3,b3⟩
   ·rw [List.map_cons,b4,V.tr_old b1 a5,a4]
   ·rw [← List.append_assoc,List.all_cons,Bool.and_eq_true]
    exact ⟨V.val_mono (by simp) (Nat.le_refl _) a5,b5⟩
   ·rw [List.all_cons,Bool.and_eq_true]; exact ⟨a6,b6⟩
  ·cases hx
end

def Law (S : FSpec) (xs : List (Bool × List TY)) : Prop:=∀ (h : List Blk) (us : List V),hasVs h xs us → clean h.length h = true → S us h fun v _ => v = .s (.b true)

theorem law_calls {P : Program} {H : Type} {enc : TypeId × Value → H} {W : World} {f : FuncId} {S : FSpec} {r : Reach} {base D : Nat} {ts : List TypeId} {args : Array Value} {ds : List (DataW H)} {p : List MemPlace} {xs : List (Bool × List TY)} {sp : Nat → Bool} {held : Bool} {b0 : Nat}
  (hT : ∀ x,x ∈ Tabs.cells → W.cell? ⟨x.1,x.2.1,none⟩ = some x.2.2 ∧ x.1 < W.heap.size) (hS : Snd P f S) (hL : Law S xs) (hok : ∀ (j : Nat) t v,ts[j]? = some t → args[j]? = some v → Value.okWide P W r base t v) (ht : DataW.TrodAll enc P W b0 sp held ts args.toList ds p) (hx : paramTys P D ts = some xs) (hw : ∀ (j : Nat) t d,ts[j]? = some t → ds[j]? = some d → ∀ k,k ∈ d.weights P t → k ≤ reachBytes) :
  Calls P f args W fun e W' => e = .returned (.bool true) ∧ Still W W':=by
 have hR0 : RO (fun _ => (0,0)) [] W:=⟨fun k B hB => by simp at hB,fun B hB => by cases hB⟩
 obtain ⟨h, σ,us,_,hR,hV,he,hval,hk⟩:=open_args ts args.toList ds p xs (fun j t v h1 h2 => hok j t v h1 (by simpa using h2)) ht hx hw _ [] hR0
 simp only [List.nil_append] at hR hV hval
 have hcl : clean h.length h = true:=by
  simp only [clean,List.all_eq_true]
  exact hR.val
 have hc:=hS σ h W us _ hR.sim (fun x hx => ⟨(hT x hx).1,(hT x hx).2,fun k B hB hst => absurd hst (hR.ok k B hB).1⟩) hval hk (hL h us hV hcl)
 have ha : (us.map (V.tr σ)).toArray = args:=by rw [he]
 rw [ha] at hc
 refine hc.mono fun e W' ⟨v,h', σ',e1,_,_,hI,e2⟩ => ?_
 subst e2
 refine ⟨e1,hI.kept.same.os,hI.kept.same.output,fun b hb => hI.kept.keep b hb fun k B hB hst => ?_⟩
 exact absurd hst (hR.ok k B hB).1

/-! ### the row -/
def slicesFull (P : Program) : Bool:=(List.range P.types.size).all fun t => match P.underlying t with
 | some (.slice e) => decide (0 < P.cellsOf e)
 | _ => true

theorem trodAll_length {H : Type} {enc : TypeId × Value → H} {P : Program} {w : World} {b0 : Nat} {sp : Nat → Bool} {held : Bool} : ∀ {ts : List TypeId} {vs : List Value} {ds : List (DataW H)} {p : List MemPlace},DataW.TrodAll enc P w b0 sp held ts vs ds p → ds.length = ts.length
 | [],vs,ds,p,h => by obtain ⟨_,rfl,_⟩:=trodAll_nil h; rfl
 | t :: ts,vs,ds,p,h => by
  obtain ⟨v,vs',d,ds',p',q,rfl,rfl,rfl,_,h1⟩:=trodAll_cons h
  simp [trodAll_length h1]

structure RowOk (P : Program) (f : FuncId) (fn : Func) (s : ChangeSpec) (xs : List (Bool × List TY)) : Prop where
 own : ownKnob P.godebug = none
 noTabs : Tabs.cells = []
 noInit : P.inits.idxOf? f = none
 isf : P.funcs[f]? = some fn
 laid : laidOutB P = true
 rowed : mapsRowed P = true
 full : slicesFull P = true
 params : fn.params.toList.all (fun t => decide (t < P.types.size)) = true
 vars : s.vars = []
 ret : ∃ bt,fn.resultTypes = #[bt] ∧ P.underlying bt = some .bool
 spec : ∀ (H : Type) (ds : List (DataW H)),ds.length = fn.params.toList.length → s.fn H ds = { results:=[.lit (.bool true)],args:=ds }
 tys : ∃ D,paramTys P D fn.params.toList = some xs

theorem RowOk.calls {P : Program} {f : FuncId} {fn : Func} {s : ChangeSpec} {xs : List (Bool × List TY)} (R : RowOk P f fn s xs) {S : FSpec} (hS : Snd P f S) (hL : Law S xs)
  {H : Type} {enc : TypeId × Value → H} {W : World} {base : Nat} {r : Reach} {args : Array Value} {ds gs : List (DataW H)} {before : List MemPlace} {apart fresh handsOn : Bool}
  (hval : ∀ (j : Nat) t v,fn.params[j]? = some t → args[j]? = some v → Value.okWide P W r base t v) (hW : DataW.Whole enc P fn.params.toList s.vars apart W args.toList ds gs before)
  (hZ : (DataW.weightsEach P (fn.params.toList ++ s.plain.varTypes P) (ds ++ gs)).all (· ≤ reachBytes) = true) :
  Calls P f args W fun e W' => ∃ v,e = .returned v ∧ s.post enc P fn apart fresh handsOn false W args v W':=by
 obtain ⟨D,hx⟩:=R.tys
 obtain ⟨bt,hrt,hbt⟩:=R.ret
 obtain ⟨p,q,hA,hV,hb,hfz,hnd⟩:=id hW
 have hc:=law_calls (fun x hx => by rw [R.noTabs] at hx; cases hx) hS hL (fun j t v h1 h2 => hval j t v (by simpa using h1) h2) hA hx (fun j t d ht hd k hk => by
  have h1 : (fn.params.toList ++ s.plain.varTypes P)[j]? = some t:=by rw [List.getElem?_append_left (List.getElem?_eq_some_iff.1 ht).1]; exact ht
  have h2 : (ds ++ gs)[j]? = some d:=by rw [List.getElem?_append_left (List.getElem?_eq_some_iff.1 hd).1]; exact hd
  have h3:=List.all_eq_true.1 hZ _ (DataW.weights_mem_each h1 h2 k hk)
  simpa using h3)
 refine hc.mono fun e W' ⟨he,hst⟩ => ⟨_,he, ?_⟩
 have hgs : gs = []:=by
  rw [R.vars] at hV; exact (trodVars_none hV).1
 subst hgs
 refine law_post (kids_rows R.laid R.rowed) (fun t e ht hu => ?_) (fun t ht => ?_) R.vars hbt hrt ?_ hW hst
 ·have:=R.full
  simp only [slicesFull,List.all_eq_true,List.mem_range] at this
  have:=this t ht
  rw [hu] at this
  simpa using this
 ·have:=R.params
  simp only [List.all_eq_true,decide_eq_true_eq] at this
  exact this t ht
 ·simp only [List.append_nil]
  exact R.spec H ds (trodAll_length hA)

theorem RowOk.lifted {C : Checked} {f : FuncId} {fn : Func} {s : ChangeSpec} {xs : List (Bool × List TY)} (R : RowOk C.prog f fn s xs) {S : FSpec} (hS : Snd C.prog f S) (hL : Law S xs) {os : Os} (started : os.Started) {H : Type} {enc : TypeId × Value → H} {conds : List PathCond} {apart fresh handsOn : Bool}
  (witness : ∃ (w : World) (tape : Tape) (i : Input),w.os = os ∧ (w.forCall tape i).Shaped C.prog ∧ i.vars = [] ∧ Input.okWide C.prog (w.forCall tape i) .any w.heap.size f i ∧
   s.pre6 enc C.prog fn conds apart (w.forCall tape i).memory i.args ∧ ({} : Assume).holds C.prog (lone (Frame.enter C.prog f i.args .normal) [] (w.forCall tape i))) :
  ReturnsInHanded {} C os f .any (s.pre6 enc C.prog fn conds apart) (s.post enc C.prog fn apart fresh handsOn false) :=
 returnsInHanded_of_change_sized R.own started R.noInit R.isf witness fun _ _ _ _ _ _ hval hW _ hZ _ => R.calls hS hL hval hW hZ

end Go.D

/- The facts of the rows of this seat. -/
namespace Go.Proofs.YtcdfofeolgbnbaaGreat
open Go.D
set_option linter.all false
set_option maxRecDepth 100000

theorem own : ownKnob Tryz.prog.godebug = none:=by kernel_rfl
theorem laid : laidOutB Tryz.prog = true:=by kernel_rfl
theorem rowed : mapsRowed Tryz.prog = true:=by kernel_rfl
theorem full : slicesFull Tryz.prog = true:=by kernel_rfl

theorem hasTs_cons {h : List Blk} {t : TY} {ts : List TY} {ss : List S} (H : hasTs h (t :: ts) ss) : ∃ s ss',ss = s :: ss' ∧ hasT h t s ∧ hasTs h ts ss':=by
 cases ss with
 | nil => exact H.elim
 | cons s ss => exact ⟨s,ss,rfl,H.1,H.2⟩
theorem hasTs_nil {h : List Blk} {ss : List S} (H : hasTs h [] ss) : ss = []:=by
 cases ss with
 | nil => rfl
 | cons s ss => exact H.elim


theorem hasT_arrP {α : Type} {c : α → List S} {p : α → Prop} {h : List Blk} {e : List TY} (hd : ∀ ss,hasTs h e ss → ∃ x,ss = c x ∧ p x) : ∀ (E : List (List S)),(∀ x,x ∈ E → hasTs h e x) → ∃ L : List α,E.flatten = arr c L ∧ L.length = E.length ∧ ∀ x,x ∈ L → p x
 | [],_ => ⟨[],rfl,rfl,fun x hx => by cases hx⟩
 | x :: E,H => by
  obtain ⟨y,rfl,hy⟩:=hd x (H x List.mem_cons_self)
  obtain ⟨L,e1,e2,e3⟩:=hasT_arrP hd E (fun z hz => H z (List.mem_cons_of_mem _ hz))
  refine ⟨y :: L,by simp [arr,e1],by simp [e2],fun z hz => ?_⟩
  rcases List.mem_cons.1 hz with rfl | hz
  ·exact hy
  ·exact e3 z hz
theorem isArr_of {α : Type} {c : α → List S} {p : α → Prop} {h : List Blk} {e : List TY} {s : S} (hd : ∀ ss,hasTs h e ss → ∃ x,ss = c x ∧ p x) (H : hasT h (.slice e) s) : ∃ L : List α,IsArr c h s L ∧ (∀ x,x ∈ L → p x) ∧ L.length ≤ 140737488355328:=by
 rcases H with rfl | ⟨a,c,rfl⟩ | ⟨j,n,cp,E,st,room,rfl,h1,h2,h3,h4,h5,h6,h7⟩
 ·exact ⟨[], .inl ⟨.inl rfl,rfl⟩,(fun x hx => by cases hx),by simp⟩
 ·exact ⟨[], .inl ⟨.inr ⟨a,c,rfl⟩,rfl⟩,(fun x hx => by cases hx),by simp⟩
 ·obtain ⟨L,e1,e2,e3⟩:=hasT_arrP (c:=c) (p:=p) hd E h7
  have hn : L.length = n:=by omega
  refine ⟨L, .inr ⟨j,cp,st,room,by rw [hn],by rw [← e1]; exact h3,fun h0 e => ?_⟩,e3, ?_⟩
  ·have:=h5 (by omega)
   rw [this] at e; cases e
  ·omega
theorem hasV_slice {α : Type} {c : α → List S} {p : α → Prop} {h : List Blk} {e : List TY} {v : V} (hd : ∀ ss,hasTs h e ss → ∃ x,ss = c x ∧ p x) (H : hasV h (false,[.slice e]) v) : ∃ (s : S) (L : List α),v = .s s ∧ IsArr c h s L ∧ (∀ x,x ∈ L → p x) ∧ L.length ≤ 140737488355328:=by
 obtain ⟨s,rfl,H1,_⟩:=H
 obtain ⟨L,e1,e2,e3⟩:=isArr_of hd H1
 exact ⟨s,L,rfl,e1,e2,e3⟩
def Uw.c (n : Int) : List S:=[.i .u64 n]

theorem lawC {h : List Blk} {x : Bool × List TY} {xs : List (Bool × List TY)} {us : List V} (H : hasVs h (x :: xs) us) : ∃ u vs,us = u :: vs ∧ hasV h x u ∧ hasVs h xs vs:=by
 match us,H with
 | u :: vs,H => exact ⟨u,vs,rfl,H.1,H.2⟩
 | [],H => exact H.elim
theorem lawN {h : List Blk} {us : List V} (H : hasVs h [] us) : us = []:=by
 match us,H with
 | [],_ => rfl
 | _ :: _,H => exact H.elim
theorem i64_b {n : Int} (h : (Lit.int .i64 n).wf = true) : i64b n:=by
 have e : (decide ((-9223372036854775808 : Int) ≤ n) && decide (n ≤ 9223372036854775807)) = true:=h
 simp only [Bool.and_eq_true,decide_eq_true_eq] at e
 unfold i64b; omega
def OpT : List TY:=[.int .i64, .int .i64, .int .i64, .int .i64]
theorem hasTs_op11 {h : List Blk} {ss : List S} (H0 : hasTs h OpT ss) : ∃ o : Op,ss = o.cl ∧ o.u:=by
 unfold OpT at H0
 obtain ⟨_,_,rfl,⟨x0,rfl,h0⟩,H1⟩:=hasTs_cons H0
 obtain ⟨_,_,rfl,⟨x1,rfl,h1⟩,H2⟩:=hasTs_cons H1
 obtain ⟨_,_,rfl,⟨x2,rfl,h2⟩,H3⟩:=hasTs_cons H2
 obtain ⟨_,_,rfl,⟨x3,rfl,h3⟩,H4⟩:=hasTs_cons H3
 obtain rfl:=hasTs_nil H4
 exact ⟨⟨x0,x1,x2,x3⟩,rfl,i64_b h3⟩
end Go.Proofs.YtcdfofeolgbnbaaGreat

