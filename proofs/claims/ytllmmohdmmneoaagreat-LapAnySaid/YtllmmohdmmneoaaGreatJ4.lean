/- The engine of this proof, part 4. -/
import Derived.Calls
import Derived.Orders
import Derived.Tactics
import Derived.KernelRfl
import Derived.Laws.BytesString
import Derived.ChangeSame
import Derived.ReadAgain
import Derived.RowKit3
import Derived.WideShapes
import Derived.Laws.StructEq
import Derived.ChangeKeysEq
import Derived.Lib.UnsafeStr
import Derived.Laws.IdiomStrings
import Derived.Test.YtllmmohdmmneoaaGreatJ3
namespace Go.Fo
section

def Mg (K:Kd):List MV->Option (List K.T)
  | []=>some []
  | .im k x::l=>if h:k=K then (match Mg K l with|some ys=>some ((h▸x)::ys)|none=>none) else none
  | _=>none
mutual
def MV.frh (key:Nat) (k:Kd) (xs:List k.T):MV->MV
  | .hd q c=>if q==key&&c==xs.length then .im (.slice k) xs else .hd q c
  | .agg l=>.agg (MV.frhL key k xs l)
  | .tup l=>.tup (MV.frhL key k xs l)
  | .fn f l=>.fn f (MV.frhL key k xs l)
  | .ifc t x=>.ifc t (x.frh key k xs)
  | .bm t x=>.bm t (x.frh key k xs)
  | .cnd t x=>.cnd t (x.frh key k xs)
  | .int k x=>.int k x
  | .bool b=>.bool b
  | .str s=>.str s
  | .nilp=>.nilp
  | .nils=>.nils
  | .nilf=>.nilf
  | .nili=>.nili
  | .nilm=>.nilm
  | .p k off=>.p k off
  | .pe k i f=>.pe k i f
  | .im k x=>.im k x
  | .pim k x=>.pim k x
  | .raw v=>.raw v
  | .sl k=>.sl k
  | .mp k=>.mp k
  | .sv k n=>.sv k n
  | .sp k n=>.sp k n
  | .pf k o j=>.pf k o j
def MV.frhL (key:Nat) (k:Kd) (xs:List k.T):List MV->List MV
  | []=>[]
  | x::l=>x.frh key k xs::MV.frhL key k xs l
end
def MObj.frh (key:Nat) (k:Kd) (xs:List k.T):MObj->MObj
  | .cells cs=>.cells (MV.frhL key k xs cs)
  | .rows k' ys=>.rows k' ys
  | .ab a=>.ab a
  | .foc p cs q=>.foc p (MV.frhL key k xs cs) q
  | .bld T o=>.bld T o
  | .brw e k' ys=>.brw e k' ys
  | .hrow s cs=>.hrow s (MV.frhL key k xs cs)
  | .arr a b c=>.arr a b c
  | .emp=>.emp
  | .rr own e xss h=>.rr own e xss (h.map fun q=>(q.1,q.2.frh key k xs))
def Mx (key:Nat) (k:Kd) (xs:List k.T) (A:List (Nat×MV)):List (Nat×MV):=A.map fun q=>(q.1,q.2.frh key k xs)
def Mz (key:Nat) (k:Kd) (xs:List k.T) (L:List (Nat×Option MObj)):List (Nat×Option MObj):=(key,none)::L.map fun q=>(q.1,q.2.map (·.frh key k xs))

mutual
theorem QE {ρ:Nat->Hd} {m m':Mem} (hm:Mle m m') {key:Nat} {k:Kd} {xs:List k.T} (hk:(Kd.slice k).R m' xs [.slice (some ⟨(ρ key).blk,0,none⟩) xs.length xs.length]):∀(x:MV) (v:Value),Cv ρ m x v->Cv ρ m' (x.frh key k xs) v
  | .hd q c,v,h=>by
    simp only[MV.frh]
    split
    · rename_i e
      simp only[Bool.and_eq_true,beq_iff_eq] at e
      obtain ⟨rfl,rfl⟩:=e
      simp only[Cv] at h;subst h;exact hk
    · exact h
  | .agg l,v,⟨vs,e,h⟩=>⟨vs,e,WY hm hk l vs h⟩
  | .tup l,v,⟨vs,e,h⟩=>⟨vs,e,WY hm hk l vs h⟩
  | .fn f l,v,⟨vs,e,h⟩=>⟨vs,e,WY hm hk l vs h⟩
  | .ifc t x,v,⟨y,e,h⟩=>⟨y,e,QE hm hk x y h⟩
  | .bm t x,v,⟨y,e,h⟩=>⟨y,e,QE hm hk x y h⟩
  | .cnd t x,v,h=>⟨fun e=>QE hm hk x v (h.1 e),h.2⟩
  | .int _ _,_,h=>h
  | .bool _,_,h=>h
  | .str _,_,h=>h
  | .nilp,_,h=>h
  | .nils,_,h=>h
  | .nilf,_,h=>h
  | .nili,_,h=>h
  | .nilm,_,h=>h
  | .p _ _,_,h=>h
  | .pe _ _ _,_,h=>h
  | .im k x,v,h=>Cv.mono hm (.im k x) v (fun _ _=>rfl) h
  | .pim k x,v,h=>Cv.mono hm (.pim k x) v (fun _ _=>rfl) h
  | .raw _,_,h=>h
  | .sl _,_,h=>h
  | .mp _,_,h=>h
  | .sv _ _,_,h=>h
  | .sp _ _,_,h=>h
  | .pf _ _ _,_,h=>h
theorem WY {ρ:Nat->Hd} {m m':Mem} (hm:Mle m m') {key:Nat} {k:Kd} {xs:List k.T} (hk:(Kd.slice k).R m' xs [.slice (some ⟨(ρ key).blk,0,none⟩) xs.length xs.length]):∀(l:List MV) (vs:List Value),CvL ρ m l vs->CvL ρ m' (MV.frhL key k xs l) vs
  | [],_,h=>h
  | x::l,_,⟨v,us,e,h1,h2⟩=>⟨v,us,e,QE hm hk x v h1,WY hm hk l us h2⟩
end

section
variable {P:Program} {Γ:Gd} {N:Nat} {Q:Exit->Act->World->Prop} {A A':List (Nat×MV)} {L L':List (Nat×Option MObj)}
end
theorem XG {ρ:Nat->Hd} {m:Mem} {key:Nat} (hr:(ρ key).hdr=.slice none 0 0):∀{cs:List MV} {vs:List Value} {j:Nat},cs[j]? = some .nils->CvL ρ m cs vs->CvL ρ m (cs.set j (.sl key)) vs
 | [],_,_,hj,_=>by simp at hj
 | x::l,vs,0,hj,⟨v,us,e,h1,h2⟩=>by
  simp only[List.getElem?_cons_zero,Option.some.injEq] at hj
  subst hj
  exact ⟨v,us,e,by simp only[Cv] at h1 ⊢;rw[hr];exact h1,h2⟩
 | x::l,vs,j+1,hj,⟨v,us,e,h1,h2⟩=>⟨v,us,e,h1,XG hr (by simpa using hj) h2⟩
theorem Sat.ownC {Γ:Gd} {N:Nat} {A:List (Nat×MV)} {L:List (Nat×Option MObj)} {a:Act} {w:World} (hs:Sat Γ N (get A) (ww L) a w) {q j:Nat} {cs:List MV} (hq:ww L q=some (.cells cs)) (hj:cs[j]? = some .nils) (key:Nat) (k:Kd) (hk:1000<=key) (hfA:jX key A=true) (hfL:jW key L=true) :
  Sat Γ N (get A) (ww ((q,some (.cells (cs.set j (.sl key))))::(key,some (.rows k []))::L)) a w:=by
 obtain ⟨h1,h2,ρ,m,h3,h4,h5,h6⟩:=hs
 have hρ:∀q,q≠key->setρ ρ key ⟨0,0,0,true,k.n⟩ q=ρ q:=fun q hq=>setρ_ne _ _ _ hq
 have hqk:q≠key:=(xD hfL q _ hq).2
 have hr:((setρ ρ key ⟨0,0,0,true,k.n⟩) key).hdr=.slice none 0 0:=by rw[setρ_eq];rfl
 have t1:=h4.turn (ρ':=setρ ρ key ⟨0,0,0,true,k.n⟩) (w':=w) key (some (.rows k [])) (fun _=>False) hρ (.inr fun q o hq _=>(xD hfL q o hq).1) (fun b _ _=>rfl) (Nat.le_refl _) (fun b _ hf=>hf.elim) (fun _ _ _ _ _ _ hf=>hf) (fun o ho=>by
   simp only[Option.some.injEq] at ho;subst ho
   refine ⟨⟨by rw[setρ_eq];rfl,by rw[setρ_eq],.inl ⟨by rw[setρ_eq],rfl⟩⟩,fun b hf=>?_⟩
   have:=hf.1;rw[setρ_eq] at this;cases this)
 have hq':(fun x=>if key==x then some (MObj.rows k []) else ww L x) q=some (.cells cs):=by
  show (if key==q then _ else _)=_
  rw[if_neg (by simpa using fun e=>hqk e.symm)];exact hq
 have t2:=t1.turn (ρ':=setρ ρ key ⟨0,0,0,true,k.n⟩) (w':=w) q (some (.cells (cs.set j (.sl key)))) (fun _=>False) (fun _ _=>rfl) (.inl rfl) (fun b _ _=>rfl) (Nat.le_refl _) (fun b _ hf=>hf.elim) (fun _ _ _ _ _ _ hf=>hf) (fun o ho=>by
   simp only[Option.some.injEq] at ho;subst ho
   obtain ⟨g0,vs,T,g1,g2⟩:=t1.obj q _ hq'
   exact ⟨⟨g0,vs,T,g1,XG hr hj g2⟩,fun b hf=>⟨t1.djm q _ b hq' hf,t1.djX q _ b hq' hf,fun k' o' hne ho' hf'=>hne (t1.dj k' o' q _ b ho' hq' hf' hf)⟩⟩)
 refine ⟨h1,h2,setρ ρ key ⟨0,0,0,true,k.n⟩,m,fun t y hy=>?_,t2,h5,fun q hq=>(hρ q (by omega)).trans (h6 q hq)⟩
 obtain ⟨v,hv,hc⟩:=h3 t y hy
 exact ⟨v,hv,Cv.mono (Mle.refl m) y v (fun q hq=>hρ q (fun e=>by rw[e,xX hfA t y hy] at hq;cases hq)) hc⟩
section
variable {P:Program} {Γ:Gd} {N:Nat} {Q:Exit->Act->World->Prop} {A A':List (Nat×MV)} {L L':List (Nat×Option MObj)}
theorem QW {c:Code} (s:Nat) {k:IntKind} {x:Int} (n:Int) (hx:x=n) (hg:get A s=some (.int k x)) (h:TC P Γ N c Q ((s,.int k n)::A) L):TC P Γ N c Q A L:=by
 intro a w hs
 refine h a w (hs.weak (fun t y hy=>?_) (fun _ _ h=>h))
 simp only[get] at hy
 split at hy
 ·rename_i e';have:=beq_iff_eq.1 e';subst this;rw[hg,hx];exact hy
 ·exact hy
theorem yN {c:Code} (q j:Nat) {k:IntKind} {x:Int} {cs:List MV} (n:Int) (hx:x=n) (hq:ww L q=some (.cells cs)) (hj:cs[j]? = some (.int k x)) (h:TC P Γ N c Q A ((q,some (.cells (cs.set j (.int k n))))::L)):TC P Γ N c Q A L:=by
 have e:cs.set j (.int k n)=cs:=by
  subst hx
  apply List.ext_getElem?
  intro i
  rw[List.getElem?_set]
  split
  ·rename_i e;subst e;rw[hj];split
   ·rfl
   ·rename_i hlt;rw[List.getElem?_eq_none (by omega)] at hj;cases hj
  ·rfl
 rw[e] at h
 intro a w hs
 refine h a w (hs.weak (fun _ _ h=>h) (fun t y hy=>?_))
 simp only[ww] at hy
 split at hy
 ·rename_i e';have:=beq_iff_eq.1 e';subst this;rw[hq];exact hy
 ·exact hy
theorem X4 {R:Act->World->Prop} (q j key:Nat) (k:Kd) {cs:List MV} (hq:ww L q=some (.cells cs)) (hj:cs[j]? = some .nils) (hk:1000<=key) (hfA:jX key A=true) (hfL:jW key L=true) (h:TE Γ N R A ((q,some (.cells (cs.set j (.sl key))))::(key,some (.rows k []))::L)):TE Γ N R A L:=fun a w hs=>h a w (hs.ownC hq hj key k hk hfA hfL)
end
end
section

abbrev ρ00:Nat->Hd:=fun _=>⟨0,0,0,false,0⟩
def Abs.of (cs:List MV):Abs:=⟨fun m vs=>CvL ρ00 m cs vs,fun h vs r=>CvL.mono h cs vs (fun _ _=>rfl) r⟩
theorem Ze {ρ ρ':Nat->Hd} {m:Mem} {cs:List MV} (h:MV.kfL cs=true) {vs:List Value} (r:CvL ρ m cs vs):CvL ρ' m cs vs:=CvL.mono (Mle.refl m) cs vs (fun d hd=>by rw[Wt d cs h] at hd;cases hd) r

theorem CvL.split {ρ:Nat->Hd} {m:Mem}:∀{l l':List MV} {vs:List Value},CvL ρ m (l++l') vs->∃v1 v2,vs=v1++v2/\CvL ρ m l v1/\CvL ρ m l' v2
 | [],_,vs,h=>⟨[],vs,rfl,rfl,h⟩
 | x::l,_,_,⟨v,us,h,r,s⟩=>by
  obtain ⟨v1,v2,rfl,h1,h2⟩:=CvL.split s
  exact ⟨v::v1,v2,by rw[h];rfl,⟨v,v1,rfl,r,h1⟩,h2⟩

theorem Hp.conv {X:Nat->Prop} {ρ:Nat->Hd} {m:Mem} {L L':Nat->Option MObj} {w:World} (h:Hp X ρ m L w) (hL:∀k o,L' k=some o->∃o',L k=some o'/\osat ρ m w k o) (hI:∀k o b,L' k=some o->inner ρ w k o b->L k=some o):Hp X ρ m L' w :=
 ⟨h.mem,fun k o hk=>by obtain ⟨_,_,ho⟩:=hL k o hk;exact ho,
  fun k o k' o' b hk hk' hf hf'=>by obtain ⟨_,h1,_⟩:=hL k o hk;obtain ⟨_,h2,_⟩:=hL k' o' hk';exact h.dj k _ k' _ b h1 h2 hf hf',
  fun k o b hk hf=>by obtain ⟨_,h1,_⟩:=hL k o hk;exact h.djm k _ b h1 hf,fun k o b hk hf=>by obtain ⟨_,h1,_⟩:=hL k o hk;exact h.djX k _ b h1 hf,h.lt,fun k o b hk hi=>by
   obtain ⟨i1,i2,i3,i4⟩:=h.inn k o b (hI k o b hk hi) hi
   exact ⟨i1,i2,fun k' o' hk' hf'=>by obtain ⟨_,h2,_⟩:=hL k' o' hk';exact i3 k' _ h2 hf',fun k' o' hk' hi'=>i4 k' o' (hI k' o' b hk' hi') hi'⟩⟩

theorem Zg {ρ:Nat->Hd} {m:Mem} {w:World} {k:Nat} {pre cs post:List MV} (hk:MV.kfL cs=true):osat ρ m w k (.ab (Abs.of (pre++(cs++post))))↔osat ρ m w k (.foc pre cs post):=by
 constructor
 ·rintro ⟨h,vs,T,h1,h2⟩
  obtain ⟨v1,v',rfl,g1,g2⟩:=CvL.split h2
  obtain ⟨v2,v3,rfl,g3,g4⟩:=CvL.split g2
  exact ⟨h,v1,v2,v3,T,h1,g1,Ze hk g3,g4⟩
 ·rintro ⟨h,v1,v2,v3,T,h1,g1,g3,g4⟩
  exact ⟨h,_,T,h1,g1.append ((Ze hk g3).append g4)⟩
theorem QK {ρ:Nat->Hd} {m:Mem} {w:World} {k:Nat} {cs:List MV} (hk:MV.kfL cs=true):osat ρ m w k (.ab (Abs.of cs))↔osat ρ m w k (.cells cs) :=
 ⟨fun ⟨h,vs,T,h1,h2⟩=>⟨h,vs,T,h1,Ze hk h2⟩,fun ⟨h,vs,T,h1,h2⟩=>⟨h,vs,T,h1,Ze hk h2⟩⟩

theorem vx {ρ:Nat->Hd} {m:Mem} {w:World} {k:Nat} {pre cs post:List MV} (h:osat ρ m w k (.foc pre cs post)) {j:Nat} {x:MV} (hx:cs[j]? = some x) :
  ∃v,w.cell? ⟨(ρ k).blk,pre.length+j,none⟩=some v/\Cv ρ m x v/\w.frozen? ⟨(ρ k).blk,pre.length+j,none⟩=false:=by
 obtain ⟨_,v1,v2,v3,T,h1,g1,g2,g3⟩:=h
 obtain ⟨v,hv,hc⟩:=g2.get j x hx
 refine ⟨v,?_,hc,by simp[World.frozen?,h1]⟩
 have hl:=g1.length
 rw[Wh h1,List.getElem?_toArray,List.getElem?_append_right (by omega),<-hl,show v1.length+j-v1.length=j by omega,List.getElem?_append_left (List.getElem?_eq_some_iff.1 hv).1]
 exact hv
theorem VN {ρ:Nat->Hd} {m:Mem} {w:World} {k:Nat} {pre cs post:List MV} (h:osat ρ m w k (.foc pre cs post)) {i:Nat} {x:MV} (hx:post[i]? = some x) :
  ∃v,w.cell? ⟨(ρ k).blk,pre.length+(cs.length+i),none⟩=some v/\Cv ρ00 m x v/\w.frozen? ⟨(ρ k).blk,pre.length+(cs.length+i),none⟩=false:=by
 obtain ⟨_,v1,v2,v3,T,h1,g1,g2,g3⟩:=h
 obtain ⟨v,hv,hc⟩:=g3.get i x hx
 refine ⟨v,?_,hc,by simp[World.frozen?,h1]⟩
 have hl:=g1.length
 have hl2:=g2.length
 rw[Wh h1,List.getElem?_toArray,<-List.append_assoc,List.getElem?_append_right (by simp;omega),<-hv]
 congr 1;simp;omega
theorem Hp.set1 {X:Nat->Prop} {ρ:Nat->Hd} {m:Mem} {L:Nat->Option MObj} {w:World} (h:Hp X ρ m L w) {key:Nat} {o:MObj} (hk:L key=some o) (hn:(ρ key).nil=false) {arr:Array Value} {T:TypeId} (hb:w.heap[(ρ key).blk]? = some (.cells arr T (0,0)))
  {off:Nat} (ho:off<arr.size) {v:Value} (hv:ocell v=true) {o':MObj} (hs:∀w',w'.heap[(ρ key).blk]? = some (.cells (arr.set off v ho) T (0,0))->osat ρ m w' key o') (hflat:Xw o'=true:=by rfl) :
  Hp X ρ m (fun k=>if key==k then some o' else L k) (w.setCell ⟨(ρ key).blk,off,none⟩ v)/\Nx X m m w (w.setCell ⟨(ρ key).blk,off,none⟩ v):=by
 obtain ⟨_,h2⟩:=Qr (P:=default) hb ho hv
 constructor
 ·refine h.turn key _ (fun b=>b=(ρ key).blk) (fun _ _=>rfl) (.inl rfl) (fun b _ hb=>h2.un b hb) (Nat.le_of_eq h2.size.symm) (fun b _ hb=>hb▸h.djm key _ _ hk ⟨hn,rfl⟩) (fun k o b hne hk' hf hb=>?_) (fun o ho'=>?_)
  ·exact hne (h.dj k o key _ b hk' hk hf ⟨hn,hb⟩)
  ·simp only[Option.some.injEq] at ho';subst ho'
   exact ⟨hs _ h2.at_,fun b hf=>⟨h.djm key _ _ hk hf,h.djX key _ _ hk hf,fun k o' hne hk' hf'=>hne (h.dj k o' key _ b hk' hk hf' hf)⟩⟩
 ·exact h2.nx (h.djX key _ _ hk ⟨hn,rfl⟩)

theorem Hp.setfoc {X:Nat->Prop} {ρ:Nat->Hd} {m:Mem} {L:Nat->Option MObj} {w:World} (h:Hp X ρ m L w) {key:Nat} {pre cs post:List MV} (hk:L key=some (.foc pre cs post)) {j:Nat} (hj:j<cs.length) {x:MV} {v:Value} (hx:Cv ρ m x v) (hv:ocell v=true) :
  Hp X ρ m (fun k=>if key==k then some (.foc pre (cs.set j x) post) else L k) (w.setCell ⟨(ρ key).blk,pre.length+j,none⟩ v)/\Nx X m m w (w.setCell ⟨(ρ key).blk,pre.length+j,none⟩ v):=by
 obtain ⟨hn,v1,v2,v3,T,h1,g1,g2,g3⟩:=h.obj _ _ hk
 have hl:=g1.length
 have hl2:=g2.length
 refine h.set1 hk hn h1 (by simp;omega) hv fun w' hw=>⟨hn,v1,v2.set j v,v3,T,?_,g1,CvL.set hx j g2,g3⟩
 rw[hw]
 simp only[List.set_toArray,Option.some.injEq,Obj.cells.injEq,and_true]
 congr 1
 rw[List.set_append_right _ _ (by omega),<-hl,show v1.length+j-v1.length=j by omega,List.set_append_left _ _ (by omega)]
theorem Hp.setpost {X:Nat->Prop} {ρ:Nat->Hd} {m:Mem} {L:Nat->Option MObj} {w:World} (h:Hp X ρ m L w) {key:Nat} {pre cs post:List MV} (hk:L key=some (.foc pre cs post)) {i:Nat} (hi:i<post.length) {x:MV} {v:Value} (hx:Cv ρ00 m x v) (hv:ocell v=true) :
  Hp X ρ m (fun k=>if key==k then some (.foc pre cs (post.set i x)) else L k) (w.setCell ⟨(ρ key).blk,pre.length+(cs.length+i),none⟩ v)/\Nx X m m w (w.setCell ⟨(ρ key).blk,pre.length+(cs.length+i),none⟩ v):=by
 obtain ⟨hn,v1,v2,v3,T,h1,g1,g2,g3⟩:=h.obj _ _ hk
 have hl:=g1.length
 have hl2:=g2.length
 have hl3:=g3.length
 refine h.set1 hk hn h1 (by simp;omega) hv fun w' hw=>⟨hn,v1,v2,v3.set i v,T,?_,g1,g2,CvL.set hx i g3⟩
 rw[hw]
 simp only[List.set_toArray,Option.some.injEq,Obj.cells.injEq,and_true]
 congr 1
 rw[List.set_append_right _ _ (by omega),<-hl,show v1.length+(cs.length+i)-v1.length=cs.length+i by omega,List.set_append_right _ _ (by omega),<-hl2,show v2.length+i-v2.length=i by omega]
theorem Hp.drew {X:Nat->Prop} {ρ:Nat->Hd} {m:Mem} {L:Nat->Option MObj} {w:World} (h:Hp X ρ m L w):Hp X ρ m L w.drew/\Nx X m m w w.drew :=
 ⟨h.heap rfl,⟨Mle.refl m,fun _ _=>rfl,fun _ _=>rfl,Nat.le_refl _,rfl,rfl,rfl⟩⟩

def tcell:Option Li->List MV
  | none=>[.int .u32 0,.int .i32 0,.int .u32 0,.nils]
  | some l=>[.int .u32 1,.int .i32 0,.int .u32 0,.im (.slice (.int .i16)) l]
def tcs (t:List (Option Li)):List MV:=t.flatMap tcell
def pst (t:List (Option Li)) (a b:Int):List MV:=tcs t++[.int .i64 a,.int .i64 b]
def bkA (t:List (Option Li)) (a b:Int):Abs:=Abs.of (pst t a b)
theorem YN (x:Option Li):(tcell x).length=4:=by cases x<;>rfl
theorem Zo (x:Option Li):MV.kfL (tcell x)=true:=by cases x<;>rfl
theorem xx:∀t:List (Option Li),(tcs t).length=t.length*4
 | []=>rfl
 | x::t=>by
  have:=xx t
  unfold tcs at this ⊢
  rw[List.flatMap_cons,List.length_append,this,YN,List.length_cons];omega
theorem uA (t0 t1:List (Option Li)) (x:Option Li) (a b:Int):pst (t0++x::t1) a b=tcs t0++(tcell x++pst t1 a b):=by
 simp[pst,tcs,List.append_assoc]
theorem Vv (t:List (Option Li)) (a b:Int):(pst t a b)[t.length*4]? = some (.int .i64 a):=by
 unfold pst;rw[List.getElem?_append_right (by rw[xx];exact Nat.le_refl _),xx];simp
theorem UY (t:List (Option Li)) (a b:Int):(pst t a b)[t.length*4+1]? = some (.int .i64 b):=by
 unfold pst;rw[List.getElem?_append_right (by rw[xx];omega),xx,show t.length*4+1-t.length*4=1 by omega];rfl
theorem UF (t:List (Option Li)) (a b c:Int):(pst t a b).set (t.length*4) (.int .i64 c)=pst t c b:=by
 unfold pst;rw[List.set_append_right _ _ (by rw[xx];exact Nat.le_refl _),xx];simp
theorem U7 (t:List (Option Li)) (a b c:Int):(pst t a b).set (t.length*4+1) (.int .i64 c)=pst t a c:=by
 unfold pst;rw[List.set_append_right _ _ (by rw[xx];omega),xx,show t.length*4+1-t.length*4=1 by omega];rfl
theorem v6:∀l l':List MV,MV.kfL l=true->MV.kfL l'=true->MV.kfL (l++l')=true
 | [],_,_,h=>h
 | x::l,l',h,h'=>by
  simp only[MV.kfL,Bool.and_eq_true,List.cons_append] at h ⊢
  exact ⟨h.1,v6 l l' h.2 h'⟩
theorem Uc:∀t:List (Option Li),MV.kfL (tcs t)=true
 | []=>rfl
 | x::t=>by
  have:=Uc t
  unfold tcs at this ⊢
  rw[List.flatMap_cons];exact v6 _ _ (Zo x) this
theorem Hg (t:List (Option Li)) (a b:Int):MV.kfL (pst t a b)=true:=v6 _ _ (Uc t) rfl
theorem tk {α:Type} {t:List α} {j:Nat} {x:α} (h:t[j]? = some x):t.take j++x::t.drop (j+1)=t:=by
 obtain ⟨hj,rfl⟩:=List.getElem?_eq_some_iff.1 h
 rw[List.getElem_cons_drop,List.take_append_drop]
theorem Q2 {t:List (Option Li)} {o:Nat} (h1:t.length=388) (h2:o=o/4*4) (h3:o/4<388):(tcs (t.take (o/4))).length=o:=by
 rw[xx,List.length_take];omega
end
section

def Zw:List (Nat×Option MObj)->List (Nat×Option MObj)->Prop
  | [],_=>True
  | (k,o)::l,L=>(o.isSome=true/\ww L k=o)/\Zw l L
theorem Zw.get:∀{l L:List (Nat×Option MObj)},Zw l L->∀q∈l,q.2.isSome=true/\ww L q.1=q.2
 | [],_,_,q,h=>by cases h
 | (k,o)::l,L,⟨h1,h2⟩,q,h=>by
  rcases List.mem_cons.1 h with rfl|h
  ·exact h1
  ·exact Zw.get h2 q h

theorem WH (p:Nat->Bool) (Lf:Nat->Option MObj) {k:Nat} (hp:p k=false):∀U:List (Nat×Option MObj),qQ (U.filter fun q=>p q.1) Lf k=Lf k
 | []=>rfl
 | (k',o)::U=>by
  rw[List.filter_cons]
  split
  ·rename_i h
   have hne:¬(k'==k)=true:=fun e=>by rw[beq_iff_eq.1 e,hp] at h;cases h
   simp only[qQ,if_neg hne]
   exact WH p Lf hp U
  ·exact WH p Lf hp U
theorem Qq (p:Nat->Bool) (Lf:Nat->Option MObj) (k:Nat):∀U:List (Nat×Option MObj),(∀q∈U,p q.1=false->Lf q.1=q.2)->qQ U Lf k=qQ (U.filter fun q=>p q.1) Lf k
 | [],_=>rfl
 | (k',o)::U,h=>by
  have ih:=Qq p Lf k U (fun q hq=>h q (List.mem_cons_of_mem _ hq))
  rw[List.filter_cons]
  by_cases e:(k'==k)=true
  ·have e':=beq_iff_eq.1 e
   subst e'
   simp only[qQ,if_pos e]
   split
   ·simp only[qQ,if_pos e]
   ·rename_i hp
    rw[WH p Lf (by simpa using hp) U]
    exact (h (k',o) (List.mem_cons_self ..) (by simpa using hp)).symm
  ·simp only[qQ,if_neg e]
   split
   ·simp only[qQ,if_neg e];exact ih
   ·exact ih

section
variable {P:Program} {Γ:Gd} {N:Nat} {Q:Exit->Act->World->Prop} {A:List (Nat×MV)} {L:List (Nat×Option MObj)} {r:Rg} {G:Prop}
theorem Qs {vA:List (Nat×MV)} {vL:List (Nat×Option MObj)} {i:Nat} {D:List (Nat×MV)} {U:List (Nat×Option MObj)} (p:Nat->Bool) (h:Wd P Γ N Q r vA vL (D,U) i) (hs:Zw (U.filter fun q=>!(p q.1)) vL):Wd P Γ N Q r vA vL (D,U.filter fun q=>p q.1) i:=by
 intro Af Lf a w hA hL hn hst K hK
 refine h Af Lf a w hA hL hn hst K (fun a1 w1 h1=>hK a1 w1 ?_)
 have e:qQ (U.filter fun q=>p q.1) Lf=qQ U Lf:=by
  funext k
  refine (Qq p Lf k U (fun q hq hp=>?_)).symm
  obtain ⟨g1,g2⟩:=hs.get q (List.mem_filter.2 ⟨hq,by simp[hp]⟩)
  obtain ⟨o,ho⟩:=Option.isSome_iff_exists.1 g1
  rw[ho] at g2 ⊢
  exact hL _ _ g2
 simp only[e]
 exact h1
theorem kN {ex:Nat->List Nat} {l:List De} {n:Nat} {o:Oper} {f:FuncId} {xs ys:List MV} {Lc Lc':List (Nat×Option MObj)} {res:MV} {C:Prop} (n':Nat) (hn':n'=n+1) (hn:n<r.ops.size) (π:List (Nat×Nat)) (ho:r.ops[n]? = some o) (hF:Fn P f xs Lc res Lc') (hf:fnb P f=true)
  (h:j1 (jB r (fnR n l) A n) o.op=some (f,ys,C)) (hC:C) (hys:ys=MV.renL (sg π) xs) (hsub:vc (jf (sg π) Lc) (yn r ex (fnR n l) L n)) (hb:vd (sg π) N o.dst o.guard.isNone ((wF Lc').map (sg π)) (r.nk n) Lc Lc' res=true)
  (hsm:Zw ((jf (sg π) Lc').filter fun q=>!((r.wk n).contains q.1)) (yn r ex (fnR n l) L n))
  (k:AJR P Γ N Q r ex A L G n' ((yF o.dst (res.ren (sg π)) [],(jf (sg π) Lc').filter fun q=>(r.wk n).contains q.1)::l)):AJR P Γ N Q r ex A L G n l:=by
 subst hn'
 have h1:=Qd (P:=P) (Γ:=Γ) (N:=N) (Q:=Q) (r:={ r with wk:=fun _=>(wF Lc').map (sg π) }) (i:=n) π ho hF h hC hf hys hsub hb
 refine yD hn ⟨Qs (fun k=>(r.wk n).contains k) h1.1 hsm,h1.2.1,fun k hk=>?_⟩ k
 simp only[zq,List.any_eq_true,beq_iff_eq,List.mem_filter] at hk
 obtain ⟨q,⟨_,hq⟩,rfl⟩:=hk
 simpa using hq
theorem J1 {ex:Nat->List Nat} {l:List De} {n j dj:Nat} {o oj:Oper} {want b:Bool} {f:FuncId} {xs ys:List MV} {Lc Lc':List (Nat×Option MObj)} {res:MV} {C:Prop} (n':Nat) (hn':n'=n+1) (hn:n<r.ops.size) (hb:b=want) (π:List (Nat×Nat)) (ho:r.ops[n]? = some o) (hg:o.guard=some (j,want)) (hj:r.ops[j]? = some oj) (hdj:oj.dst=some dj) (hv:get (jB r (fnR n l) A n) dj=some (.bool b))
  (hF:Fn P f xs Lc res Lc') (hf:fnb P f=true) (h:j1 (jB r (fnR n l) A n) o.op=some (f,ys,C)) (hC:C) (hys:ys=MV.renL (sg π) xs) (hsub:vc (jf (sg π) Lc) (yn r ex (fnR n l) L n)) (hc:vd (sg π) N o.dst true ((wF Lc').map (sg π)) (r.nk n) Lc Lc' res=true)
  (hsm:Zw ((jf (sg π) Lc').filter fun q=>!((r.wk n).contains q.1)) (yn r ex (fnR n l) L n))
  (k:AJR P Γ N Q r ex A L G n' ((yF o.dst (res.ren (sg π)) [],(jf (sg π) Lc').filter fun q=>(r.wk n).contains q.1)::l)):AJR P Γ N Q r ex A L G n l:=by
 subst hn'
 have h1:=KM (P:=P) (Γ:=Γ) (N:=N) (Q:=Q) (r:={ r with wk:=fun _=>(wF Lc').map (sg π) }) (i:=n) π ho hg hj hdj hv hb hF h hC hf hys hsub hc
 refine yD hn ⟨Qs (fun k=>(r.wk n).contains k) h1.1 hsm,h1.2.1,fun k hk=>?_⟩ k
 simp only[zq,List.any_eq_true,beq_iff_eq,List.mem_filter] at hk
 obtain ⟨q,⟨_,hq⟩,rfl⟩:=hk
 simpa using hq
end
end
section
def Mt {α:Type} (f:Nat->α) (n:Nat):List α:=(List.range n).map f
def accf {σ:Type} (g:Nat->σ->σ) (s:σ):Nat->σ
  | 0=>s
  | k+1=>g k (accf g s k)
end
section
section
variable {P:Program} {Γ:Gd} {N:Nat} {Q:Exit->Act->World->Prop} {A:List (Nat×MV)} {L:List (Nat×Option MObj)}
end
end
section

theorem Sat.freezeR {Γ:Gd} {N:Nat} {A:List (Nat×MV)} {L:List (Nat×Option MObj)} {a:Act} {w:World} (hs:Sat Γ N (get A) (ww L) a w) {key:Nat} {e:Kd} {xss:List (List e.T)} (hk:ww L key=some (.rr true e xss none)) :
  Sat Γ N (get (Kr key (.slice e) xss A)) (ww (WV key (.slice e) xss L)) a w:=by
 obtain ⟨h1,h2,ρ,m,h3,h4,h5,h6⟩:=hs
 obtain ⟨g0,g1,g2⟩:=h4.obj _ _ hk
 have sel:∀q o,ww (WV key (.slice e) xss L) q=some o->q≠key/\∃o',ww L q=some o'/\o=o'.frz key (.slice e) xss:=by
  intro q o ho
  simp only[WV,ww] at ho
  split at ho
  ·cases ho
  ·rename_i e
   exact ⟨fun x=>e (by rw[x];exact beq_self_eq_true key),Wm ho⟩
 have fin:∀m',Mle m m'->(Kd.slice (.slice e)).R m' xss [(ρ key).hdr]->(∀b o,m' b=some o->w.heap[b]? = some o)->(∀b,m' b=m b\/foot ρ key b\/inner ρ w key (.rr true e xss none) b)->Sat Γ N (get (Kr key (.slice e) xss A)) (ww (WV key (.slice e) xss L)) a w:=by
  intro m' hm hR hM hsame
  have hni:∀q o b,q≠key->ww L q=some o->inner ρ w q o b->m' b=m b:=fun q o b hne hq hi=>(hsame b).resolve_right fun hf'=>hf'.elim (fun hf'=>(h4.inn q o b hq hi).2.2.1 key _ hk hf') (fun hf'=>hne ((h4.inn q o b hq hi).2.2.2 key _ hk hf'))
  have hnf:∀q o b,q≠key->ww L q=some o->foot ρ q b->m' b=m b:=fun q o b hne hq hf=>(hsame b).resolve_right fun hf'=>hf'.elim (fun hf'=>hne (h4.dj q o key _ b hq hk hf hf')) (fun hf'=>(h4.inn key _ b hk hf').2.2.1 q o hq hf)
  refine ⟨h1,h2,ρ,m',fun s y hy=>?_,⟨hM,fun q o ho=>?_,fun q o q' o' b ho ho' hf hf'=>?_,fun q o b ho hf=>?_,fun q o b ho hf=>?_,h4.lt,fun q o b ho hi=>?_⟩,⟨h5.le.trans hm,fun b hX=>?_,h5.un,h5.size,h5.os,h5.out,h5.tape⟩,h6⟩
  ·obtain ⟨x,hx,rfl⟩:=W1 hy
   obtain ⟨v,hv,hc⟩:=h3 s x hx
   exact ⟨v,hv,vz hm hR x v hc⟩
  ·obtain ⟨hne,o',ho',rfl⟩:=sel q o ho
   have:=h4.obj q o' ho'
   cases o' with
   | cells cs=>obtain ⟨p0,vs,T,p1,p2⟩:=this;exact ⟨p0,vs,T,p1,yb hm hR cs vs p2⟩
   | rows k' ys=>exact osat.mono hm (fun _ _=>rfl) rfl (fun _ _=>rfl) (fun _ _=>rfl) this
   | ab a=>exact osat.mono hm (fun _ _=>rfl) rfl (fun _ _=>rfl) (fun _ _=>rfl) this
   | bld T o=>exact osat.mono hm (fun _ _=>rfl) rfl (fun _ _=>rfl) (fun _ _=>rfl) this
   | brw e k' ys=>exact osat.mono hm (fun _ _=>rfl) rfl (fun _ _=>rfl) (fun _ _=>rfl) this
   | emp=>exact osat.mono hm (fun _ _=>rfl) rfl (fun _ _=>rfl) (fun _ _=>rfl) this
   | arr a b c=>exact osat.mono hm (fun _ _=>rfl) rfl (fun _ _=>rfl) (fun _ _=>rfl) this
   | hrow s cs =>
    obtain ⟨q1,q2,q3,q4,vs,T,q5,q6,q7⟩:=this
    have hl:(MV.frzL key (.slice e) xss cs).length=cs.length:=Zz cs
    exact ⟨by rw[hl];exact q1,q2,q3,q4,vs,T,q5,q6,by rw[hl];exact yb hm hR cs _ q7⟩
   | rr own e xss h=>exact Xj hm (fun x v hc=>vz hm hR x v hc) this
   | foc p cs q=>obtain ⟨p0,v1,v2,v3,T,p1,p2,p3,p4⟩:=this;exact ⟨p0,v1,v2,v3,T,p1,CvL.mono hm p v1 (fun _ _=>rfl) p2,yb hm hR cs v2 p3,CvL.mono hm q v3 (fun _ _=>rfl) p4⟩
  ·obtain ⟨_,o1,ho1,_⟩:=sel q o ho
   obtain ⟨_,o2,ho2,_⟩:=sel q' o' ho'
   exact h4.dj q o1 q' o2 b ho1 ho2 hf hf'
  ·obtain ⟨hne,o1,ho1,_⟩:=sel q o ho
   rw[hnf q o1 b hne ho1 hf];exact h4.djm q o1 b ho1 hf
  ·obtain ⟨hne,o1,ho1,_⟩:=sel q o ho
   exact h4.djX q o1 b ho1 hf
  ·obtain ⟨hne,o1,ho1,rfl⟩:=sel q o ho
   have hi1:=vH.1 hi
   obtain ⟨i1,i2,i3,i4⟩:=h4.inn q o1 b ho1 hi1
   refine ⟨by rw[hni q o1 b hne ho1 hi1];exact i1,i2,fun q' o' ho' hf'=>?_,fun q' o' ho' hi'=>?_⟩
   ·obtain ⟨_,o2,ho2,_⟩:=sel q' o' ho'
    exact i3 q' o2 ho2 hf'
   ·obtain ⟨_,o2,ho2,rfl⟩:=sel q' o' ho'
    exact i4 q' o2 ho2 (vH.1 hi')
  ·rw[(hsame b).resolve_right (fun hf=>hf.elim (fun hf=>h4.djX key _ b hk hf hX) (fun hf=>(h4.inn key _ b hk hf).2.1 hX))];exact h5.nm b hX
 rcases g2 with ⟨hn,rfl,_⟩|⟨hn,hcap,vs,T,hb,hvl,g3,_,g5⟩
 ·exact fin m (Mle.refl m) ⟨_,rfl,.inl ⟨none,by unfold Hd.hdr;rw[hn];rfl,rfl⟩⟩ h4.mem (fun b=>.inl rfl)
 ·classical
  let F:Nat->Prop:=fun b=>foot ρ key b\/inner ρ w key (.rr true e xss none) b
  let m':Mem:=fun b=>if F b then w.heap[b]? else m b
  have hmF:∀b,F b->m b=none:=fun b hF=>hF.elim (fun hf=>h4.djm key _ _ hk hf) (fun hi=>(h4.inn key _ b hk hi).1)
  have hle:Mle m m':=fun b o ho=>by
   show (if F b then _ else m b)=some o
   rw[if_neg (fun hF=>by rw[hmF b hF] at ho;cases ho)];exact ho
  refine fin m' hle ⟨_,rfl,.inr ⟨(ρ key).blk,0,(ρ key).cap,vs.toArray,T,(0,0),by unfold Hd.hdr;rw[hn,g0];rfl,hcap,?_,?_,fun i hi=>?_⟩⟩ (fun b o ho=>?_) (fun b=>?_)
  ·show (if F (ρ key).blk then w.heap[(ρ key).blk]? else _)=_
   rw[if_pos (.inl ⟨hn,rfl⟩)];exact hb
  ·show 0+xss.length*1<=vs.toArray.size
   simp;omega
  ·obtain ⟨v,hv,hr⟩:=g3 i hi (by simp[hole])
   obtain ⟨hlt,hve⟩:=List.getElem?_eq_some_iff.1 hv
   have e1:((vs.toArray.toList.drop (0+i*(Kd.slice e).n)).take (Kd.slice e).n)=[v]:=by
    show ((vs.drop (0+i*1)).take 1)=[v]
    rw[Nat.zero_add,Nat.mul_one,List.drop_eq_getElem_cons hlt,hve];rfl
   rw[e1]
   refine ⟨v,rfl,?_⟩
   rcases hr with ⟨rfl,hx⟩|⟨b,cap,us,T2,rfl,r2,r3,r4,r5⟩
   ·exact .inl ⟨none,rfl,hx⟩
   ·refine .inr ⟨b,0,cap,us.toArray,T2,(0,0),rfl,r2,?_,?_,fun p hp=>?_⟩
    ·show (if F b then w.heap[b]? else _)=_
     rw[if_pos (.inr ⟨rfl,hn,vs,T,i,_,_,hb,hi,by simp[hole],hv⟩)];exact r3
    ·have:xss[i].length*e.n<=cap*e.n:=Nat.mul_le_mul_right _ r2
     simp;omega
    ·have:=Kd.R.mono hle e _ _ (r5 p hp)
     simpa using this
  ·have:(if F b then w.heap[b]? else m b)=some o:=ho
   by_cases hF:F b
   ·rw[if_pos hF] at this;exact this
   ·rw[if_neg hF] at this;exact h4.mem b o this
  ·by_cases hF:F b
   ·exact .inr hF
   ·exact .inl (if_neg hF)

theorem CvL.setAt {ρ:Nat->Hd} {m:Mem} {x y:MV} (hxy:∀v,Cv ρ m x v->Cv ρ m y v):∀{l:List MV} {vs:List Value} (j:Nat),l[j]? = some x->CvL ρ m l vs->CvL ρ m (l.set j y) vs
 | [],_,j,h,_=>by simp at h
 | z::l,_,0,h,⟨v,us,e,h1,h2⟩=>by
  simp only[List.getElem?_cons_zero,Option.some.injEq] at h;subst h
  exact ⟨v,us,e,hxy v h1,h2⟩
 | z::l,_,j+1,h,⟨v,us,e,h1,h2⟩=>⟨v,us,e,h1,CvL.setAt hxy j (by simpa using h) h2⟩
theorem jv {Γ:Gd} {N:Nat} {A:List (Nat×MV)} {L:List (Nat×Option MObj)} {R:Act->World->Prop} (key j:Nat) (k:Kd) {l:List MV} (hn:ww L key=some (.cells l)) (hj:l[j]? = some .nils) (h:TE Γ N R A ((key,some (.cells (l.set j (.im (.slice k) []))))::L)):TE Γ N R A L:=by
 intro a w hs
 refine h a w ?_
 obtain ⟨h1,h2,ρ,m,h3,h4,h5,h6⟩:=hs
 refine ⟨h1,h2,ρ,m,h3,?_,h5,h6⟩
 have t:=h4.turn (ρ':=ρ) (w':=w) key (some (.cells (l.set j (.im (.slice k) [])))) (fun _=>False) (fun _ _=>rfl) (.inl rfl) (fun _ _ _=>rfl) (Nat.le_refl _) (fun _ _ hf=>hf.elim) (fun _ _ _ _ _ _ hf=>hf) (fun o ho=>by
  simp only[Option.some.injEq] at ho;subst ho
  obtain ⟨g0,vs,T,g1,g2⟩:=h4.obj _ _ hn
  refine ⟨⟨g0,vs,T,g1,CvL.setAt (fun u hu=>?_) j hj g2⟩,fun b hf=>⟨h4.djm key _ _ hn hf,h4.djX key _ _ hn hf,fun k' o' hne hk' hf'=>hne (h4.dj k' o' key _ b hk' hn hf' hf)⟩⟩
  simp only[Cv] at hu;subst hu
  exact ⟨_,rfl,.inl ⟨none,rfl,rfl⟩⟩)
 exact t
section
variable {P:Program} {Γ:Gd} {N:Nat} {Q:Exit->Act->World->Prop} {A A':List (Nat×MV)} {L L':List (Nat×Option MObj)}
theorem gD {R:Act->World->Prop} (key:Nat) {e:Kd} {xss:List (List e.T)} (hk:ww L key=some (.rr true e xss none)) (h:TE Γ N R (Kr key (.slice e) xss A) (WV key (.slice e) xss L)):TE Γ N R A L:=fun a w hs=>h a w (hs.freezeR hk)
end
end
section

class Nn {α:Type} (o:Option α):Prop where
  out:o=none
instance {α:Type}:Nn (none:Option α):=⟨rfl⟩
instance {α:Type} {C:Prop} {d:Decidable C} {o:Option α} [k:Nn o]:Nn (@gd α C d o):=⟨by unfold gd;rw[k.out];split<;>rfl⟩
theorem nsomx {α:Type} {o:Option α} {z:α} [k:Nn o] (h:o=some z):False:=by rw[k.out] at h;cases h
theorem Z0 (s:ByteArray) (cap:Nat):(bytesRow s cap).toList=(sbytes s).map (Value.int .u8)++List.replicate (cap-s.size) (.int .u8 0):=by
 unfold bytesRow sbytes
 simp

theorem Gp (m:Mem) (s:ByteArray) {b cap:Nat} {e:TypeId} {fr:Nat×Nat} (hc:s.size<=cap) (hm:m b=some (.cells (bytesRow s cap) e fr)):(Kd.slice (.int .u8)).R m (sbytes s) [.slice (some ⟨b,0,none⟩) s.size cap]:=by
 have hl:=vY s
 refine ⟨_,rfl,.inr ⟨b,0,cap,bytesRow s cap,e,fr,by rw[hl],by omega,hm,?_,fun i hi=>?_⟩⟩
 ·have:(bytesRow s cap).size=s.size+(cap-s.size):=by
   unfold bytesRow;simp
  simp only[Kd.n];omega
 ·show _=[Value.int .u8 _]
  rw[Z0]
  simp only[Kd.n,Nat.mul_one,Nat.zero_add]
  rw[List.drop_append_of_le_length (by simp;omega),List.take_append_of_le_length (by simp;omega)]
  apply List.ext_getElem
  ·simp;omega
  ·intro k h1 h2
   have:k=0:=by simp at h2;omega
   subst this
   simp

theorem Sat.bytes {Γ:Gd} {N:Nat} {A:Nat->Option MV} {L:Nat->Option MObj} {a:Act} {w:World} (hs:Sat Γ N A L a w) (s:ByteArray) (e:TypeId) (cap:Nat) (fr:Nat×Nat) (hc:s.size<=cap) (d:Nat) (hd:d<N) :
  Sat Γ N (vq (some d) (.im (.slice (.int .u8)) (sbytes s)) A) L (a.put (some d) (.slice (some ⟨w.heap.size,0,none⟩) s.size cap)) (w.drew.alloc (.cells (bytesRow s cap) e fr)):=by
 obtain ⟨h1,h2,ρ,m,h3,h4,h5,h6⟩:=hs
 let nb:=Obj.cells (bytesRow s cap) e fr
 let m':Mem:=fun b=>if b=w.heap.size then some nb else m b
 have hmn:m w.heap.size=none:=by
  cases hq:m w.heap.size with
  | none=>rfl
  | some o=>exact absurd (WG h4 hq) (Nat.lt_irrefl _)
 have hne:∀b,b<w.heap.size->m' b=m b:=fun b hb=>if_neg (by omega)
 have hm:Mle m m':=fun b o ho=>by
  have:=WG h4 ho
  rw[hne b this];exact ho
 have hh:∀b,b<w.heap.size->(w.drew.alloc nb).heap[b]? = w.heap[b]?:=fun b hb=>by
  show (w.heap.push nb)[b]? = _
  rw[Array.getElem?_push,if_neg (by omega)]
 have hfi:∀k o b,L k=some o->(inner ρ (w.drew.alloc nb) k o b↔inner ρ w k o b):=fun k o b hk=>xG rfl (fun hn=>hh _ (xy h4 hk ⟨hn,rfl⟩)) o b
 refine ⟨by rw[xS];exact h1,by rw[jD];exact h2,ρ,m',xe hm h3 (fun d' e'=>by cases e';rw[h1];exact hd) (fun _=>Gp m' s hc (if_pos rfl)) (fun _ _ _ _ _=>rfl),?_,?_,h6⟩
 ·refine ⟨fun b o ho=>?_,fun k o hk=>?_,h4.dj,fun k o b hk hf=>?_,h4.djX,fun b hb=>?_,fun k o b hk hi=>?_⟩
  ·by_cases e':b=w.heap.size
   ·have:(if b=w.heap.size then some nb else m b)=some o:=ho
    rw[if_pos e'] at this;cases this
    show (w.heap.push nb)[b]? = _
    rw[e'];simp
   ·have:(if b=w.heap.size then some nb else m b)=some o:=ho
    rw[if_neg e'] at this
    rw[hh b (WG h4 this)];exact h4.mem b o this
  ·exact osat.mono hm (fun _ _=>rfl) rfl (fun b hf=>hh b (xy h4 hk hf)) (fun b hi=>hh b (xU h4 hk hi)) (h4.obj k o hk)
  ·rw[hne b (xy h4 hk hf)];exact h4.djm k o b hk hf
  ·have:=h4.lt b hb
   show b<(w.heap.push nb).size
   simp;omega
  ·have hi':=(hfi k o b hk).1 hi
   obtain ⟨i1,i2,i3,i4⟩:=h4.inn k o b hk hi'
   exact ⟨by rw[hne b (xU h4 hk hi')];exact i1,i2,i3,fun k' o' hk' hi2=>i4 k' o' hk' ((hfi k' o' b hk').1 hi2)⟩
 ·refine h5.trans ⟨hm,fun b hb=>hne b (h4.lt b hb),fun b hb=>hh b (h4.lt b hb),?_,rfl,rfl,rfl⟩
  show w.heap.size<=(w.heap.push nb).size
  simp

def Vi (tab:Nat->Option TI) (S D:Nat):Bool:=(tab S).any (fun j=>j.tag==7)&&(tab D).any fun i=>i.slc&&(tab i.elem).any fun e=>e.ik==some .u8
theorem Ml:∀(d:TypeDesc),xJ d=7->d=.string:=by
 intro d h
 cases d<;>simp_all [xJ]

theorem K8 {P:Program} {Γ:Gd} {N:Nat} {Q:Exit->Act->World->Prop} {A:List (Nat×MV)} {L:List (Nat×Option MObj)} (E:Env P) {ops:Array Oper} {o:Oper} {l:List Oper} {S D:TypeId} {x:Operand} {s:ByteArray} {d:Nat} (hop:o.op=.convert S D x) (hg:o.guard=none) (hd:o.dst=some d) (hx:opd A x=some (.str s))
  (hb:Vi E.tab S D=true) (hdN:d<N) (k:TL P Γ N ops Q l ((d,.im (.slice (.int .u8)) (sbytes s))::A) L):TL P Γ N ops Q (o::l) A L:=by
 intro a w hs
 simp only[Vi,Bool.and_eq_true,Option.any_eq_true,beq_iff_eq] at hb
 obtain ⟨⟨j,hj,hj7⟩,i,hi,hsl,ie,hie,hik⟩:=hb
 have hS:P.underlying S=some .string:=by
  obtain ⟨t,h1,_,h3⟩:=(E.tok S j hj).und
  rw[h1,Ml t (by rw[h3,hj7])]
 have hD:=((E.tok D i hi).slc hsl).1
 have hE:=(E.tok i.elem ie hie).ik _ hik
 have hv:a.eval x=.string s:=by
  obtain ⟨_,_,ρ,m,h3,_⟩:=hs
  have:=WF (ρ:=ρ) (m:=m) (fun s x hx=>h3 s x hx) hx
  simpa only [Cv] using this
 refine wpList_plain hg fun K hK=>?_
 refine Oper.wp_mono (fun a w h=>hK a w h) ?_
 unfold Oper.wp
 have hrun:(execOp a.eval o).run P w=.ok (.value (.slice (some ⟨w.heap.size,0,none⟩) s.size (grownCap w s.size 0 i.elem))) (w.drew.alloc (.cells (bytesRow s (grownCap w s.size 0 i.elem)) i.elem ((bytesRow s (grownCap w s.size 0 i.elem)).size,(bytesRow s (grownCap w s.size 0 i.elem)).size+1))):=by
  obtain ⟨dst,op,ty,pos,after,guard⟩:=o
  simp only at hop
  subst hop
  show (do pure (Next.value (← convert S D (a.eval x))):Sem Next).run P w=_
  rw[hv,wc,run_bytes_of_string w S D i.elem s hS hD hE];rfl
 rw[hrun]
 have:=hs.bytes s i.elem (grownCap w s.size 0 i.elem) ((bytesRow s (grownCap w s.size 0 i.elem)).size,(bytesRow s (grownCap w s.size 0 i.elem)).size+1) (Go.grownCap_ge _ _ _ _) d hdN
 show wpList P ops Q l (a.put o.dst _) _
 rw[hd]
 exact k _ _ this
end
section

def gvl (ops:Array Oper) (A:List (Nat×MV)) (o:Oper):Option (MV×Bool) :=
  match o.guard with
  | some (j,want)=>(match (ops[j]?).bind (·.dst) with
    | some dj=>(match get A dj with|some x=>some (x,want)|none=>none)
    | none=>none)
  | none=>none

theorem WD {ops:Array Oper} {A:List (Nat×MV)} {o:Oper} {x:MV} {want:Bool} (h:gvl ops A o=some (x,want)):∃j oj dj,o.guard=some (j,want)/\ops[j]? = some oj/\oj.dst=some dj/\get A dj=some x:=by
 unfold gvl at h
 split at h
 ·rename_i j w hg
  split at h
  ·rename_i dj hdj
   split at h
   ·rename_i y hy
    simp only[Option.some.injEq,Prod.mk.injEq] at h
    obtain ⟨rfl,rfl⟩:=h
    obtain ⟨oj,h1,h2⟩:=Option.bind_eq_some_iff.1 hdj
    exact ⟨j,oj,dj,hg,h1,h2,hy⟩
   ·cases h
  ·cases h
 ·cases h

def WW (tab:Nat->Option TI) (N:Nat) (ops:Array Oper):List Nat->List Oper->List (Nat×MV)->List (Nat×Option MObj)->Option (List Oper×List (Nat×MV)×List (Nat×Option MObj)×Prop)
  | [],l,A,L=>some (l,A,L,True)
  | 0::cs,o::l,A,L=>match gvl ops A o with
    | some (.bool b,want)=>(match o.dst with
      | some d=>if d<N then (match WW tab N ops cs l ((d,.cnd false (.bool false))::A) L with
        | some (l',A',L',D)=>some (l',A',L',b=!want/\D)
        | none=>none) else none
      | none=>none)
    | some (.cnd t _,_)=>(match o.dst with
      | some d=>if d<N then (match WW tab N ops cs l ((d,.cnd false (.bool false))::A) L with
        | some (l',A',L',D)=>some (l',A',L',t=false/\D)
        | none=>none) else none
      | none=>none)
    | _=>none
  | 1::cs,o::l,A,L=>match gvl ops A o with
    | some (.bool b,want)=>(match jZ tab N ops 1 ({ o with guard:=none }::l) A L with
      | some (l1,A1,L1,C)=>(match WW tab N ops cs l1 A1 L1 with
        | some (l',A',L',D)=>some (l',A',L',b=want/\C/\D)
        | none=>none)
      | none=>none)
    | _=>none
  | (n+2)::cs,l,A,L=>match jZ tab N ops (n+1) l A L with
    | some (l1,A1,L1,C)=>(match WW tab N ops cs l1 A1 L1 with
      | some (l',A',L',D)=>some (l',A',L',C/\D)
      | none=>none)
    | none=>none
  | _,_,_,_=>none

theorem Wz {P:Program} (E:Env P) {Γ:Gd} {N:Nat} {ops:Array Oper} {Q:Exit->Act->World->Prop}:∀(cs:List Nat) {l l':List Oper} {A A':List (Nat×MV)} {L L':List (Nat×Option MObj)} {C:Prop},
  WW E.tab N ops cs l A L=some (l',A',L',C)->C->TL P Γ N ops Q l' A' L'->TL P Γ N ops Q l A L
 | [],l,l',A,A',L,L',C,h,_,k=>by
  simp only[WW,Option.some.injEq,Prod.mk.injEq] at h
  obtain ⟨rfl,rfl,rfl,_⟩:=h;exact k
 | 0::cs,[],l',A,A',L,L',C,h,_,_=>by simp[WW] at h
 | 0::cs,o::l,l',A,A',L,L',C,h,hC,k=>by
  simp only[WW] at h
  split at h
  ·rename_i b want hv
   obtain ⟨j,oj,dj,h1,h2,h3,h4⟩:=WD hv
   split at h
   ·rename_i d hd
    split at h
    case isFalse=>cases h
    rename_i hdN
    split at h
    ·rename_i l1 A1 L1 D hr
     simp only[Option.some.injEq,Prod.mk.injEq] at h;obtain ⟨rfl,rfl,rfl,rfl⟩:=h
     exact H7 (.bool false) h1 h2 h3 (hC.1▸h4) hd hdN (Wz E cs hr hC.2 k)
    ·cases h
   ·cases h
  ·rename_i t y want hv
   obtain ⟨j,oj,dj,h1,h2,h3,h4⟩:=WD hv
   split at h
   ·rename_i d hd
    split at h
    case isFalse=>cases h
    rename_i hdN
    split at h
    ·rename_i l1 A1 L1 D hr
     simp only[Option.some.injEq,Prod.mk.injEq] at h;obtain ⟨rfl,rfl,rfl,rfl⟩:=h
     exact H0 (.bool false) h1 h2 h3 (hC.1▸h4) hd hdN (Wz E cs hr hC.2 k)
    ·cases h
   ·cases h
  ·cases h
 | 1::cs,[],l',A,A',L,L',C,h,_,_=>by simp[WW] at h
 | 1::cs,o::l,l',A,A',L,L',C,h,hC,k=>by
  simp only[WW] at h
  split at h
  ·rename_i b want hv
   obtain ⟨j,oj,dj,h1,h2,h3,h4⟩:=WD hv
   split at h
   ·rename_i l1 A1 L1 D he
    split at h
    ·rename_i l2 A2 L2 F hr
     simp only[Option.some.injEq,Prod.mk.injEq] at h;obtain ⟨rfl,rfl,rfl,rfl⟩:=h
     exact vu h1 h2 h3 (hC.1▸h4) (yf E 1 he hC.2.1 (Wz E cs hr hC.2.2 k))
    ·cases h
   ·cases h
  ·cases h
 | (n+2)::cs,l,l',A,A',L,L',C,h,hC,k=>by
  simp only[WW] at h
  split at h
  ·rename_i l1 A1 L1 D he
   split at h
   ·rename_i l2 A2 L2 F hr
    simp only[Option.some.injEq,Prod.mk.injEq] at h;obtain ⟨rfl,rfl,rfl,rfl⟩:=h
    exact yf E (n+1) he hC.1 (Wz E cs hr hC.2 k)
   ·cases h
  ·cases h

section
variable {P:Program} {Γ:Gd} {N:Nat} {Q:Exit->Act->World->Prop} {r:Rg}

def VE (tab:Nat->Option TI) (N:Nat) (r:Rg) (c:Nat) (vA:List (Nat×MV)) (vL:List (Nat×Option MObj)) (n:Nat):Option (De×Prop) :=
  match c with
  | 0=>Qm tab N r vA vL n
  | 1=>(match r.ops[n]? with
    | some o=>(match gvl r.ops vA o with
      | some (.bool b,want)=>(match Yc tab N (r.wk n) (r.nk n) o vA vL with
        | some (δ,C)=>some (δ,b=want/\C)
        | none=>none)
      | _=>none)
    | none=>none)
  | _=>(match r.ops[n]? with
    | some o=>(match gvl r.ops vA o with
      | some (.bool b,want)=>(match o.dst with
        | some d=>if d<N then some (([(d,.cnd false (.bool false))],[]),b=!want) else none
        | none=>none)
      | some (.cnd t _,_)=>(match o.dst with
        | some d=>if d<N then some (([(d,.cnd false (.bool false))],[]),t=false) else none
        | none=>none)
      | _=>none)
    | none=>none)

theorem Vx (E:Env P) {c:Nat} {vA:List (Nat×MV)} {vL:List (Nat×Option MObj)} {n:Nat} {δ:De} {C:Prop} (h:VE E.tab N r c vA vL n=some (δ,C)) (hC:C):Wd P Γ N Q r vA vL δ n/\De.ok r n δ:=by
 unfold VE at h
 split at h
 ·exact We E h hC
 ·split at h
  ·rename_i o ho
   split at h
   ·rename_i b want hv
    obtain ⟨j,oj,dj,h1,h2,h3,h4⟩:=WD hv
    split at h
    ·rename_i δ' D he
     simp only[Option.some.injEq,Prod.mk.injEq] at h;obtain ⟨rfl,rfl⟩:=h
     exact KU E ho h1 h2 h3 h4 hC.1 he hC.2
    ·cases h
   ·cases h
  ·cases h
 ·split at h
  ·rename_i o ho
   split at h
   ·rename_i b want hv
    obtain ⟨j,oj,dj,h1,h2,h3,h4⟩:=WD hv
    split at h
    ·rename_i d hd
     split at h
     case isFalse=>cases h
     rename_i hdN
     simp only[Option.some.injEq,Prod.mk.injEq] at h;obtain ⟨rfl,rfl⟩:=h
     exact UT (.bool false) ho h1 h2 h3 h4 hC hd hdN
    ·cases h
   ·rename_i t y want hv
    obtain ⟨j,oj,dj,h1,h2,h3,h4⟩:=WD hv
    split at h
    ·rename_i d hd
     split at h
     case isFalse=>cases h
     rename_i hdN
     simp only[Option.some.injEq,Prod.mk.injEq] at h;obtain ⟨rfl,rfl⟩:=h
     exact Uq (.bool false) ho h1 h2 h3 (hC▸h4) hd hdN
    ·cases h
   ·cases h
  ·cases h

def YT (tab:Nat->Option TI) (N:Nat) (r:Rg) (ex:Nat->List Nat) (A:List (Nat×MV)) (L:List (Nat×Option MObj)):List Nat->Nat->List De->Option (Nat×List De×Prop)
  | [],n,l=>some (n,l,True)
  | c::cs,n,l=>if n<r.ops.size then (match VE tab N r c (jB r (fnR n l) A n) (yn r ex (fnR n l) L n) n with
    | some (δ,C)=>(match YT tab N r ex A L cs (n+1) (δ::l) with
      | some (n',l',D)=>some (n',l',C/\D)
      | none=>none)
    | none=>none) else none

theorem QA (E:Env P) {ex:Nat->List Nat} {A:List (Nat×MV)} {L:List (Nat×Option MObj)} {G:Prop}:∀(cs:List Nat) {n n':Nat} {l l':List De} {C:Prop},YT E.tab N r ex A L cs n l=some (n',l',C)->C->AJR P Γ N Q r ex A L G n' l'->AJR P Γ N Q r ex A L G n l
 | [],n,n',l,l',C,h,_,k=>by
  simp only[YT,Option.some.injEq,Prod.mk.injEq] at h
  obtain ⟨rfl,rfl,_⟩:=h;exact k
 | c::cs,n,n',l,l',C,h,hC,k=>by
  simp only[YT] at h
  split at h
  case isFalse=>cases h
  rename_i hn
  split at h
  ·rename_i δ D he
   split at h
   ·rename_i n2 l2 F hr
    simp only[Option.some.injEq,Prod.mk.injEq] at h;obtain ⟨rfl,rfl,rfl⟩:=h
    exact yD hn (Vx E he hC.1) (QA E cs hr hC.2 k)
   ·cases h
  ·cases h

def xpT:List Nat->List Nat
  | []=>[]
  | c::cs=>match c%3 with
    | 0=>List.replicate (c/3) 0++xpT cs
    | 1=>List.replicate (c/3) 1++xpT cs
    | _=>(c/3+1)::xpT cs
def xpJ:List Nat->List Nat
  | []=>[]
  | c::cs=>List.replicate (c/3) (c%3)++xpJ cs
def bts (m:Nat):Nat->List Nat
  | 0=>[]
  | i+1=>bif Nat.beq (Nat.land (Nat.shiftRight m i) 1) 1 then i::bts m i else bts m i
def lkI (i:Nat):List (Nat×List Nat)->List Nat
  | []=>[]
  | (j,l)::t=>bif Nat.beq j i then l else lkI i t
def lkM (i:Nat):List (Nat×List Nat)->List Nat
  | []=>[]
  | (m,l)::t=>bif Nat.beq (Nat.land (Nat.shiftRight m i) 1) 1 then l else lkM i t
end
end
section

def Kd.flatB:Kd->Bool
  | .slice _=>false
  | .pair a b=>a.flatB&&b.flatB
  | _=>true
theorem Kd.flatB_ok {m m':Mem}:∀{k:Kd} {x:k.T} {cs:List Value},k.flatB=true->k.R m x cs->k.R m' x cs
 | .int _,_,_,_,h=>h
 | .bool,_,_,_,h=>h
 | .str,_,_,_,h=>h
 | .unit,_,_,_,h=>h
 | .ptr,_,_,_,h=>h
 | .hdr,_,_,_,h=>h
 | .slice _,_,_,h,_=>by cases h
 | .pair _ _,_,_,h,⟨c,d,e,r,s⟩=>by
  simp only[Kd.flatB,Bool.and_eq_true] at h
  exact ⟨c,d,e,Kd.flatB_ok h.1 r,Kd.flatB_ok h.2 s⟩
mutual
def MV.mf:MV->Bool
  | .im k _=>k.flatB
  | .pim _ _=>false
  | .agg l=>MV.mfL l
  | .tup l=>MV.mfL l
  | .fn _ l=>MV.mfL l
  | .ifc _ x=>x.mf
  | .bm _ x=>x.mf
  | .cnd _ x=>x.mf
  | _=>true
def MV.mfL:List MV->Bool
  | []=>true
  | x::l=>x.mf&&MV.mfL l
end
mutual
theorem Kx {ρ:Nat->Hd} {m m':Mem}:∀(x:MV) (v:Value),x.mf=true->Cv ρ m x v->Cv ρ m' x v
  | .im _ _,_,h,r=>by simp only[MV.mf] at h;simp only[Cv] at r ⊢;exact Kd.flatB_ok h r
  | .pim _ _,_,h,_=>by cases h
  | .agg l,_,h,⟨vs,e,r⟩=>⟨vs,e,WJ l vs (by simpa [MV.mf] using h) r⟩
  | .tup l,_,h,⟨vs,e,r⟩=>⟨vs,e,WJ l vs (by simpa [MV.mf] using h) r⟩
  | .fn _ l,_,h,⟨vs,e,r⟩=>⟨vs,e,WJ l vs (by simpa [MV.mf] using h) r⟩
  | .ifc _ x,_,h,⟨y,e,r⟩=>⟨y,e,Kx x y (by simpa [MV.mf] using h) r⟩
  | .bm _ x,_,h,⟨y,e,r⟩=>⟨y,e,Kx x y (by simpa [MV.mf] using h) r⟩
  | .cnd _ x,v,h,r=>⟨fun ht=>Kx x v (by simpa [MV.mf] using h) (r.1 ht),r.2⟩
  | .int _ _,_,_,r=>r
  | .bool _,_,_,r=>r
  | .str _,_,_,r=>r
  | .nilp,_,_,r=>r
  | .nils,_,_,r=>r
  | .nilf,_,_,r=>r
  | .nili,_,_,r=>r
  | .nilm,_,_,r=>r
  | .p _ _,_,_,r=>r
  | .pe _ _ _,_,_,r=>r
  | .sl _,_,_,r=>r
  | .mp _,_,_,r=>r
  | .hd _ _,_,_,r=>r
  | .sv _ _,_,_,r=>r
  | .sp _ _,_,_,r=>r
  | .pf _ _ _,_,_,r=>r
  | .raw _,_,_,r=>r
theorem WJ {ρ:Nat->Hd} {m m':Mem}:∀(l:List MV) (vs:List Value),MV.mfL l=true->CvL ρ m l vs->CvL ρ m' l vs
  | [],_,_,r=>r
  | x::l,_,h,⟨v,us,e,r,s⟩=>by
    simp only[MV.mfL,Bool.and_eq_true] at h
    exact ⟨v,us,e,Kx x v h.1 r,WJ l us h.2 s⟩
end
def MObj.mf:MObj->Bool
  | .cells cs=>MV.mfL cs
  | .rows k _=>k.flatB
  | .ab _=>false
  | .foc _ _ _=>false
  | .bld _ _=>true
  | .brw _ k _=>k.flatB
  | .hrow _ cs=>MV.mfL cs
  | .arr k _ _=>k.flatB
  | .emp=>true
  | .rr own e _ h=>own&&e.flatB&&h.isNone
theorem Hx {ρ:Nat->Hd} {m m':Mem} {w:World} {key:Nat}:∀{o:MObj},o.mf=true->osat ρ m w key o->osat ρ m' w key o
 | .cells cs,h,⟨h0,vs,T,h1,h2⟩=>⟨h0,vs,T,h1,WJ cs vs h h2⟩
 | .rows k xs,h,⟨h1,h2,h3⟩=>by
  refine ⟨h1,h2,?_⟩
  rcases h3 with h3|⟨hn,hc,vs,T,g1,g2,g3⟩
  ·exact .inl h3
  ·exact .inr ⟨hn,hc,vs,T,g1,g2,fun i hi=>Kd.flatB_ok h (g3 i hi)⟩
 | .ab _,h,_=>by cases h
 | .foc _ _ _,h,_=>by cases h
 | .bld _ _,_,r=>r
 | .brw _ k xs,h,⟨h1,h2,h3⟩=>by
  refine ⟨h1,h2,?_⟩
  rcases h3 with h3|⟨hn,hc,vs,g1,g2,g3⟩
  ·exact .inl h3
  ·exact .inr ⟨hn,hc,vs,g1,g2,fun i hi=>Kd.flatB_ok h (g3 i hi)⟩
 | .emp,_,r=>r
 | .arr k n xs,h,⟨h1,h2,vs,T,g1,g2,g3⟩=>⟨h1,h2,vs,T,g1,g2,fun i hi=>Kd.flatB_ok h (g3 i hi)⟩
 | .hrow s cs,h,⟨h1,h2,h3,h4,vs,T,g1,g2,g3⟩=>by
  refine ⟨h1,h2,h3,h4,vs,T,g1,g2,WJ cs _ h g3⟩
 | .rr own e xss hh,h,⟨h1,h2,h3⟩=>by
  simp only[MObj.mf,Bool.and_eq_true,Option.isNone_iff_eq_none] at h
  obtain ⟨⟨rfl,he⟩,rfl⟩:=h
  refine ⟨h1,h2,?_⟩
  rcases h3 with h3|⟨hn,hc,vs,T,g1,g2,g3,g4,g5⟩
  ·exact .inl h3
  ·refine .inr ⟨hn,hc,vs,T,g1,g2,fun i hl hne=>?_,(fun j x hj=>by cases hj),g5⟩
   obtain ⟨v,hv,hr⟩:=g3 i hl hne
   refine ⟨v,hv,?_⟩
   rcases hr with hr|⟨b,cap,us,T',r1,r2,r3,r4,r5⟩
   ·exact .inl hr
   ·exact .inr ⟨b,cap,us,T',r1,r2,r3,r4,fun j hj=>Kd.flatB_ok he (r5 j hj)⟩

def bor (k:Nat) (e:Kd) (l:List e.T):MV->MV
  | .sl q=>if q==k then .im (.slice e) l else .sl q
  | x=>x
theorem HD {ρ:Nat->Hd} {m:Mem} {k:Nat} {e:Kd} {l:List e.T} (hR:(Kd.slice e).R m l [(ρ k).hdr]) {x:MV} {v:Value} (h:Cv ρ m x v):Cv ρ m (bor k e l x) v:=by
 cases x with
 | sl q =>
  simp only[bor]
  split
  ·rename_i e'
   have:=beq_iff_eq.1 e';subst this
   simp only[Cv] at h ⊢;rw[h];exact hR
  ·exact h
 | _=>exact h
theorem XA {ρ:Nat->Hd} {m:Mem} {k:Nat} {e:Kd} {l:List e.T} (hR:(Kd.slice e).R m l [(ρ k).hdr]):∀{xs:List MV} {vs:List Value},CvL ρ m xs vs->CvL ρ m (xs.map (bor k e l)) vs
 | [],_,h=>h
 | _::_,_,⟨v,us,h,r,s⟩=>⟨v,us,h,HD hR r,XA hR s⟩

theorem Xz {k q:Nat} {o:Option MObj} {L:List (Nat×Option MObj)} (h:k≠q):ww ((k,o)::L) q=ww L q:=by
 simp only[ww];rw[if_neg (by simpa using h)]

theorem Hw {P:Program} {f:FuncId} {xs ys:List MV} {Lc Lc':List (Nat×Option MObj)} {res:MV} (k:Nat) {e:Kd} {l:List e.T} (hF:Fn P f ys Lc res Lc') (hk:k<1000) (hy:ys=xs.map (bor k e l))
  (hn:(wF Lc).contains k=false) (hn':(wF Lc').contains k=false) (hm:res.mf=true) (hL:(Lc'.all fun q=>match q.2 with|some o=>o.mf|none=>true)=true) :
  Fn P f xs ((k,some (.rows e l))::Lc) res ((k,some (.rows e l))::Lc'):=by
 intro X ρ m w vs hp hv
 have hk0:ww ((k,some (MObj.rows e l))::Lc) k=some (.rows e l):=by simp[ww]
 have nok:∀{L:List (Nat×Option MObj)} {q:Nat} {o:MObj},(wF L).contains k=false->ww L q=some o->k≠q:=fun {L q o} h ho e'=>by
  have:=jO ho
  rw[<-e',<-List.contains_iff_mem,h] at this
  cases this
 have old:∀q o,ww Lc q=some o->k≠q/\ww ((k,some (MObj.rows e l))::Lc) q=some o:=fun q o ho=>⟨nok hn ho,by rw[Xz (nok hn ho)];exact ho⟩
 obtain ⟨g0,g1,g2⟩:=hp.obj _ _ hk0
 -- with the block as data
 have fin:∀m1,Mle m m1->(Kd.slice e).R m1 l [(ρ k).hdr]->(∀b o,m1 b=some o->w.heap[b]? = some o)->(∀b,¬foot ρ k b->m1 b=m b) →
   Calls P f vs.toArray w fun en w'=>∃ρ' m' v,en=.returned v/\Cv ρ' m' res v/\Hp X ρ' m' (ww ((k,some (.rows e l))::Lc')) w'/\Nx X m m' w w'/\∀k,k<1000->ρ' k=ρ k:=by
  intro m1 hle hR hM hsame
  have hnf:∀q o b,k≠q->ww ((k,some (MObj.rows e l))::Lc) q=some o->foot ρ q b->¬foot ρ k b:=fun q o b hne hq hf hf'=>hne (hp.dj k _ q o b hk0 hq hf' hf)
  have hni:∀q o b,ww ((k,some (MObj.rows e l))::Lc) q=some o->inner ρ w q o b->¬foot ρ k b:=fun q o b hq hi hf'=>(hp.inn q o b hq hi).2.2.1 k _ hk0 hf'
  have hp1:Hp (fun b=>X b\/foot ρ k b) ρ m1 (ww Lc) w:=by
   refine ⟨hM,fun q o ho=>?_,fun q o q' o' b ho ho' hf hf'=>?_,fun q o b ho hf=>?_,fun q o b ho hf=>?_,fun b hb=>?_,fun q o b ho hi=>?_⟩
   ·exact osat.mono hle (fun _ _=>rfl) rfl (fun _ _=>rfl) (fun _ _=>rfl) (hp.obj q o (old q o ho).2)
   ·exact hp.dj q o q' o' b (old q o ho).2 (old q' o' ho').2 hf hf'
   ·obtain ⟨a1,a2⟩:=old q o ho
    rw[hsame b (hnf q o b a1 a2 hf)];exact hp.djm q o b a2 hf
   ·obtain ⟨a1,a2⟩:=old q o ho
    rintro (hX|hX)
    ·exact hp.djX q o b a2 hf hX
    ·exact hnf q o b a1 a2 hf hX
   ·rcases hb with hb|hb
    ·exact hp.lt b hb
    ·exact xy hp hk0 hb
   ·obtain ⟨a1,a2⟩:=old q o ho
    obtain ⟨i1,i2,i3,i4⟩:=hp.inn q o b a2 hi
    refine ⟨by rw[hsame b (hni q o b a2 hi)];exact i1,fun hX=>hX.elim i2 (hni q o b a2 hi),fun q' o' ho'=>i3 q' o' (old q' o' ho').2,fun q' o' ho'=>i4 q' o' (old q' o' ho').2⟩
  have hv1:CvL ρ m1 ys vs:=by
   rw[hy];exact XA hR (CvL.mono hle xs vs (fun _ _=>rfl) hv)
  refine (hF _ ρ m1 w vs hp1 hv1).mono ?_
  rintro en w' ⟨ρ',m1',v,rfl,hc,hp',hx,hρ⟩
  classical
  have hρk:ρ' k=ρ k:=hρ k hk
  have fk:∀b,foot ρ' k b↔foot ρ k b:=fun b=>by unfold foot;rw[hρk]
  have new:∀q o,ww ((k,some (MObj.rows e l))::Lc') q=some o->(k=q/\o=.rows e l)\/(k≠q/\ww Lc' q=some o):=fun q o ho=>by
   by_cases e':k=q
   ·subst e'
    simp only[ww,beq_self_eq_true,if_true,Option.some.injEq] at ho
    exact .inl ⟨rfl,ho.symm⟩
   ·rw[Xz e'] at ho;exact .inr ⟨e',ho⟩
  have hmfo:∀q o,ww Lc' q=some o->o.mf=true:=by
   have:∀{L:List (Nat×Option MObj)},(L.all fun q=>match q.2 with|some o=>o.mf|none=>true)=true->∀q o,ww L q=some o->o.mf=true:=by
    intro L
    induction L with
    | nil=>intro _ q o ho;simp[ww] at ho
    | cons a L ih =>
     intro h q o ho
     simp only[List.all_cons,Bool.and_eq_true] at h
     obtain ⟨a1,a2⟩:=a
     simp only[ww] at ho
     split at ho
     ·subst ho;exact h.1
     ·exact ih h.2 q o ho
   exact this hL
  have hin:∀b,¬inner ρ' w' k (.rows e l) b:=fun b h=>h
  refine ⟨ρ',fun b=>if foot ρ k b then none else m1' b,v,rfl,Kx res v hm hc,⟨fun b o ho=>?_,fun q o ho=>?_,fun q o q' o' b ho ho' hf hf'=>?_,fun q o b ho hf=>?_,fun q o b ho hf=>?_,fun b hb=>hp'.lt b (.inl hb),fun q o b ho hi=>?_⟩,
   ⟨fun b o ho=>?_,fun b hb=>?_,fun b hb=>hx.un b (.inl hb),hx.size,hx.os,hx.out,hx.tape⟩,hρ⟩
  ·have ho':(if foot ρ k b then none else m1' b)=some o:=ho
   split at ho'
   ·cases ho'
   ·exact hp'.mem b o ho'
  ·rcases new q o ho with ⟨rfl,rfl⟩|⟨_,ho⟩
   ·have hle2:Mle m (fun b=>if foot ρ k b then none else m1' b):=fun b o ho=>by
     show (if foot ρ k b then none else m1' b)=some o
     rw[if_neg (fun hf=>by rw[hp.djm k _ b hk0 hf] at ho;cases ho)]
     exact hx.le b o (hle b o ho)
    exact osat.mono hle2 (fun _ h=>by cases h) hρk (fun b hf=>hx.un b (.inr hf)) (fun _ h=>h.elim) ⟨g0,g1,g2⟩
   ·exact Hx (hmfo q o ho) (hp'.obj q o ho)
  ·rcases new q o ho with ⟨rfl,rfl⟩|⟨_,ho⟩
   ·rcases new q' o' ho' with ⟨e',_⟩|⟨_,ho'⟩
    ·exact e'
    ·exact (hp'.djX q' o' b ho' hf' (.inr ((fk b).1 hf))).elim
   ·rcases new q' o' ho' with ⟨rfl,rfl⟩|⟨_,ho'⟩
    ·exact (hp'.djX q o b ho hf (.inr ((fk b).1 hf'))).elim
    ·exact hp'.dj q o q' o' b ho ho' hf hf'
  ·show (if foot ρ k b then none else m1' b)=none
   rcases new q o ho with ⟨rfl,rfl⟩|⟨_,ho⟩
   ·rw[if_pos ((fk b).1 hf)]
   ·split
    ·rfl
    ·exact hp'.djm q o b ho hf
  ·rcases new q o ho with ⟨rfl,rfl⟩|⟨_,ho⟩
   ·exact hp.djX k _ b hk0 ((fk b).1 hf)
   ·exact fun hX=>hp'.djX q o b ho hf (.inl hX)
  ·rcases new q o ho with ⟨rfl,rfl⟩|⟨_,ho⟩
   ·exact (hin b hi).elim
   ·obtain ⟨i1,i2,i3,i4⟩:=hp'.inn q o b ho hi
    refine ⟨?_,fun hX=>i2 (.inl hX),fun q' o' ho' hf'=>?_,fun q' o' ho' hi'=>?_⟩
    ·show (if foot ρ k b then none else m1' b)=none
     split
     ·rfl
     ·exact i1
    ·rcases new q' o' ho' with ⟨rfl,rfl⟩|⟨_,ho'⟩
     ·exact i2 (.inr ((fk b).1 hf'))
     ·exact i3 q' o' ho' hf'
    ·rcases new q' o' ho' with ⟨rfl,rfl⟩|⟨_,ho'⟩
     ·exact (hin b hi').elim
     ·exact i4 q' o' ho' hi'
  ·show (if foot ρ k b then none else m1' b)=some o
   rw[if_neg (fun hf=>by rw[hp.djm k _ b hk0 hf] at ho;cases ho)]
   exact hx.le b o (hle b o ho)
  ·show (if foot ρ k b then none else m1' b)=m b
   have hnf':¬foot ρ k b:=fun hf=>hp.djX k _ b hk0 hf hb
   rw[if_neg hnf',hx.nm b (.inl hb),hsame b hnf']
 rcases g2 with ⟨hnl,hl⟩|⟨hnl,hcap,us,T,hb,hvl,hel⟩
 ·exact fin m (Mle.refl m) ⟨_,rfl,.inl ⟨none,by unfold Hd.hdr;rw[hnl];rfl,hl⟩⟩ hp.mem (fun _ _=>rfl)
 ·let m':Mem:=fun b=>if b=(ρ k).blk then some (.cells us.toArray T (0,0)) else m b
  have hmb:m (ρ k).blk=none:=hp.djm k _ _ hk0 ⟨hnl,rfl⟩
  have hle:Mle m m':=fun b o ho=>by
   show (if b=(ρ k).blk then _ else m b)=some o
   rw[if_neg (fun e'=>by rw[e',hmb] at ho;cases ho)];exact ho
  refine fin m' hle ⟨_,rfl,.inr ⟨(ρ k).blk,0,(ρ k).cap,us.toArray,T,(0,0),by unfold Hd.hdr;rw[hnl,g0];rfl,hcap,if_pos rfl,?_,fun i hi=>?_⟩⟩ (fun b o ho=>?_) (fun b hb'=>?_)
  ·have:l.length*e.n<=(ρ k).cap*e.n:=Nat.mul_le_mul_right _ hcap
   simp;omega
  ·have:=Kd.R.mono hle e _ _ (hel i hi)
   simpa using this
  ·have ho:(if b=(ρ k).blk then some (Obj.cells us.toArray T (0,0)) else m b)=some o:=ho
   by_cases e':b=(ρ k).blk
   ·rw[if_pos e'] at ho;cases ho;rw[e'];exact hb
   ·rw[if_neg e'] at ho;exact hp.mem b o ho
  ·exact if_neg (fun e'=>hb' ⟨hnl,e'⟩)
end
section

def My (k:Nat) (e:Kd) (l:List (List e.T)):MV->MV
  | .sl q=>if q==k then .im (.slice (.slice e)) l else .sl q
  | .sv q n=>if q==k then .im (.slice (.slice e)) (l.drop n) else .sv q n
  | .sp q n=>if q==k then .im (.slice (.slice e)) (l.take n) else .sp q n
  | x=>x
def vOk (k c:Nat):MV->Bool
  | .sv q n=>if q==k then Nat.ble n c else true
  | .sp q n=>if q==k then Nat.ble n c else true
  | _=>true
def Me (m:Mem) (e:Kd) (l:List (List e.T)) (h:Hd):Prop :=
  h.nil=false/\h.len=l.length/\h.sz=1/\l.length<=h.cap/\∃us T,m h.blk=some (.cells (List.toArray us) T (0,0))/\us.length=h.cap/\∀i (hi:i<l.length),∃v,us[i]? = some v/\(Kd.slice e).R m l[i] [v]
end
section

def Md (A:List (Nat×MV)) (t:TypeId) (name:String):Op->Option (List MV×Prop)
  | .call { callee:=.invoke r n,args,.. }=>match opg A none r,opgs A none args.toList with
    | some (.ifc t' x,C),some (ys,D)=>if t'==t&&n==name then some (x::ys,C/\D) else none
    | _,_=>none
  | _=>none
def Mu (P:Program) (t:TypeId) (name:String) (f:FuncId):Bool :=
  match P.info? t,P.underlying t with
  | some j,some (.pointer _)=>(match j.methods.find? (fun m=>m.name==name) with
    | some m=>m.path.toList.isEmpty&&(match m.func with|some (g,b)=>g==f&&b|none=>false)
    | none=>false)
  | _,_=>false
section
variable {P:Program} {Γ:Gd} {N:Nat} {Q:Exit->Act->World->Prop} {A A':List (Nat×MV)} {L L':List (Nat×Option MObj)}
end
section
variable {P:Program} {Γ:Gd} {N:Nat} {Q:Exit->Act->World->Prop} {A:List (Nat×MV)} {L:List (Nat×Option MObj)} {r:Rg} {G:Prop}
end

theorem Sat.arr {Γ:Gd} {N:Nat} {A:List (Nat×MV)} {L:List (Nat×Option MObj)} {a:Act} {w:World} (hs:Sat Γ N (get A) (ww L) a w) {key n:Nat} {ik:IntKind} {cs:List MV} {xs:Li} (hk:ww L key=some (.cells cs)) (hx:KK ik cs=some xs) (hn:xs.length=n) :
  Sat Γ N (get A) (ww ((key,some (.arr (.int ik) n xs))::L)) a w:=by
 obtain ⟨h1,h2,ρ,m,h3,h,h5,h6⟩:=hs
 refine ⟨h1,h2,ρ,m,h3,?_,h5,h6⟩
 have t:=h.turn (ρ':=ρ) (w':=w) key (some (.arr (.int ik) n xs)) (fun _=>False) (fun _ _=>rfl) (.inl rfl) (fun _ _ _=>rfl) (Nat.le_refl _) (fun _ _ hf=>hf.elim) (fun _ _ _ _ _ _ hf=>hf) (fun o ho=>by
  simp only[Option.some.injEq] at ho;subst ho
  obtain ⟨g0,vs,T,g1,g2⟩:=h.obj _ _ hk
  have hv:vs=xs.map (Value.int ik):=Qw (by rw[<-Zb hx];exact g2)
  refine ⟨⟨g0,hn,vs,T,g1,by rw[hv];simp[Kd.n,hn],v5 hv⟩,fun b hf=>⟨h.djm key _ _ hk hf,h.djX key _ _ hk hf,fun k' o' hne hk' hf'=>hne (h.dj k' o' key _ b hk' hk hf' hf)⟩⟩)
 exact t
section
variable {P:Program} {Γ:Gd} {N:Nat} {Q:Exit->Act->World->Prop} {A:List (Nat×MV)} {L:List (Nat×Option MObj)}
theorem y8 {ops:Array Oper} {l:List Oper} (key:Nat) (ik:IntKind) (n:Nat) (xs:Li) {cs:List MV} (hk:ww L key=some (.cells cs)) (hx:KK ik cs=some xs) (hn:xs.length=n) (h:TL P Γ N ops Q l A ((key,some (.arr (.int ik) n xs))::L)):TL P Γ N ops Q l A L:=fun a w hs=>h a w (hs.arr hk hx hn)
end
end
end Go.Fo
