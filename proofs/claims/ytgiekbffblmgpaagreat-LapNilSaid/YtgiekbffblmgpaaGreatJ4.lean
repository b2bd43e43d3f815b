/- The engine of this proof, part 4. -/
import Derived.Calls
import Derived.Orders
import Derived.Tactics
import Derived.KernelRfl
import Derived.Laws.BytesString
import Derived.ChangeSame
import Derived.ReadAgain
import Derived.RowKit3
import Derived.WideShapes
import Derived.Laws.StructEq
import Derived.ChangeKeysEq
import Derived.Lib.UnsafeStr
import Derived.Laws.IdiomStrings
import Derived.Test.YtgiekbffblmgpaaGreatJ3
namespace Go.Fo
section

abbrev ρ00:Nat->Hd:=fun _=>⟨0,0,0,false,0⟩
def Abs.of (cs:List MV):Abs:=⟨fun m vs=>CvL ρ00 m cs vs,fun h vs r=>CvL.mono h cs vs (fun _ _=>rfl) r⟩
theorem v8 {ρ ρ':Nat->Hd} {m:Mem} {cs:List MV} (h:MV.kfL cs=true) {vs:List Value} (r:CvL ρ m cs vs):CvL ρ' m cs vs:=CvL.mono (Mle.refl m) cs vs (fun d hd=>by rw [vI d cs h] at hd; cases hd) r

theorem CvL.split {ρ:Nat->Hd} {m:Mem}:∀ {l l':List MV} {vs:List Value},CvL ρ m (l++l') vs->∃ v1 v2,vs=v1++v2/\CvL ρ m l v1/\CvL ρ m l' v2
 | [],_,vs,h=>⟨[],vs,rfl,rfl,h⟩
 | x::l,_,_,⟨v,us,h,r,s⟩=>by
  obtain ⟨v1,v2,rfl,h1,h2⟩:=CvL.split s
  exact ⟨v::v1,v2,by rw [h]; rfl,⟨v,v1,rfl,r,h1⟩,h2⟩

theorem Hp.conv {X:Nat->Prop} {ρ:Nat->Hd} {m:Mem} {L L':Nat->Option MObj} {w:World} (h:Hp X ρ m L w) (hL:∀ k o,L' k=some o->∃ o',L k=some o'/\osat ρ m w k o) (hI:∀ k o b,L' k=some o->inner ρ w k o b->L k=some o):Hp X ρ m L' w :=
 ⟨h.mem,fun k o hk=>by obtain ⟨_,_,ho⟩:=hL k o hk; exact ho,
  fun k o k' o' b hk hk' hf hf'=>by obtain ⟨_,h1,_⟩:=hL k o hk; obtain ⟨_,h2,_⟩:=hL k' o' hk'; exact h.dj k _ k' _ b h1 h2 hf hf',
  fun k o b hk hf=>by obtain ⟨_,h1,_⟩:=hL k o hk; exact h.djm k _ b h1 hf,fun k o b hk hf=>by obtain ⟨_,h1,_⟩:=hL k o hk; exact h.djX k _ b h1 hf,h.lt,fun k o b hk hi=>by
   obtain ⟨i1,i2,i3,i4⟩:=h.inn k o b (hI k o b hk hi) hi
   exact ⟨i1,i2,fun k' o' hk' hf'=>by obtain ⟨_,h2,_⟩:=hL k' o' hk'; exact i3 k' _ h2 hf',fun k' o' hk' hi'=>i4 k' o' (hI k' o' b hk' hi') hi'⟩⟩

theorem WJ {ρ:Nat->Hd} {m:Mem} {w:World} {k:Nat} {pre cs post:List MV} (hk:MV.kfL cs=true):osat ρ m w k (.ab (Abs.of (pre++(cs++post))))↔osat ρ m w k (.foc pre cs post):=by
 constructor
 ·rintro ⟨h,vs,T,h1,h2⟩
  obtain ⟨v1,v',rfl,g1,g2⟩:=CvL.split h2
  obtain ⟨v2,v3,rfl,g3,g4⟩:=CvL.split g2
  exact ⟨h,v1,v2,v3,T,h1,g1,v8 hk g3,g4⟩
 ·rintro ⟨h,v1,v2,v3,T,h1,g1,g3,g4⟩
  exact ⟨h,_,T,h1,g1.append ((v8 hk g3).append g4)⟩
theorem Zx {ρ:Nat->Hd} {m:Mem} {w:World} {k:Nat} {cs:List MV} (hk:MV.kfL cs=true):osat ρ m w k (.ab (Abs.of cs))↔osat ρ m w k (.cells cs) :=
 ⟨fun ⟨h,vs,T,h1,h2⟩=>⟨h,vs,T,h1,v8 hk h2⟩,fun ⟨h,vs,T,h1,h2⟩=>⟨h,vs,T,h1,v8 hk h2⟩⟩

theorem yM {ρ:Nat->Hd} {m:Mem} {w:World} {k:Nat} {pre cs post:List MV} (h:osat ρ m w k (.foc pre cs post)) {j:Nat} {x:MV} (hx:cs[j]? = some x) :
  ∃ v,w.cell? ⟨(ρ k).blk,pre.length+j,none⟩=some v/\Cv ρ m x v/\w.frozen? ⟨(ρ k).blk,pre.length+j,none⟩=false:=by
 obtain ⟨_,v1,v2,v3,T,h1,g1,g2,g3⟩:=h
 obtain ⟨v,hv,hc⟩:=g2.get j x hx
 refine ⟨v,?_,hc,by simp [World.frozen?,h1]⟩
 have hl:=g1.length
 rw [vt h1,List.getElem?_toArray,List.getElem?_append_right (by omega),<-hl,show v1.length+j-v1.length=j by omega,List.getElem?_append_left (List.getElem?_eq_some_iff.1 hv).1]
 exact hv
theorem K6 {ρ:Nat->Hd} {m:Mem} {w:World} {k:Nat} {pre cs post:List MV} (h:osat ρ m w k (.foc pre cs post)) {i:Nat} {x:MV} (hx:post[i]? = some x) :
  ∃ v,w.cell? ⟨(ρ k).blk,pre.length+(cs.length+i),none⟩=some v/\Cv ρ00 m x v/\w.frozen? ⟨(ρ k).blk,pre.length+(cs.length+i),none⟩=false:=by
 obtain ⟨_,v1,v2,v3,T,h1,g1,g2,g3⟩:=h
 obtain ⟨v,hv,hc⟩:=g3.get i x hx
 refine ⟨v,?_,hc,by simp [World.frozen?,h1]⟩
 have hl:=g1.length
 have hl2:=g2.length
 rw [vt h1,List.getElem?_toArray,<-List.append_assoc,List.getElem?_append_right (by simp; omega),<-hv]
 congr 1; simp; omega
theorem Hp.set1 {X:Nat->Prop} {ρ:Nat->Hd} {m:Mem} {L:Nat->Option MObj} {w:World} (h:Hp X ρ m L w) {key:Nat} {o:MObj} (hk:L key=some o) (hn:(ρ key).nil=false) {arr:Array Value} {T:TypeId} (hb:w.heap[(ρ key).blk]? = some (.cells arr T (0,0)))
  {off:Nat} (ho:off<arr.size) {v:Value} (hv:ocell v=true) {o':MObj} (hs:∀ w',w'.heap[(ρ key).blk]? = some (.cells (arr.set off v ho) T (0,0))->osat ρ m w' key o') (hflat:Q3 o'=true:=by rfl) :
  Hp X ρ m (fun k=>if key==k then some o' else L k) (w.setCell ⟨(ρ key).blk,off,none⟩ v)/\Nx X m m w (w.setCell ⟨(ρ key).blk,off,none⟩ v):=by
 obtain ⟨_,h2⟩:=Zj (P:=default) hb ho hv
 constructor
 ·refine h.turn key _ (fun b=>b=(ρ key).blk) (fun _ _=>rfl) (.inl rfl) (fun b _ hb=>h2.un b hb) (Nat.le_of_eq h2.size.symm) (fun b _ hb=>hb▸h.djm key _ _ hk ⟨hn,rfl⟩) (fun k o b hne hk' hf hb=>?_) (fun o ho'=>?_)
  ·exact hne (h.dj k o key _ b hk' hk hf ⟨hn,hb⟩)
  ·simp only [Option.some.injEq] at ho'; subst ho'
   exact ⟨hs _ h2.at_,fun b hf=>⟨h.djm key _ _ hk hf,h.djX key _ _ hk hf,fun k o' hne hk' hf'=>hne (h.dj k o' key _ b hk' hk hf' hf)⟩⟩
 ·exact h2.nx (h.djX key _ _ hk ⟨hn,rfl⟩)

theorem Hp.setfoc {X:Nat->Prop} {ρ:Nat->Hd} {m:Mem} {L:Nat->Option MObj} {w:World} (h:Hp X ρ m L w) {key:Nat} {pre cs post:List MV} (hk:L key=some (.foc pre cs post)) {j:Nat} (hj:j<cs.length) {x:MV} {v:Value} (hx:Cv ρ m x v) (hv:ocell v=true) :
  Hp X ρ m (fun k=>if key==k then some (.foc pre (cs.set j x) post) else L k) (w.setCell ⟨(ρ key).blk,pre.length+j,none⟩ v)/\Nx X m m w (w.setCell ⟨(ρ key).blk,pre.length+j,none⟩ v):=by
 obtain ⟨hn,v1,v2,v3,T,h1,g1,g2,g3⟩:=h.obj _ _ hk
 have hl:=g1.length
 have hl2:=g2.length
 refine h.set1 hk hn h1 (by simp; omega) hv fun w' hw=>⟨hn,v1,v2.set j v,v3,T,?_,g1,CvL.set hx j g2,g3⟩
 rw [hw]
 simp only [List.set_toArray,Option.some.injEq,Obj.cells.injEq,and_true]
 congr 1
 rw [List.set_append_right _ _ (by omega),<-hl,show v1.length+j-v1.length=j by omega,List.set_append_left _ _ (by omega)]
theorem Hp.setpost {X:Nat->Prop} {ρ:Nat->Hd} {m:Mem} {L:Nat->Option MObj} {w:World} (h:Hp X ρ m L w) {key:Nat} {pre cs post:List MV} (hk:L key=some (.foc pre cs post)) {i:Nat} (hi:i<post.length) {x:MV} {v:Value} (hx:Cv ρ00 m x v) (hv:ocell v=true) :
  Hp X ρ m (fun k=>if key==k then some (.foc pre cs (post.set i x)) else L k) (w.setCell ⟨(ρ key).blk,pre.length+(cs.length+i),none⟩ v)/\Nx X m m w (w.setCell ⟨(ρ key).blk,pre.length+(cs.length+i),none⟩ v):=by
 obtain ⟨hn,v1,v2,v3,T,h1,g1,g2,g3⟩:=h.obj _ _ hk
 have hl:=g1.length
 have hl2:=g2.length
 have hl3:=g3.length
 refine h.set1 hk hn h1 (by simp; omega) hv fun w' hw=>⟨hn,v1,v2,v3.set i v,T,?_,g1,g2,CvL.set hx i g3⟩
 rw [hw]
 simp only [List.set_toArray,Option.some.injEq,Obj.cells.injEq,and_true]
 congr 1
 rw [List.set_append_right _ _ (by omega),<-hl,show v1.length+(cs.length+i)-v1.length=cs.length+i by omega,List.set_append_right _ _ (by omega),<-hl2,show v2.length+i-v2.length=i by omega]
theorem Hp.drew {X:Nat->Prop} {ρ:Nat->Hd} {m:Mem} {L:Nat->Option MObj} {w:World} (h:Hp X ρ m L w):Hp X ρ m L w.drew/\Nx X m m w w.drew :=
 ⟨h.heap rfl,⟨Mle.refl m,fun _ _=>rfl,fun _ _=>rfl,Nat.le_refl _,rfl,rfl,rfl⟩⟩

def tcell:Option (List Int)->List MV
  | none=>[.int .u32 0,.int .i32 0,.int .u32 0,.nils]
  | some l=>[.int .u32 1,.int .i32 0,.int .u32 0,.im (.slice (.int .i16)) l]
def tcs (t:List (Option (List Int))):List MV:=t.flatMap tcell
def pst (t:List (Option (List Int))) (a b:Int):List MV:=tcs t++[.int .i64 a,.int .i64 b]
def bkA (t:List (Option (List Int))) (a b:Int):Abs:=Abs.of (pst t a b)
theorem Kv (x:Option (List Int)):(tcell x).length=4:=by cases x<;>rfl
theorem WI (x:Option (List Int)):MV.kfL (tcell x)=true:=by cases x<;>rfl
theorem jQ:∀ t:List (Option (List Int)),(tcs t).length=t.length*4
 | []=>rfl
 | x::t=>by
  have:=jQ t
  unfold tcs at this ⊢
  rw [List.flatMap_cons,List.length_append,this,Kv,List.length_cons]; omega
theorem Yq (t0 t1:List (Option (List Int))) (x:Option (List Int)) (a b:Int):pst (t0++x::t1) a b=tcs t0++(tcell x++pst t1 a b):=by
 simp [pst,tcs,List.append_assoc]
theorem Xf (t:List (Option (List Int))) (a b:Int):(pst t a b)[t.length*4]? = some (.int .i64 a):=by
 unfold pst; rw [List.getElem?_append_right (by rw [jQ]; exact Nat.le_refl _),jQ]; simp
theorem KX (t:List (Option (List Int))) (a b:Int):(pst t a b)[t.length*4+1]? = some (.int .i64 b):=by
 unfold pst; rw [List.getElem?_append_right (by rw [jQ]; omega),jQ,show t.length*4+1-t.length*4=1 by omega]; rfl
theorem Xx (t:List (Option (List Int))) (a b c:Int):(pst t a b).set (t.length*4) (.int .i64 c)=pst t c b:=by
 unfold pst; rw [List.set_append_right _ _ (by rw [jQ]; exact Nat.le_refl _),jQ]; simp
theorem Js (t:List (Option (List Int))) (a b c:Int):(pst t a b).set (t.length*4+1) (.int .i64 c)=pst t a c:=by
 unfold pst; rw [List.set_append_right _ _ (by rw [jQ]; omega),jQ,show t.length*4+1-t.length*4=1 by omega]; rfl
theorem vf:∀ l l':List MV,MV.kfL l=true->MV.kfL l'=true->MV.kfL (l++l')=true
 | [],_,_,h=>h
 | x::l,l',h,h'=>by
  simp only [MV.kfL,Bool.and_eq_true,List.cons_append] at h ⊢
  exact ⟨h.1,vf l l' h.2 h'⟩
theorem KU:∀ t:List (Option (List Int)),MV.kfL (tcs t)=true
 | []=>rfl
 | x::t=>by
  have:=KU t
  unfold tcs at this ⊢
  rw [List.flatMap_cons]; exact vf _ _ (WI x) this
theorem Vr (t:List (Option (List Int))) (a b:Int):MV.kfL (pst t a b)=true:=vf _ _ (KU t) rfl
theorem tk {α:Type} {t:List α} {j:Nat} {x:α} (h:t[j]? = some x):t.take j++x::t.drop (j+1)=t:=by
 obtain ⟨hj,rfl⟩:=List.getElem?_eq_some_iff.1 h
 rw [List.getElem_cons_drop,List.take_append_drop]
theorem ZT {t:List (Option (List Int))} {o:Nat} (h1:t.length=388) (h2:o=o/4*4) (h3:o/4<388):(tcs (t.take (o/4))).length=o:=by
 rw [jQ,List.length_take]; omega
end
section

def Wn:List (Nat × Option MObj)->List (Nat × Option MObj)->Prop
  | [],_=>True
  | (k,o)::l,L=>(o.isSome=true/\wo L k=o)/\Wn l L
theorem Wn.get:∀ {l L:List (Nat × Option MObj)},Wn l L->∀ q∈l,q.2.isSome=true/\wo L q.1=q.2
 | [],_,_,q,h=>by cases h
 | (k,o)::l,L,⟨h1,h2⟩,q,h=>by
  rcases List.mem_cons.1 h with rfl | h
  ·exact h1
  ·exact Wn.get h2 q h

theorem vO (p:Nat->Bool) (Lf:Nat->Option MObj) {k:Nat} (hp:p k=false):∀ U:List (Nat × Option MObj),qn (U.filter fun q=>p q.1) Lf k=Lf k
 | []=>rfl
 | (k',o)::U=>by
  rw [List.filter_cons]
  split
  ·rename_i h
   have hne:¬ (k'==k)=true:=fun e=>by rw [beq_iff_eq.1 e,hp] at h; cases h
   simp only [qn,if_neg hne]
   exact vO p Lf hp U
  ·exact vO p Lf hp U
theorem Zd (p:Nat->Bool) (Lf:Nat->Option MObj) (k:Nat):∀ U:List (Nat × Option MObj),(∀ q∈U,p q.1=false->Lf q.1=q.2)->qn U Lf k=qn (U.filter fun q=>p q.1) Lf k
 | [],_=>rfl
 | (k',o)::U,h=>by
  have ih:=Zd p Lf k U (fun q hq=>h q (List.mem_cons_of_mem _ hq))
  rw [List.filter_cons]
  by_cases e:(k'==k)=true
  ·have e':=beq_iff_eq.1 e
   subst e'
   simp only [qn,if_pos e]
   split
   ·simp only [qn,if_pos e]
   ·rename_i hp
    rw [vO p Lf (by simpa using hp) U]
    exact (h (k',o) (List.mem_cons_self ..) (by simpa using hp)).symm
  ·simp only [qn,if_neg e]
   split
   ·simp only [qn,if_neg e]; exact ih
   ·exact ih

section
variable {P:Program} {Γ:Gd} {N:Nat} {Q:Exit->Act->World->Prop} {A:List (Nat × MV)} {L:List (Nat × Option MObj)} {r:Rg} {G:Prop}
theorem W0 {vA:List (Nat × MV)} {vL:List (Nat × Option MObj)} {i:Nat} {D:List (Nat × MV)} {U:List (Nat × Option MObj)} (p:Nat->Bool) (h:vF P Γ N Q r vA vL (D,U) i) (hs:Wn (U.filter fun q=>!(p q.1)) vL):vF P Γ N Q r vA vL (D,U.filter fun q=>p q.1) i:=by
 intro Af Lf a w hA hL hn hst K hK
 refine h Af Lf a w hA hL hn hst K (fun a1 w1 h1=>hK a1 w1 ?_)
 have e:qn (U.filter fun q=>p q.1) Lf=qn U Lf:=by
  funext k
  refine (Zd p Lf k U (fun q hq hp=>?_)).symm
  obtain ⟨g1,g2⟩:=hs.get q (List.mem_filter.2 ⟨hq,by simp [hp]⟩)
  obtain ⟨o,ho⟩:=Option.isSome_iff_exists.1 g1
  rw [ho] at g2 ⊢
  exact hL _ _ g2
 simp only [e]
 exact h1
theorem qY {ex:Nat->List Nat} {l:List De} {n:Nat} {o:Oper} {f:FuncId} {xs ys:List MV} {Lc Lc':List (Nat × Option MObj)} {res:MV} {C:Prop} (n':Nat) (hn':n'=n+1) (hn:n<r.ops.size) (π:List (Nat × Nat)) (ho:r.ops[n]? = some o) (hF:Fn P f xs Lc res Lc') (hf:fnb P f=true)
  (h:kZ (kJ r (fnR n l) A n) o.op=some (f,ys,C)) (hC:C) (hys:ys=MV.renL (sg π) xs) (hsub:yz (kk (sg π) Lc) (xG r ex (fnR n l) L n)) (hb:yC (sg π) N o.dst o.guard.isNone ((wu Lc').map (sg π)) (r.nk n) Lc Lc' res=true)
  (hsm:Wn ((kk (sg π) Lc').filter fun q=>!((r.wk n).contains q.1)) (xG r ex (fnR n l) L n))
  (k:AJR P Γ N Q r ex A L G n' ((xY o.dst (res.ren (sg π)) [],(kk (sg π) Lc').filter fun q=>(r.wk n).contains q.1)::l)):AJR P Γ N Q r ex A L G n l:=by
 subst hn'
 have h1:=Zc (P:=P) (Γ:=Γ) (N:=N) (Q:=Q) (r:={ r with wk:=fun _=>(wu Lc').map (sg π) }) (i:=n) π ho hF h hC hf hys hsub hb
 refine xU hn ⟨W0 (fun k=>(r.wk n).contains k) h1.1 hsm,h1.2.1,fun k hk=>?_⟩ k
 simp only [wU,List.any_eq_true,beq_iff_eq,List.mem_filter] at hk
 obtain ⟨q,⟨_,hq⟩,rfl⟩:=hk
 simpa using hq
theorem QP {ex:Nat->List Nat} {l:List De} {n j dj:Nat} {o oj:Oper} {want b:Bool} {f:FuncId} {xs ys:List MV} {Lc Lc':List (Nat × Option MObj)} {res:MV} {C:Prop} (n':Nat) (hn':n'=n+1) (hn:n<r.ops.size) (hb:b=want) (π:List (Nat × Nat)) (ho:r.ops[n]? = some o) (hg:o.guard=some (j,want)) (hj:r.ops[j]? = some oj) (hdj:oj.dst=some dj) (hv:get (kJ r (fnR n l) A n) dj=some (.bool b))
  (hF:Fn P f xs Lc res Lc') (hf:fnb P f=true) (h:kZ (kJ r (fnR n l) A n) o.op=some (f,ys,C)) (hC:C) (hys:ys=MV.renL (sg π) xs) (hsub:yz (kk (sg π) Lc) (xG r ex (fnR n l) L n)) (hc:yC (sg π) N o.dst true ((wu Lc').map (sg π)) (r.nk n) Lc Lc' res=true)
  (hsm:Wn ((kk (sg π) Lc').filter fun q=>!((r.wk n).contains q.1)) (xG r ex (fnR n l) L n))
  (k:AJR P Γ N Q r ex A L G n' ((xY o.dst (res.ren (sg π)) [],(kk (sg π) Lc').filter fun q=>(r.wk n).contains q.1)::l)):AJR P Γ N Q r ex A L G n l:=by
 subst hn'
 have h1:=Qk (P:=P) (Γ:=Γ) (N:=N) (Q:=Q) (r:={ r with wk:=fun _=>(wu Lc').map (sg π) }) (i:=n) π ho hg hj hdj hv hb hF h hC hf hys hsub hc
 refine xU hn ⟨W0 (fun k=>(r.wk n).contains k) h1.1 hsm,h1.2.1,fun k hk=>?_⟩ k
 simp only [wU,List.any_eq_true,beq_iff_eq,List.mem_filter] at hk
 obtain ⟨q,⟨_,hq⟩,rfl⟩:=hk
 simpa using hq
end
end
section
def Up {α:Type} (f:Nat->α) (n:Nat):List α:=(List.range n).map f
def accf {σ:Type} (g:Nat->σ->σ) (s:σ):Nat->σ
  | 0=>s
  | k+1=>g k (accf g s k)
end
section
section
variable {P:Program} {Γ:Gd} {N:Nat} {Q:Exit->Act->World->Prop} {A:List (Nat × MV)} {L:List (Nat × Option MObj)}
end
end
section

theorem Sat.freezeR {Γ:Gd} {N:Nat} {A:List (Nat × MV)} {L:List (Nat × Option MObj)} {a:Act} {w:World} (hs:Sat Γ N (get A) (wo L) a w) {key:Nat} {e:Kd} {xss:List (List e.T)} (hk:wo L key=some (.rr true e xss none)) :
  Sat Γ N (get (Qu key (.slice e) xss A)) (wo (v6 key (.slice e) xss L)) a w:=by
 obtain ⟨h1,h2,ρ,m,h3,h4,h5,h6⟩:=hs
 obtain ⟨g0,g1,g2⟩:=h4.obj _ _ hk
 have sel:∀ q o,wo (v6 key (.slice e) xss L) q=some o->q≠key/\∃ o',wo L q=some o'/\o=o'.frz key (.slice e) xss:=by
  intro q o ho
  simp only [v6,wo] at ho
  split at ho
  ·cases ho
  ·rename_i e
   exact ⟨fun x=>e (by rw [x]; exact beq_self_eq_true key),vi ho⟩
 have fin:∀ m',Mle m m'->(Kd.slice (.slice e)).R m' xss [(ρ key).hdr]->(∀ b o,m' b=some o->w.heap[b]? = some o)->(∀ b,m' b=m b\/foot ρ key b\/inner ρ w key (.rr true e xss none) b)->Sat Γ N (get (Qu key (.slice e) xss A)) (wo (v6 key (.slice e) xss L)) a w:=by
  intro m' hm hR hM hsame
  have hni:∀ q o b,q≠key->wo L q=some o->inner ρ w q o b->m' b=m b:=fun q o b hne hq hi=>(hsame b).resolve_right fun hf'=>hf'.elim (fun hf'=>(h4.inn q o b hq hi).2.2.1 key _ hk hf') (fun hf'=>hne ((h4.inn q o b hq hi).2.2.2 key _ hk hf'))
  have hnf:∀ q o b,q≠key->wo L q=some o->foot ρ q b->m' b=m b:=fun q o b hne hq hf=>(hsame b).resolve_right fun hf'=>hf'.elim (fun hf'=>hne (h4.dj q o key _ b hq hk hf hf')) (fun hf'=>(h4.inn key _ b hk hf').2.2.1 q o hq hf)
  refine ⟨h1,h2,ρ,m',fun s y hy=>?_,⟨hM,fun q o ho=>?_,fun q o q' o' b ho ho' hf hf'=>?_,fun q o b ho hf=>?_,fun q o b ho hf=>?_,h4.lt,fun q o b ho hi=>?_⟩,⟨h5.le.trans hm,fun b hX=>?_,h5.un,h5.size,h5.os,h5.out,h5.tape⟩,h6⟩
  ·obtain ⟨x,hx,rfl⟩:=Wg hy
   obtain ⟨v,hv,hc⟩:=h3 s x hx
   exact ⟨v,hv,yI hm hR x v hc⟩
  ·obtain ⟨hne,o',ho',rfl⟩:=sel q o ho
   have:=h4.obj q o' ho'
   cases o' with
   | cells cs=>obtain ⟨p0,vs,T,p1,p2⟩:=this; exact ⟨p0,vs,T,p1,xr hm hR cs vs p2⟩
   | rows k' ys=>exact osat.mono hm (fun _ _=>rfl) rfl (fun _ _=>rfl) (fun _ _=>rfl) this
   | ab a=>exact osat.mono hm (fun _ _=>rfl) rfl (fun _ _=>rfl) (fun _ _=>rfl) this
   | bld T o=>exact osat.mono hm (fun _ _=>rfl) rfl (fun _ _=>rfl) (fun _ _=>rfl) this
   | brw e k' ys=>exact osat.mono hm (fun _ _=>rfl) rfl (fun _ _=>rfl) (fun _ _=>rfl) this
   | emp=>exact osat.mono hm (fun _ _=>rfl) rfl (fun _ _=>rfl) (fun _ _=>rfl) this
   | arr a b c=>exact osat.mono hm (fun _ _=>rfl) rfl (fun _ _=>rfl) (fun _ _=>rfl) this
   | hrow s cs =>
    obtain ⟨q1,q2,q3,q4,vs,T,q5,q6,q7⟩:=this
    have hl:(MV.frzL key (.slice e) xss cs).length=cs.length:=WP cs
    exact ⟨by rw [hl]; exact q1,q2,q3,q4,vs,T,q5,q6,by rw [hl]; exact xr hm hR cs _ q7⟩
   | rr own e xss h=>exact QR hm (fun x v hc=>yI hm hR x v hc) this
   | foc p cs q=>obtain ⟨p0,v1,v2,v3,T,p1,p2,p3,p4⟩:=this; exact ⟨p0,v1,v2,v3,T,p1,CvL.mono hm p v1 (fun _ _=>rfl) p2,xr hm hR cs v2 p3,CvL.mono hm q v3 (fun _ _=>rfl) p4⟩
  ·obtain ⟨_,o1,ho1,_⟩:=sel q o ho
   obtain ⟨_,o2,ho2,_⟩:=sel q' o' ho'
   exact h4.dj q o1 q' o2 b ho1 ho2 hf hf'
  ·obtain ⟨hne,o1,ho1,_⟩:=sel q o ho
   rw [hnf q o1 b hne ho1 hf]; exact h4.djm q o1 b ho1 hf
  ·obtain ⟨hne,o1,ho1,_⟩:=sel q o ho
   exact h4.djX q o1 b ho1 hf
  ·obtain ⟨hne,o1,ho1,rfl⟩:=sel q o ho
   have hi1:=yZ.1 hi
   obtain ⟨i1,i2,i3,i4⟩:=h4.inn q o1 b ho1 hi1
   refine ⟨by rw [hni q o1 b hne ho1 hi1]; exact i1,i2,fun q' o' ho' hf'=>?_,fun q' o' ho' hi'=>?_⟩
   ·obtain ⟨_,o2,ho2,_⟩:=sel q' o' ho'
    exact i3 q' o2 ho2 hf'
   ·obtain ⟨_,o2,ho2,rfl⟩:=sel q' o' ho'
    exact i4 q' o2 ho2 (yZ.1 hi')
  ·rw [(hsame b).resolve_right (fun hf=>hf.elim (fun hf=>h4.djX key _ b hk hf hX) (fun hf=>(h4.inn key _ b hk hf).2.1 hX))]; exact h5.nm b hX
 rcases g2 with ⟨hn,rfl,_⟩ | ⟨hn,hcap,vs,T,hb,hvl,g3,_,g5⟩
 ·exact fin m (Mle.refl m) ⟨_,rfl,.inl ⟨none,by unfold Hd.hdr; rw [hn]; rfl,rfl⟩⟩ h4.mem (fun b=>.inl rfl)
 ·classical
  let F:Nat->Prop:=fun b=>foot ρ key b\/inner ρ w key (.rr true e xss none) b
  let m':Mem:=fun b=>if F b then w.heap[b]? else m b
  have hmF:∀ b,F b->m b=none:=fun b hF=>hF.elim (fun hf=>h4.djm key _ _ hk hf) (fun hi=>(h4.inn key _ b hk hi).1)
  have hle:Mle m m':=fun b o ho=>by
   show (if F b then _ else m b)=some o
   rw [if_neg (fun hF=>by rw [hmF b hF] at ho; cases ho)]; exact ho
  refine fin m' hle ⟨_,rfl,.inr ⟨(ρ key).blk,0,(ρ key).cap,vs.toArray,T,(0,0),by unfold Hd.hdr; rw [hn,g0]; rfl,hcap,?_,?_,fun i hi=>?_⟩⟩ (fun b o ho=>?_) (fun b=>?_)
  ·show (if F (ρ key).blk then w.heap[(ρ key).blk]? else _)=_
   rw [if_pos (.inl ⟨hn,rfl⟩)]; exact hb
  ·show 0+xss.length*1<=vs.toArray.size
   simp; omega
  ·obtain ⟨v,hv,hr⟩:=g3 i hi (by simp [hole])
   obtain ⟨hlt,hve⟩:=List.getElem?_eq_some_iff.1 hv
   have e1:((vs.toArray.toList.drop (0+i*(Kd.slice e).n)).take (Kd.slice e).n)=[v]:=by
    show ((vs.drop (0+i*1)).take 1)=[v]
    rw [Nat.zero_add,Nat.mul_one,List.drop_eq_getElem_cons hlt,hve]; rfl
   rw [e1]
   refine ⟨v,rfl,?_⟩
   rcases hr with ⟨rfl,hx⟩ | ⟨b,cap,us,T2,rfl,r2,r3,r4,r5⟩
   ·exact .inl ⟨none,rfl,hx⟩
   ·refine .inr ⟨b,0,cap,us.toArray,T2,(0,0),rfl,r2,?_,?_,fun p hp=>?_⟩
    ·show (if F b then w.heap[b]? else _)=_
     rw [if_pos (.inr ⟨rfl,hn,vs,T,i,_,_,hb,hi,by simp [hole],hv⟩)]; exact r3
    ·have:xss[i].length*e.n<=cap*e.n:=Nat.mul_le_mul_right _ r2
     simp; omega
    ·have:=Kd.R.mono hle e _ _ (r5 p hp)
     simpa using this
  ·have:(if F b then w.heap[b]? else m b)=some o:=ho
   by_cases hF:F b
   ·rw [if_pos hF] at this; exact this
   ·rw [if_neg hF] at this; exact h4.mem b o this
  ·by_cases hF:F b
   ·exact .inr hF
   ·exact .inl (if_neg hF)

theorem CvL.setAt {ρ:Nat->Hd} {m:Mem} {x y:MV} (hxy:∀ v,Cv ρ m x v->Cv ρ m y v):∀ {l:List MV} {vs:List Value} (j:Nat),l[j]? = some x->CvL ρ m l vs->CvL ρ m (l.set j y) vs
 | [],_,j,h,_=>by simp at h
 | z::l,_,0,h,⟨v,us,e,h1,h2⟩=>by
  simp only [List.getElem?_cons_zero,Option.some.injEq] at h; subst h
  exact ⟨v,us,e,hxy v h1,h2⟩
 | z::l,_,j+1,h,⟨v,us,e,h1,h2⟩=>⟨v,us,e,h1,CvL.setAt hxy j (by simpa using h) h2⟩
theorem qt {Γ:Gd} {N:Nat} {A:List (Nat × MV)} {L:List (Nat × Option MObj)} {R:Act->World->Prop} (key j:Nat) (k:Kd) {l:List MV} (hn:wo L key=some (.cells l)) (hj:l[j]? = some .nils) (h:TE Γ N R A ((key,some (.cells (l.set j (.im (.slice k) []))))::L)):TE Γ N R A L:=by
 intro a w hs
 refine h a w ?_
 obtain ⟨h1,h2,ρ,m,h3,h4,h5,h6⟩:=hs
 refine ⟨h1,h2,ρ,m,h3,?_,h5,h6⟩
 have t:=h4.turn (ρ':=ρ) (w':=w) key (some (.cells (l.set j (.im (.slice k) [])))) (fun _=>False) (fun _ _=>rfl) (.inl rfl) (fun _ _ _=>rfl) (Nat.le_refl _) (fun _ _ hf=>hf.elim) (fun _ _ _ _ _ _ hf=>hf) (fun o ho=>by
  simp only [Option.some.injEq] at ho; subst ho
  obtain ⟨g0,vs,T,g1,g2⟩:=h4.obj _ _ hn
  refine ⟨⟨g0,vs,T,g1,CvL.setAt (fun u hu=>?_) j hj g2⟩,fun b hf=>⟨h4.djm key _ _ hn hf,h4.djX key _ _ hn hf,fun k' o' hne hk' hf'=>hne (h4.dj k' o' key _ b hk' hn hf' hf)⟩⟩
  simp only [Cv] at hu; subst hu
  exact ⟨_,rfl,.inl ⟨none,rfl,rfl⟩⟩)
 exact t
section
variable {P:Program} {Γ:Gd} {N:Nat} {Q:Exit->Act->World->Prop} {A A':List (Nat × MV)} {L L':List (Nat × Option MObj)}
theorem Vo {R:Act->World->Prop} (key:Nat) {e:Kd} {xss:List (List e.T)} (hk:wo L key=some (.rr true e xss none)) (h:TE Γ N R (Qu key (.slice e) xss A) (v6 key (.slice e) xss L)):TE Γ N R A L:=fun a w hs=>h a w (hs.freezeR hk)
end
end
section

class Nn {α:Type} (o:Option α):Prop where
  out:o=none
instance {α:Type}:Nn (none:Option α):=⟨rfl⟩
instance {α:Type} {C:Prop} {d:Decidable C} {o:Option α} [k:Nn o]:Nn (@gd α C d o):=⟨by unfold gd; rw [k.out]; split<;>rfl⟩
theorem nsomx {α:Type} {o:Option α} {z:α} [k:Nn o] (h:o=some z):False:=by rw [k.out] at h; cases h
def Uj (tab:Nat->Option TI) (S D:Nat):Bool:=(tab S).any (fun j=>j.tag==7)&&(tab D).any fun i=>i.slc&&(tab i.elem).any fun e=>e.ik==some .u8
end
section

def gvl (ops:Array Oper) (A:List (Nat × MV)) (o:Oper):Option (MV × Bool) :=
  match o.guard with
  | some (j,want)=>(match (ops[j]?).bind (·.dst) with
    | some dj=>(match get A dj with | some x=>some (x,want) | none=>none)
    | none=>none)
  | none=>none

theorem vN {ops:Array Oper} {A:List (Nat × MV)} {o:Oper} {x:MV} {want:Bool} (h:gvl ops A o=some (x,want)):∃ j oj dj,o.guard=some (j,want)/\ops[j]? = some oj/\oj.dst=some dj/\get A dj=some x:=by
 unfold gvl at h
 split at h
 ·rename_i j w hg
  split at h
  ·rename_i dj hdj
   split at h
   ·rename_i y hy
    simp only [Option.some.injEq,Prod.mk.injEq] at h
    obtain ⟨rfl,rfl⟩:=h
    obtain ⟨oj,h1,h2⟩:=Option.bind_eq_some_iff.1 hdj
    exact ⟨j,oj,dj,hg,h1,h2,hy⟩
   ·cases h
  ·cases h
 ·cases h

def v5 (tab:Nat->Option TI) (N:Nat) (ops:Array Oper):List Nat->List Oper->List (Nat × MV)->List (Nat × Option MObj)->Option (List Oper × List (Nat × MV) × List (Nat × Option MObj) × Prop)
  | [],l,A,L=>some (l,A,L,True)
  | 0::cs,o::l,A,L=>match gvl ops A o with
    | some (.bool b,want)=>(match o.dst with
      | some d=>if d<N then (match v5 tab N ops cs l ((d,.cnd false (.bool false))::A) L with
        | some (l',A',L',D)=>some (l',A',L',b=!want/\D)
        | none=>none) else none
      | none=>none)
    | some (.cnd t _,_)=>(match o.dst with
      | some d=>if d<N then (match v5 tab N ops cs l ((d,.cnd false (.bool false))::A) L with
        | some (l',A',L',D)=>some (l',A',L',t=false/\D)
        | none=>none) else none
      | none=>none)
    | _=>none
  | 1::cs,o::l,A,L=>match gvl ops A o with
    | some (.bool b,want)=>(match jk tab N ops 1 ({ o with guard:=none }::l) A L with
      | some (l1,A1,L1,C)=>(match v5 tab N ops cs l1 A1 L1 with
        | some (l',A',L',D)=>some (l',A',L',b=want/\C/\D)
        | none=>none)
      | none=>none)
    | _=>none
  | (n+2)::cs,l,A,L=>match jk tab N ops (n+1) l A L with
    | some (l1,A1,L1,C)=>(match v5 tab N ops cs l1 A1 L1 with
      | some (l',A',L',D)=>some (l',A',L',C/\D)
      | none=>none)
    | none=>none
  | _,_,_,_=>none

theorem vn {P:Program} (E:Env P) {Γ:Gd} {N:Nat} {ops:Array Oper} {Q:Exit->Act->World->Prop}:∀ (cs:List Nat) {l l':List Oper} {A A':List (Nat × MV)} {L L':List (Nat × Option MObj)} {C:Prop},
  v5 E.tab N ops cs l A L=some (l',A',L',C)->C->TL P Γ N ops Q l' A' L'->TL P Γ N ops Q l A L
 | [],l,l',A,A',L,L',C,h,_,k=>by
  simp only [v5,Option.some.injEq,Prod.mk.injEq] at h
  obtain ⟨rfl,rfl,rfl,_⟩:=h; exact k
 | 0::cs,[],l',A,A',L,L',C,h,_,_=>by simp [v5] at h
 | 0::cs,o::l,l',A,A',L,L',C,h,hC,k=>by
  simp only [v5] at h
  split at h
  ·rename_i b want hv
   obtain ⟨j,oj,dj,h1,h2,h3,h4⟩:=vN hv
   split at h
   ·rename_i d hd
    split at h
    case isFalse=>cases h
    rename_i hdN
    split at h
    ·rename_i l1 A1 L1 D hr
     simp only [Option.some.injEq,Prod.mk.injEq] at h; obtain ⟨rfl,rfl,rfl,rfl⟩:=h
     exact VY (.bool false) h1 h2 h3 (hC.1▸h4) hd hdN (vn E cs hr hC.2 k)
    ·cases h
   ·cases h
  ·rename_i t y want hv
   obtain ⟨j,oj,dj,h1,h2,h3,h4⟩:=vN hv
   split at h
   ·rename_i d hd
    split at h
    case isFalse=>cases h
    rename_i hdN
    split at h
    ·rename_i l1 A1 L1 D hr
     simp only [Option.some.injEq,Prod.mk.injEq] at h; obtain ⟨rfl,rfl,rfl,rfl⟩:=h
     exact V7 (.bool false) h1 h2 h3 (hC.1▸h4) hd hdN (vn E cs hr hC.2 k)
    ·cases h
   ·cases h
  ·cases h
 | 1::cs,[],l',A,A',L,L',C,h,_,_=>by simp [v5] at h
 | 1::cs,o::l,l',A,A',L,L',C,h,hC,k=>by
  simp only [v5] at h
  split at h
  ·rename_i b want hv
   obtain ⟨j,oj,dj,h1,h2,h3,h4⟩:=vN hv
   split at h
   ·rename_i l1 A1 L1 D he
    split at h
    ·rename_i l2 A2 L2 F hr
     simp only [Option.some.injEq,Prod.mk.injEq] at h; obtain ⟨rfl,rfl,rfl,rfl⟩:=h
     exact vV h1 h2 h3 (hC.1▸h4) (xw E 1 he hC.2.1 (vn E cs hr hC.2.2 k))
    ·cases h
   ·cases h
  ·cases h
 | (n+2)::cs,l,l',A,A',L,L',C,h,hC,k=>by
  simp only [v5] at h
  split at h
  ·rename_i l1 A1 L1 D he
   split at h
   ·rename_i l2 A2 L2 F hr
    simp only [Option.some.injEq,Prod.mk.injEq] at h; obtain ⟨rfl,rfl,rfl,rfl⟩:=h
    exact xw E (n+1) he hC.1 (vn E cs hr hC.2 k)
   ·cases h
  ·cases h

section
variable {P:Program} {Γ:Gd} {N:Nat} {Q:Exit->Act->World->Prop} {r:Rg}

def JI (tab:Nat->Option TI) (N:Nat) (r:Rg) (c:Nat) (vA:List (Nat × MV)) (vL:List (Nat × Option MObj)) (n:Nat):Option (De × Prop) :=
  match c with
  | 0=>W9 tab N r vA vL n
  | 1=>(match r.ops[n]? with
    | some o=>(match gvl r.ops vA o with
      | some (.bool b,want)=>(match Kg tab N (r.wk n) (r.nk n) o vA vL with
        | some (δ,C)=>some (δ,b=want/\C)
        | none=>none)
      | _=>none)
    | none=>none)
  | _=>(match r.ops[n]? with
    | some o=>(match gvl r.ops vA o with
      | some (.bool b,want)=>(match o.dst with
        | some d=>if d<N then some (([(d,.cnd false (.bool false))],[]),b=!want) else none
        | none=>none)
      | some (.cnd t _,_)=>(match o.dst with
        | some d=>if d<N then some (([(d,.cnd false (.bool false))],[]),t=false) else none
        | none=>none)
      | _=>none)
    | none=>none)

theorem K2 (E:Env P) {c:Nat} {vA:List (Nat × MV)} {vL:List (Nat × Option MObj)} {n:Nat} {δ:De} {C:Prop} (h:JI E.tab N r c vA vL n=some (δ,C)) (hC:C):vF P Γ N Q r vA vL δ n/\De.ok r n δ:=by
 unfold JI at h
 split at h
 ·exact vq E h hC
 ·split at h
  ·rename_i o ho
   split at h
   ·rename_i b want hv
    obtain ⟨j,oj,dj,h1,h2,h3,h4⟩:=vN hv
    split at h
    ·rename_i δ' D he
     simp only [Option.some.injEq,Prod.mk.injEq] at h; obtain ⟨rfl,rfl⟩:=h
     exact Qf E ho h1 h2 h3 h4 hC.1 he hC.2
    ·cases h
   ·cases h
  ·cases h
 ·split at h
  ·rename_i o ho
   split at h
   ·rename_i b want hv
    obtain ⟨j,oj,dj,h1,h2,h3,h4⟩:=vN hv
    split at h
    ·rename_i d hd
     split at h
     case isFalse=>cases h
     rename_i hdN
     simp only [Option.some.injEq,Prod.mk.injEq] at h; obtain ⟨rfl,rfl⟩:=h
     exact Xz (.bool false) ho h1 h2 h3 h4 hC hd hdN
    ·cases h
   ·rename_i t y want hv
    obtain ⟨j,oj,dj,h1,h2,h3,h4⟩:=vN hv
    split at h
    ·rename_i d hd
     split at h
     case isFalse=>cases h
     rename_i hdN
     simp only [Option.some.injEq,Prod.mk.injEq] at h; obtain ⟨rfl,rfl⟩:=h
     exact JK (.bool false) ho h1 h2 h3 (hC▸h4) hd hdN
    ·cases h
   ·cases h
  ·cases h

def Kt (tab:Nat->Option TI) (N:Nat) (r:Rg) (ex:Nat->List Nat) (A:List (Nat × MV)) (L:List (Nat × Option MObj)):List Nat->Nat->List De->Option (Nat × List De × Prop)
  | [],n,l=>some (n,l,True)
  | c::cs,n,l=>if n<r.ops.size then (match JI tab N r c (kJ r (fnR n l) A n) (xG r ex (fnR n l) L n) n with
    | some (δ,C)=>(match Kt tab N r ex A L cs (n+1) (δ::l) with
      | some (n',l',D)=>some (n',l',C/\D)
      | none=>none)
    | none=>none) else none

theorem ZI (E:Env P) {ex:Nat->List Nat} {A:List (Nat × MV)} {L:List (Nat × Option MObj)} {G:Prop}:∀ (cs:List Nat) {n n':Nat} {l l':List De} {C:Prop},Kt E.tab N r ex A L cs n l=some (n',l',C)->C->AJR P Γ N Q r ex A L G n' l'->AJR P Γ N Q r ex A L G n l
 | [],n,n',l,l',C,h,_,k=>by
  simp only [Kt,Option.some.injEq,Prod.mk.injEq] at h
  obtain ⟨rfl,rfl,_⟩:=h; exact k
 | c::cs,n,n',l,l',C,h,hC,k=>by
  simp only [Kt] at h
  split at h
  case isFalse=>cases h
  rename_i hn
  split at h
  ·rename_i δ D he
   split at h
   ·rename_i n2 l2 F hr
    simp only [Option.some.injEq,Prod.mk.injEq] at h; obtain ⟨rfl,rfl,rfl⟩:=h
    exact xU hn (K2 E he hC.1) (ZI E cs hr hC.2 k)
   ·cases h
  ·cases h

def xpT:List Nat->List Nat
  | []=>[]
  | c::cs=>match c%3 with
    | 0=>List.replicate (c/3) 0++xpT cs
    | 1=>List.replicate (c/3) 1++xpT cs
    | _=>(c/3+1)::xpT cs
def xpJ:List Nat->List Nat
  | []=>[]
  | c::cs=>List.replicate (c/3) (c%3)++xpJ cs
def bts (m:Nat):Nat->List Nat
  | 0=>[]
  | i+1=>bif Nat.beq (Nat.land (Nat.shiftRight m i) 1) 1 then i::bts m i else bts m i
def lkI (i:Nat):List (Nat × List Nat)->List Nat
  | []=>[]
  | (j,l)::t=>bif Nat.beq j i then l else lkI i t
def lkM (i:Nat):List (Nat × List Nat)->List Nat
  | []=>[]
  | (m,l)::t=>bif Nat.beq (Nat.land (Nat.shiftRight m i) 1) 1 then l else lkM i t
end
end
section

def Kd.flatB:Kd->Bool
  | .slice _=>false
  | .pair a b=>a.flatB&&b.flatB
  | _=>true
theorem Kd.flatB_ok {m m':Mem}:∀ {k:Kd} {x:k.T} {cs:List Value},k.flatB=true->k.R m x cs->k.R m' x cs
 | .int _,_,_,_,h=>h
 | .bool,_,_,_,h=>h
 | .str,_,_,_,h=>h
 | .unit,_,_,_,h=>h
 | .ptr,_,_,_,h=>h
 | .hdr,_,_,_,h=>h
 | .slice _,_,_,h,_=>by cases h
 | .pair _ _,_,_,h,⟨c,d,e,r,s⟩=>by
  simp only [Kd.flatB,Bool.and_eq_true] at h
  exact ⟨c,d,e,Kd.flatB_ok h.1 r,Kd.flatB_ok h.2 s⟩
mutual
def MV.mf:MV->Bool
  | .im k _=>k.flatB
  | .pim _ _=>false
  | .agg l=>MV.mfL l
  | .tup l=>MV.mfL l
  | .fn _ l=>MV.mfL l
  | .ifc _ x=>x.mf
  | .bm _ x=>x.mf
  | .cnd _ x=>x.mf
  | _=>true
def MV.mfL:List MV->Bool
  | []=>true
  | x::l=>x.mf&&MV.mfL l
end
mutual
theorem Z5 {ρ:Nat->Hd} {m m':Mem}:∀ (x:MV) (v:Value),x.mf=true->Cv ρ m x v->Cv ρ m' x v
  | .im _ _,_,h,r=>by simp only [MV.mf] at h; simp only [Cv] at r ⊢; exact Kd.flatB_ok h r
  | .pim _ _,_,h,_=>by cases h
  | .agg l,_,h,⟨vs,e,r⟩=>⟨vs,e,vQ l vs (by simpa [MV.mf] using h) r⟩
  | .tup l,_,h,⟨vs,e,r⟩=>⟨vs,e,vQ l vs (by simpa [MV.mf] using h) r⟩
  | .fn _ l,_,h,⟨vs,e,r⟩=>⟨vs,e,vQ l vs (by simpa [MV.mf] using h) r⟩
  | .ifc _ x,_,h,⟨y,e,r⟩=>⟨y,e,Z5 x y (by simpa [MV.mf] using h) r⟩
  | .bm _ x,_,h,⟨y,e,r⟩=>⟨y,e,Z5 x y (by simpa [MV.mf] using h) r⟩
  | .cnd _ x,v,h,r=>⟨fun ht=>Z5 x v (by simpa [MV.mf] using h) (r.1 ht),r.2⟩
  | .int _ _,_,_,r=>r
  | .bool _,_,_,r=>r
  | .str _,_,_,r=>r
  | .nilp,_,_,r=>r
  | .nils,_,_,r=>r
  | .nilf,_,_,r=>r
  | .nili,_,_,r=>r
  | .nilm,_,_,r=>r
  | .p _ _,_,_,r=>r
  | .pe _ _ _,_,_,r=>r
  | .sl _,_,_,r=>r
  | .mp _,_,_,r=>r
  | .hd _ _,_,_,r=>r
  | .sv _ _,_,_,r=>r
  | .sp _ _,_,_,r=>r
  | .pf _ _ _,_,_,r=>r
  | .raw _,_,_,r=>r
theorem vQ {ρ:Nat->Hd} {m m':Mem}:∀ (l:List MV) (vs:List Value),MV.mfL l=true->CvL ρ m l vs->CvL ρ m' l vs
  | [],_,_,r=>r
  | x::l,_,h,⟨v,us,e,r,s⟩=>by
    simp only [MV.mfL,Bool.and_eq_true] at h
    exact ⟨v,us,e,Z5 x v h.1 r,vQ l us h.2 s⟩
end
def MObj.mf:MObj->Bool
  | .cells cs=>MV.mfL cs
  | .rows k _=>k.flatB
  | .ab _=>false
  | .foc _ _ _=>false
  | .bld _ _=>true
  | .brw _ k _=>k.flatB
  | .hrow _ cs=>MV.mfL cs
  | .arr k _ _=>k.flatB
  | .emp=>true
  | .rr own e _ h=>own&&e.flatB&&h.isNone
theorem VI {ρ:Nat->Hd} {m m':Mem} {w:World} {key:Nat}:∀ {o:MObj},o.mf=true->osat ρ m w key o->osat ρ m' w key o
 | .cells cs,h,⟨h0,vs,T,h1,h2⟩=>⟨h0,vs,T,h1,vQ cs vs h h2⟩
 | .rows k xs,h,⟨h1,h2,h3⟩=>by
  refine ⟨h1,h2,?_⟩
  rcases h3 with h3 | ⟨hn,hc,vs,T,g1,g2,g3⟩
  ·exact .inl h3
  ·exact .inr ⟨hn,hc,vs,T,g1,g2,fun i hi=>Kd.flatB_ok h (g3 i hi)⟩
 | .ab _,h,_=>by cases h
 | .foc _ _ _,h,_=>by cases h
 | .bld _ _,_,r=>r
 | .brw _ k xs,h,⟨h1,h2,h3⟩=>by
  refine ⟨h1,h2,?_⟩
  rcases h3 with h3 | ⟨hn,hc,vs,g1,g2,g3⟩
  ·exact .inl h3
  ·exact .inr ⟨hn,hc,vs,g1,g2,fun i hi=>Kd.flatB_ok h (g3 i hi)⟩
 | .emp,_,r=>r
 | .arr k n xs,h,⟨h1,h2,vs,T,g1,g2,g3⟩=>⟨h1,h2,vs,T,g1,g2,fun i hi=>Kd.flatB_ok h (g3 i hi)⟩
 | .hrow s cs,h,⟨h1,h2,h3,h4,vs,T,g1,g2,g3⟩=>by
  refine ⟨h1,h2,h3,h4,vs,T,g1,g2,vQ cs _ h g3⟩
 | .rr own e xss hh,h,⟨h1,h2,h3⟩=>by
  simp only [MObj.mf,Bool.and_eq_true,Option.isNone_iff_eq_none] at h
  obtain ⟨⟨rfl,he⟩,rfl⟩:=h
  refine ⟨h1,h2,?_⟩
  rcases h3 with h3 | ⟨hn,hc,vs,T,g1,g2,g3,g4,g5⟩
  ·exact .inl h3
  ·refine .inr ⟨hn,hc,vs,T,g1,g2,fun i hl hne=>?_,(fun j x hj=>by cases hj),g5⟩
   obtain ⟨v,hv,hr⟩:=g3 i hl hne
   refine ⟨v,hv,?_⟩
   rcases hr with hr | ⟨b,cap,us,T',r1,r2,r3,r4,r5⟩
   ·exact .inl hr
   ·exact .inr ⟨b,cap,us,T',r1,r2,r3,r4,fun j hj=>Kd.flatB_ok he (r5 j hj)⟩

def bor (k:Nat) (e:Kd) (l:List e.T):MV->MV
  | .sl q=>if q==k then .im (.slice e) l else .sl q
  | x=>x
theorem Vw {ρ:Nat->Hd} {m:Mem} {k:Nat} {e:Kd} {l:List e.T} (hR:(Kd.slice e).R m l [(ρ k).hdr]) {x:MV} {v:Value} (h:Cv ρ m x v):Cv ρ m (bor k e l x) v:=by
 cases x with
 | sl q =>
  simp only [bor]
  split
  ·rename_i e'
   have:=beq_iff_eq.1 e'; subst this
   simp only [Cv] at h ⊢; rw [h]; exact hR
  ·exact h
 | _=>exact h
theorem Q5 {ρ:Nat->Hd} {m:Mem} {k:Nat} {e:Kd} {l:List e.T} (hR:(Kd.slice e).R m l [(ρ k).hdr]):∀ {xs:List MV} {vs:List Value},CvL ρ m xs vs->CvL ρ m (xs.map (bor k e l)) vs
 | [],_,h=>h
 | _::_,_,⟨v,us,h,r,s⟩=>⟨v,us,h,Vw hR r,Q5 hR s⟩

theorem Kl {k q:Nat} {o:Option MObj} {L:List (Nat × Option MObj)} (h:k≠q):wo ((k,o)::L) q=wo L q:=by
 simp only [wo]; rw [if_neg (by simpa using h)]

theorem Vj {P:Program} {f:FuncId} {xs ys:List MV} {Lc Lc':List (Nat × Option MObj)} {res:MV} (k:Nat) {e:Kd} {l:List e.T} (hF:Fn P f ys Lc res Lc') (hk:k<1000) (hy:ys=xs.map (bor k e l))
  (hn:(wu Lc).contains k=false) (hn':(wu Lc').contains k=false) (hm:res.mf=true) (hL:(Lc'.all fun q=>match q.2 with | some o=>o.mf | none=>true)=true) :
  Fn P f xs ((k,some (.rows e l))::Lc) res ((k,some (.rows e l))::Lc'):=by
 intro X ρ m w vs hp hv
 have hk0:wo ((k,some (MObj.rows e l))::Lc) k=some (.rows e l):=by simp [wo]
 have nok:∀ {L:List (Nat × Option MObj)} {q:Nat} {o:MObj},(wu L).contains k=false->wo L q=some o->k≠q:=fun {L q o} h ho e'=>by
  have:=kR ho
  rw [<-e',<-List.contains_iff_mem,h] at this
  cases this
 have old:∀ q o,wo Lc q=some o->k≠q/\wo ((k,some (MObj.rows e l))::Lc) q=some o:=fun q o ho=>⟨nok hn ho,by rw [Kl (nok hn ho)]; exact ho⟩
 obtain ⟨g0,g1,g2⟩:=hp.obj _ _ hk0
 -- with the block as data
 have fin:∀ m1,Mle m m1->(Kd.slice e).R m1 l [(ρ k).hdr]->(∀ b o,m1 b=some o->w.heap[b]? = some o)->(∀ b,¬ foot ρ k b->m1 b=m b) →
   Calls P f vs.toArray w fun en w'=>∃ ρ' m' v,en=.returned v/\Cv ρ' m' res v/\Hp X ρ' m' (wo ((k,some (.rows e l))::Lc')) w'/\Nx X m m' w w'/\∀ k,k<1000->ρ' k=ρ k:=by
  intro m1 hle hR hM hsame
  have hnf:∀ q o b,k≠q->wo ((k,some (MObj.rows e l))::Lc) q=some o->foot ρ q b->¬ foot ρ k b:=fun q o b hne hq hf hf'=>hne (hp.dj k _ q o b hk0 hq hf' hf)
  have hni:∀ q o b,wo ((k,some (MObj.rows e l))::Lc) q=some o->inner ρ w q o b->¬ foot ρ k b:=fun q o b hq hi hf'=>(hp.inn q o b hq hi).2.2.1 k _ hk0 hf'
  have hp1:Hp (fun b=>X b\/foot ρ k b) ρ m1 (wo Lc) w:=by
   refine ⟨hM,fun q o ho=>?_,fun q o q' o' b ho ho' hf hf'=>?_,fun q o b ho hf=>?_,fun q o b ho hf=>?_,fun b hb=>?_,fun q o b ho hi=>?_⟩
   ·exact osat.mono hle (fun _ _=>rfl) rfl (fun _ _=>rfl) (fun _ _=>rfl) (hp.obj q o (old q o ho).2)
   ·exact hp.dj q o q' o' b (old q o ho).2 (old q' o' ho').2 hf hf'
   ·obtain ⟨a1,a2⟩:=old q o ho
    rw [hsame b (hnf q o b a1 a2 hf)]; exact hp.djm q o b a2 hf
   ·obtain ⟨a1,a2⟩:=old q o ho
    rintro (hX | hX)
    ·exact hp.djX q o b a2 hf hX
    ·exact hnf q o b a1 a2 hf hX
   ·rcases hb with hb | hb
    ·exact hp.lt b hb
    ·exact xJ hp hk0 hb
   ·obtain ⟨a1,a2⟩:=old q o ho
    obtain ⟨i1,i2,i3,i4⟩:=hp.inn q o b a2 hi
    refine ⟨by rw [hsame b (hni q o b a2 hi)]; exact i1,fun hX=>hX.elim i2 (hni q o b a2 hi),fun q' o' ho'=>i3 q' o' (old q' o' ho').2,fun q' o' ho'=>i4 q' o' (old q' o' ho').2⟩
  have hv1:CvL ρ m1 ys vs:=by
   rw [hy]; exact Q5 hR (CvL.mono hle xs vs (fun _ _=>rfl) hv)
  refine (hF _ ρ m1 w vs hp1 hv1).mono ?_
  rintro en w' ⟨ρ',m1',v,rfl,hc,hp',hx,hρ⟩
  classical
  have hρk:ρ' k=ρ k:=hρ k hk
  have fk:∀ b,foot ρ' k b↔foot ρ k b:=fun b=>by unfold foot; rw [hρk]
  have new:∀ q o,wo ((k,some (MObj.rows e l))::Lc') q=some o->(k=q/\o=.rows e l)\/(k≠q/\wo Lc' q=some o):=fun q o ho=>by
   by_cases e':k=q
   ·subst e'
    simp only [wo,beq_self_eq_true,if_true,Option.some.injEq] at ho
    exact .inl ⟨rfl,ho.symm⟩
   ·rw [Kl e'] at ho; exact .inr ⟨e',ho⟩
  have hmfo:∀ q o,wo Lc' q=some o->o.mf=true:=by
   have:∀ {L:List (Nat × Option MObj)},(L.all fun q=>match q.2 with | some o=>o.mf | none=>true)=true->∀ q o,wo L q=some o->o.mf=true:=by
    intro L
    induction L with
    | nil=>intro _ q o ho; simp [wo] at ho
    | cons a L ih =>
     intro h q o ho
     simp only [List.all_cons,Bool.and_eq_true] at h
     obtain ⟨a1,a2⟩:=a
     simp only [wo] at ho
     split at ho
     ·subst ho; exact h.1
     ·exact ih h.2 q o ho
   exact this hL
  have hin:∀ b,¬ inner ρ' w' k (.rows e l) b:=fun b h=>h
  refine ⟨ρ',fun b=>if foot ρ k b then none else m1' b,v,rfl,Z5 res v hm hc,⟨fun b o ho=>?_,fun q o ho=>?_,fun q o q' o' b ho ho' hf hf'=>?_,fun q o b ho hf=>?_,fun q o b ho hf=>?_,fun b hb=>hp'.lt b (.inl hb),fun q o b ho hi=>?_⟩,
   ⟨fun b o ho=>?_,fun b hb=>?_,fun b hb=>hx.un b (.inl hb),hx.size,hx.os,hx.out,hx.tape⟩,hρ⟩
  ·have ho':(if foot ρ k b then none else m1' b)=some o:=ho
   split at ho'
   ·cases ho'
   ·exact hp'.mem b o ho'
  ·rcases new q o ho with ⟨rfl,rfl⟩ | ⟨_,ho⟩
   ·have hle2:Mle m (fun b=>if foot ρ k b then none else m1' b):=fun b o ho=>by
     show (if foot ρ k b then none else m1' b)=some o
     rw [if_neg (fun hf=>by rw [hp.djm k _ b hk0 hf] at ho; cases ho)]
     exact hx.le b o (hle b o ho)
    exact osat.mono hle2 (fun _ h=>by cases h) hρk (fun b hf=>hx.un b (.inr hf)) (fun _ h=>h.elim) ⟨g0,g1,g2⟩
   ·exact VI (hmfo q o ho) (hp'.obj q o ho)
  ·rcases new q o ho with ⟨rfl,rfl⟩ | ⟨_,ho⟩
   ·rcases new q' o' ho' with ⟨e',_⟩ | ⟨_,ho'⟩
    ·exact e'
    ·exact (hp'.djX q' o' b ho' hf' (.inr ((fk b).1 hf))).elim
   ·rcases new q' o' ho' with ⟨rfl,rfl⟩ | ⟨_,ho'⟩
    ·exact (hp'.djX q o b ho hf (.inr ((fk b).1 hf'))).elim
    ·exact hp'.dj q o q' o' b ho ho' hf hf'
  ·show (if foot ρ k b then none else m1' b)=none
   rcases new q o ho with ⟨rfl,rfl⟩ | ⟨_,ho⟩
   ·rw [if_pos ((fk b).1 hf)]
   ·split
    ·rfl
    ·exact hp'.djm q o b ho hf
  ·rcases new q o ho with ⟨rfl,rfl⟩ | ⟨_,ho⟩
   ·exact hp.djX k _ b hk0 ((fk b).1 hf)
   ·exact fun hX=>hp'.djX q o b ho hf (.inl hX)
  ·rcases new q o ho with ⟨rfl,rfl⟩ | ⟨_,ho⟩
   ·exact (hin b hi).elim
   ·obtain ⟨i1,i2,i3,i4⟩:=hp'.inn q o b ho hi
    refine ⟨?_,fun hX=>i2 (.inl hX),fun q' o' ho' hf'=>?_,fun q' o' ho' hi'=>?_⟩
    ·show (if foot ρ k b then none else m1' b)=none
     split
     ·rfl
     ·exact i1
    ·rcases new q' o' ho' with ⟨rfl,rfl⟩ | ⟨_,ho'⟩
     ·exact i2 (.inr ((fk b).1 hf'))
     ·exact i3 q' o' ho' hf'
    ·rcases new q' o' ho' with ⟨rfl,rfl⟩ | ⟨_,ho'⟩
     ·exact (hin b hi').elim
     ·exact i4 q' o' ho' hi'
  ·show (if foot ρ k b then none else m1' b)=some o
   rw [if_neg (fun hf=>by rw [hp.djm k _ b hk0 hf] at ho; cases ho)]
   exact hx.le b o (hle b o ho)
  ·show (if foot ρ k b then none else m1' b)=m b
   have hnf':¬ foot ρ k b:=fun hf=>hp.djX k _ b hk0 hf hb
   rw [if_neg hnf',hx.nm b (.inl hb),hsame b hnf']
 rcases g2 with ⟨hnl,hl⟩ | ⟨hnl,hcap,us,T,hb,hvl,hel⟩
 ·exact fin m (Mle.refl m) ⟨_,rfl,.inl ⟨none,by unfold Hd.hdr; rw [hnl]; rfl,hl⟩⟩ hp.mem (fun _ _=>rfl)
 ·let m':Mem:=fun b=>if b=(ρ k).blk then some (.cells us.toArray T (0,0)) else m b
  have hmb:m (ρ k).blk=none:=hp.djm k _ _ hk0 ⟨hnl,rfl⟩
  have hle:Mle m m':=fun b o ho=>by
   show (if b=(ρ k).blk then _ else m b)=some o
   rw [if_neg (fun e'=>by rw [e',hmb] at ho; cases ho)]; exact ho
  refine fin m' hle ⟨_,rfl,.inr ⟨(ρ k).blk,0,(ρ k).cap,us.toArray,T,(0,0),by unfold Hd.hdr; rw [hnl,g0]; rfl,hcap,if_pos rfl,?_,fun i hi=>?_⟩⟩ (fun b o ho=>?_) (fun b hb'=>?_)
  ·have:l.length*e.n<=(ρ k).cap*e.n:=Nat.mul_le_mul_right _ hcap
   simp; omega
  ·have:=Kd.R.mono hle e _ _ (hel i hi)
   simpa using this
  ·have ho:(if b=(ρ k).blk then some (Obj.cells us.toArray T (0,0)) else m b)=some o:=ho
   by_cases e':b=(ρ k).blk
   ·rw [if_pos e'] at ho; cases ho; rw [e']; exact hb
   ·rw [if_neg e'] at ho; exact hp.mem b o ho
  ·exact if_neg (fun e'=>hb' ⟨hnl,e'⟩)
end
section

def Uq (k:Nat) (e:Kd) (l:List (List e.T)):MV->MV
  | .sl q=>if q==k then .im (.slice (.slice e)) l else .sl q
  | .sv q n=>if q==k then .im (.slice (.slice e)) (l.drop n) else .sv q n
  | .sp q n=>if q==k then .im (.slice (.slice e)) (l.take n) else .sp q n
  | x=>x
def vOk (k c:Nat):MV->Bool
  | .sv q n=>if q==k then Nat.ble n c else true
  | .sp q n=>if q==k then Nat.ble n c else true
  | _=>true
def Uh (m:Mem) (e:Kd) (l:List (List e.T)) (h:Hd):Prop :=
  h.nil=false/\h.len=l.length/\h.sz=1/\l.length<=h.cap/\∃ us T,m h.blk=some (.cells (List.toArray us) T (0,0))/\us.length=h.cap/\∀ i (hi:i<l.length),∃ v,us[i]? = some v/\(Kd.slice e).R m l[i] [v]
end
section

def Ue (A:List (Nat × MV)) (t:TypeId) (name:String):Op->Option (List MV × Prop)
  | .call { callee:=.invoke r n,args,.. }=>match opg A none r,opgs A none args.toList with
    | some (.ifc t' x,C),some (ys,D)=>if t'==t&&n==name then some (x::ys,C/\D) else none
    | _,_=>none
  | _=>none
def Uo (P:Program) (t:TypeId) (name:String) (f:FuncId):Bool :=
  match P.info? t,P.underlying t with
  | some j,some (.pointer _)=>(match j.methods.find? (fun m=>m.name==name) with
    | some m=>m.path.toList.isEmpty&&(match m.func with | some (g,b)=>g==f&&b | none=>false)
    | none=>false)
  | _,_=>false
section
variable {P:Program} {Γ:Gd} {N:Nat} {Q:Exit->Act->World->Prop} {A A':List (Nat × MV)} {L L':List (Nat × Option MObj)}
end
section
variable {P:Program} {Γ:Gd} {N:Nat} {Q:Exit->Act->World->Prop} {A:List (Nat × MV)} {L:List (Nat × Option MObj)} {r:Rg} {G:Prop}
end

theorem Sat.arr {Γ:Gd} {N:Nat} {A:List (Nat × MV)} {L:List (Nat × Option MObj)} {a:Act} {w:World} (hs:Sat Γ N (get A) (wo L) a w) {key n:Nat} {ik:IntKind} {cs:List MV} {xs:List Int} (hk:wo L key=some (.cells cs)) (hx:QA ik cs=some xs) (hn:xs.length=n) :
  Sat Γ N (get A) (wo ((key,some (.arr (.int ik) n xs))::L)) a w:=by
 obtain ⟨h1,h2,ρ,m,h3,h,h5,h6⟩:=hs
 refine ⟨h1,h2,ρ,m,h3,?_,h5,h6⟩
 have t:=h.turn (ρ':=ρ) (w':=w) key (some (.arr (.int ik) n xs)) (fun _=>False) (fun _ _=>rfl) (.inl rfl) (fun _ _ _=>rfl) (Nat.le_refl _) (fun _ _ hf=>hf.elim) (fun _ _ _ _ _ _ hf=>hf) (fun o ho=>by
  simp only [Option.some.injEq] at ho; subst ho
  obtain ⟨g0,vs,T,g1,g2⟩:=h.obj _ _ hk
  have hv:vs=xs.map (Value.int ik):=ZH (by rw [<-v7 hx]; exact g2)
  refine ⟨⟨g0,hn,vs,T,g1,by rw [hv]; simp [Kd.n,hn],vd hv⟩,fun b hf=>⟨h.djm key _ _ hk hf,h.djX key _ _ hk hf,fun k' o' hne hk' hf'=>hne (h.dj k' o' key _ b hk' hk hf' hf)⟩⟩)
 exact t
section
variable {P:Program} {Γ:Gd} {N:Nat} {Q:Exit->Act->World->Prop} {A:List (Nat × MV)} {L:List (Nat × Option MObj)}
theorem yw {ops:Array Oper} {l:List Oper} (key:Nat) (ik:IntKind) (n:Nat) (xs:List Int) {cs:List MV} (hk:wo L key=some (.cells cs)) (hx:QA ik cs=some xs) (hn:xs.length=n) (h:TL P Γ N ops Q l A ((key,some (.arr (.int ik) n xs))::L)):TL P Γ N ops Q l A L:=fun a w hs=>h a w (hs.arr hk hx hn)
end
end
end Go.Fo
