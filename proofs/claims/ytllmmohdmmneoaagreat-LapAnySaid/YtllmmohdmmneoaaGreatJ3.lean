/- The engine of this proof, part 3. -/
import Derived.Calls
import Derived.Orders
import Derived.Tactics
import Derived.KernelRfl
import Derived.Laws.BytesString
import Derived.ChangeSame
import Derived.ReadAgain
import Derived.RowKit3
import Derived.WideShapes
import Derived.Laws.StructEq
import Derived.ChangeKeysEq
import Derived.Lib.UnsafeStr
import Derived.Laws.IdiomStrings
import Derived.Test.YtllmmohdmmneoaaGreatJ2
namespace Go.Fo
section

mutual
def MV.ren (π:Nat->Nat):MV->MV
  | .p k off=>.p (π k) off
  | .pe k i f=>.pe (π k) i f
  | .sl k=>.sl (π k)
  | .mp k=>.mp (π k)
  | .hd k n=>.hd (π k) n
  | .sv k n=>.sv (π k) n
  | .sp k n=>.sp (π k) n
  | .pf k o j=>.pf (π k) o j
  | .agg l=>.agg (MV.renL π l)
  | .tup l=>.tup (MV.renL π l)
  | .fn f l=>.fn f (MV.renL π l)
  | .ifc t x=>.ifc t (x.ren π)
  | .bm t x=>.bm t (x.ren π)
  | .cnd t x=>.cnd t (x.ren π)
  | .int k x=>.int k x
  | .bool b=>.bool b
  | .str s=>.str s
  | .nilp=>.nilp
  | .nils=>.nils
  | .nilf=>.nilf
  | .nili=>.nili
  | .nilm=>.nilm
  | .im k x=>.im k x
  | .pim k x=>.pim k x
  | .raw v=>.raw v
def MV.renL (π:Nat->Nat):List MV->List MV
  | []=>[]
  | x::l=>x.ren π::MV.renL π l
end
def MObj.ren (π:Nat->Nat):MObj->MObj
  | .cells cs=>.cells (MV.renL π cs)
  | .rows k xs=>.rows k xs
  | .ab a=>.ab a
  | .foc p cs q=>.foc p (MV.renL π cs) q
  | .bld T o=>.bld T (o.map π)
  | .brw e k xs=>.brw e k xs
  | .hrow s cs=>.hrow s (MV.renL π cs)
  | .arr a b c=>.arr a b c
  | .emp=>.emp
  | .rr own e xss h=>.rr own e xss (h.map fun q=>(q.1,q.2.ren π))

mutual
theorem ym {ρ:Nat->Hd} {m:Mem} (π:Nat->Nat):∀(x:MV) (v:Value),Cv ρ m (x.ren π) v↔Cv (fun k=>ρ (π k)) m x v
  | .p _ _,_=>Iff.rfl
  | .pe _ _ _,_=>Iff.rfl
  | .sl _,_=>Iff.rfl
  | .mp _,_=>Iff.rfl
  | .hd _ _,_=>Iff.rfl
  | .sv _ _,_=>Iff.rfl
  | .sp _ _,_=>Iff.rfl
  | .pf _ _ _,_=>Iff.rfl
  | .agg l,v=>by
    simp only[MV.ren,Cv]
    exact ⟨fun ⟨vs,h,k⟩=>⟨vs,h,(j3 π l vs).1 k⟩,fun ⟨vs,h,k⟩=>⟨vs,h,(j3 π l vs).2 k⟩⟩
  | .tup l,v=>by
    simp only[MV.ren,Cv]
    exact ⟨fun ⟨vs,h,k⟩=>⟨vs,h,(j3 π l vs).1 k⟩,fun ⟨vs,h,k⟩=>⟨vs,h,(j3 π l vs).2 k⟩⟩
  | .fn f l,v=>by
    simp only[MV.ren,Cv]
    exact ⟨fun ⟨vs,h,k⟩=>⟨vs,h,(j3 π l vs).1 k⟩,fun ⟨vs,h,k⟩=>⟨vs,h,(j3 π l vs).2 k⟩⟩
  | .ifc t x,v=>by
    simp only[MV.ren,Cv]
    exact ⟨fun ⟨y,h,k⟩=>⟨y,h,(ym π x y).1 k⟩,fun ⟨y,h,k⟩=>⟨y,h,(ym π x y).2 k⟩⟩
  | .bm t x,v=>by
    simp only[MV.ren,Cv]
    exact ⟨fun ⟨y,h,k⟩=>⟨y,h,(ym π x y).1 k⟩,fun ⟨y,h,k⟩=>⟨y,h,(ym π x y).2 k⟩⟩
  | .cnd t x,v=>by
    simp only[MV.ren,Cv]
    exact ⟨fun ⟨h,k⟩=>⟨fun e=>(ym π x v).1 (h e),k⟩,fun ⟨h,k⟩=>⟨fun e=>(ym π x v).2 (h e),k⟩⟩
  | .int _ _,_=>Iff.rfl
  | .bool _,_=>Iff.rfl
  | .str _,_=>Iff.rfl
  | .nilp,_=>Iff.rfl
  | .nils,_=>Iff.rfl
  | .nilf,_=>Iff.rfl
  | .nili,_=>Iff.rfl
  | .nilm,_=>Iff.rfl
  | .im _ _,_=>Iff.rfl
  | .pim _ _,_=>Iff.rfl
  | .raw _,_=>Iff.rfl
theorem j3 {ρ:Nat->Hd} {m:Mem} (π:Nat->Nat):∀(l:List MV) (vs:List Value),CvL ρ m (MV.renL π l) vs↔CvL (fun k=>ρ (π k)) m l vs
  | [],_=>Iff.rfl
  | x::l,vs=>by
    simp only[MV.renL,CvL]
    exact ⟨fun ⟨v,us,h,k,r⟩=>⟨v,us,h,(ym π x v).1 k,(j3 π l us).1 r⟩,fun ⟨v,us,h,k,r⟩=>⟨v,us,h,(ym π x v).2 k,(j3 π l us).2 r⟩⟩
end

theorem Zs {ρ:Nat->Hd} {m:Mem} {w:World} (π:Nat->Nat) (k:Nat) (o:MObj):osat ρ m w (π k) (o.ren π)↔osat (fun k=>ρ (π k)) m w k o:=by
 cases o with
 | cells cs =>
  simp only[MObj.ren,osat]
  exact ⟨fun ⟨h,vs,T,h1,h2⟩=>⟨h,vs,T,h1,(j3 π cs vs).1 h2⟩,fun ⟨h,vs,T,h1,h2⟩=>⟨h,vs,T,h1,(j3 π cs vs).2 h2⟩⟩
 | rows k' xs=>exact Iff.rfl
 | ab a=>exact Iff.rfl
 | foc p cs q =>
  simp only[MObj.ren,osat]
  exact ⟨fun ⟨h,v1,v2,v3,T,h1,h2,h3,h4⟩=>⟨h,v1,v2,v3,T,h1,h2,(j3 π cs v2).1 h3,h4⟩,fun ⟨h,v1,v2,v3,T,h1,h2,h3,h4⟩=>⟨h,v1,v2,v3,T,h1,h2,(j3 π cs v2).2 h3,h4⟩⟩
 | bld T o =>
  cases o with
  | none=>exact Iff.rfl
  | some k=>exact Iff.rfl
 | brw e k xs=>exact Iff.rfl
 | arr a b c=>exact Iff.rfl
 | emp=>exact Iff.rfl
 | hrow s cs =>
  have hl:∀l:List MV,(MV.renL π l).length=l.length:=fun l=>by
   induction l with
   | nil=>rfl
   | cons x l ih=>simp only[MV.renL,List.length_cons,ih]
  simp only[MObj.ren,osat,hl,j3]
 | rr own e xss h =>
  cases h with
  | none=>simp only[MObj.ren,Option.map_none,osat,reduceCtorEq,false_implies,implies_true]
  | some q =>
   obtain ⟨i,x⟩:=q
   have e1:∀vs:List Value,(∀(j:Nat) (y:MV),some (i,x.ren π)=some (j,y)->∃v,vs[j]? = some v/\Cv ρ m y v)↔(∀(j:Nat) (y:MV),some (i,x)=some (j,y)->∃v,vs[j]? = some v/\Cv (fun k=>ρ (π k)) m y v):=by
    intro vs
    constructor
    ·intro h j y hj
     simp only[Option.some.injEq,Prod.mk.injEq] at hj
     obtain ⟨rfl,rfl⟩:=hj
     obtain ⟨v,hv,hc⟩:=h i (x.ren π) rfl
     exact ⟨v,hv,(ym π x v).1 hc⟩
    ·intro h j y hj
     simp only[Option.some.injEq,Prod.mk.injEq] at hj
     obtain ⟨rfl,rfl⟩:=hj
     obtain ⟨v,hv,hc⟩:=h i x rfl
     exact ⟨v,hv,(ym π x v).2 hc⟩
   have e2:(some (i,x.ren π)=(none:Option (Nat×MV)))↔(some (i,x)=(none:Option (Nat×MV))):=by simp
   simp only[MObj.ren,Option.map_some,osat,e1,e2,hole]
theorem yW {ρ:Nat->Hd} {w:World} (π:Nat->Nat) (k:Nat) (o:MObj) (b:Nat):inner ρ w (π k) (o.ren π) b↔inner (fun k=>ρ (π k)) w k o b:=by
 cases o with
 | rr own e xss h =>
  cases h with
  | none=>exact Iff.rfl
  | some q=>exact Iff.rfl
 | _=>exact Iff.rfl

def wF (L:List (Nat×Option MObj)):List Nat:=L.map (·.1)
def jf (π:Nat->Nat) (L:List (Nat×Option MObj)):List (Nat×Option MObj):=L.map fun q=>(π q.1,q.2.map (·.ren π))

def fnb (P : Program) (f : FuncId) : Bool := match P.funcs[f]? with | some fn => fn.body.isSome && !(fn.name == "runtime.NumGoroutine") | none => false

theorem Wp {P:Program} {f:FuncId} (h:fnb P f=true) (args:Array Value) (w:World):(callFunc f args).run P w=.ok (.enter f args) w:=by
 unfold fnb at h
 split at h
 ·rename_i fn hfn
  simp only[Bool.and_eq_true,Bool.not_eq_true'] at h
  unfold callFunc
  rw[wc,show (program).run P w=.ok P w from rfl];simp only[hfn]
  rw[if_neg (by simp[h.2]),if_neg (by cases hb:fn.body<;>simp_all)]
  rfl
 ·cases h

theorem jO {L:List (Nat×Option MObj)} {k:Nat} {o:MObj} (h:ww L k=some o):k∈wF L:=by
 induction L with
 | nil=>simp[ww] at h
 | cons q L ih =>
  obtain ⟨k',o'⟩:=q
  simp only[ww] at h
  simp only[wF,List.map_cons,List.mem_cons]
  split at h
  ·rename_i e;exact .inl (by simpa using (beq_iff_eq.1 e).symm)
  ·exact .inr (ih h)

theorem K1 {π:Nat->Nat} {L:List (Nat×Option MObj)} {M:Nat->Option MObj} (hinj:∀a∈wF L,∀b∈wF L,π a=π b->a=b):∀c,(∃k∈wF L,π k=c/\qQ (jf π L) M c=(ww L k).map (·.ren π))\/((∀k∈wF L,π k≠c)/\qQ (jf π L) M c=M c):=by
 induction L with
 | nil=>intro c;right;exact ⟨fun k hk=>by simp[wF] at hk,rfl⟩
 | cons q L ih =>
  obtain ⟨k',o'⟩:=q
  intro c
  by_cases e:π k'=c
  ·left
   refine ⟨k',by simp[wF],e,?_⟩
   simp[jf,qQ,ww,e]
  ·have hup:qQ (jf π ((k',o')::L)) M c=qQ (jf π L) M c:=by simp[jf,qQ,e]
   rcases ih (fun a ha b hb=>hinj a (by simp[wF] at ha ⊢;exact .inr ha) b (by simp[wF] at hb ⊢;exact .inr hb)) c with ⟨k,hk,h1,h2⟩|⟨h1,h2⟩
   ·left
    have hk':k∈wF ((k',o')::L):=by simp[wF] at hk ⊢;exact .inr hk
    refine ⟨k,hk',h1,?_⟩
    rw[hup,h2]
    have:k'≠k:=fun x=>e (by rw[x];exact h1)
    simp[ww,this]
   ·right
    refine ⟨fun k hk=>?_,by rw[hup,h2]⟩
    simp only[wF,List.map_cons,List.mem_cons] at hk
    rcases hk with rfl|hk
    ·exact e
    ·exact h1 k hk

def Qp (ks:List Nat) (x:MV) (L:List (Nat×Option MObj)):Prop :=
  (∀d,x.has d=true->d∈ks)/\∀k o,ww L k=some o->∀d,o.has d=true->d∈ks

theorem VV {P:Program} {Γ:Gd} {N:Nat} {A:Nat->Option MV} {L:Nat->Option MObj} {f:FuncId} {xs:List MV} {Lc Lc':List (Nat×Option MObj)} {res:MV} (hF:Fn P f xs Lc res Lc') (π:Nat->Nat)
  (hL:∀k o,ww Lc k=some o->L (π k)=some (o.ren π)) (hk1:∀k∈wF Lc,k∈wF Lc') (hinj:∀a∈wF Lc',∀b∈wF Lc',π a=π b->a=b) (htold:Qp (wF Lc') res Lc')
  (hnew:∀k∈wF Lc',1000<=k->1000<=π k/\k ∉ wF Lc/\(∀s x,A s=some x->x.has (π k)=false)/\(∀c o,L c=some o->o.has (π k)=false/\c≠π k))
  {a:Act} {w:World} (hs:Sat Γ N A L a w) {vs:List Value} (hv:∀ρ m,(∀s x,A s=some x->∃v,a.tmps[s]? = some v/\Cv ρ m x v)->CvL ρ m (MV.renL π xs) vs) (R:Value->World->Prop)
  (hR:∀v w',(∀dst:Option Nat,(∀d,dst=some d->d<N)->Sat Γ N (vq dst (res.ren π) A) (qQ (jf π Lc') L) (a.put dst v) w')->R v w') :
  Calls P f vs.toArray w fun e w'=>match e with|.returned v=>R v w'|_=>False:=by
 obtain ⟨h1,h2,ρ,m,h3,h4,h5,h6⟩:=hs
 let X':Nat->Prop:=fun b=>Γ.X b\/∃k o,L k=some o/\(∀kc∈wF Lc,π kc≠k)/\(foot ρ k b\/inner ρ w k o b)
 have hH:Hp X' (fun k=>ρ (π k)) m (ww Lc) w:=by
  refine ⟨h4.mem,fun k o hk=>(Zs π k o).1 (h4.obj _ _ (hL k o hk)),fun k o k' o' b hk hk' hf hf'=>?_,fun k o b hk hf=>h4.djm _ _ b (hL k o hk) hf,fun k o b hk hf hX=>?_,fun b hX=>?_,fun k o b hk hi=>?_⟩
  ·exact hinj _ (hk1 _ (jO hk)) _ (hk1 _ (jO hk')) (h4.dj _ _ _ _ b (hL k o hk) (hL k' o' hk') hf hf')
  ·rcases hX with hX|⟨c,oc,hc,hne,hfc⟩
   ·exact h4.djX _ _ b (hL k o hk) hf hX
   ·rcases hfc with hfc|hfc
    ·exact hne k (jO hk) (h4.dj _ _ _ _ b (hL k o hk) hc hf hfc)
    ·exact (h4.inn c oc b hc hfc).2.2.1 _ _ (hL k o hk) hf
  ·rcases hX with hX|⟨c,oc,hc,_,hfc⟩
   ·exact h4.lt b hX
   ·rcases hfc with hfc|hfc
    ·exact xy h4 hc hfc
    ·exact xU h4 hc hfc
  ·obtain ⟨i1,i2,i3,i4⟩:=h4.inn _ _ b (hL k o hk) ((yW π k o b).2 hi)
   refine ⟨i1,fun hX=>?_,fun k' o' hk' hf'=>i3 _ _ (hL k' o' hk') hf',fun k' o' hk' hi'=>hinj _ (hk1 _ (jO hk)) _ (hk1 _ (jO hk')) (i4 _ _ (hL k' o' hk') ((yW π k' o' b).2 hi'))⟩
   rcases hX with hX|⟨c,oc,hc,hne,hfc⟩
   ·exact i2 hX
   ·rcases hfc with hfc|hfc
    ·exact i3 c oc hc hfc
    ·exact hne k (jO hk) (i4 c oc hc hfc)
 refine (hF X' (fun k=>ρ (π k)) m w vs hH ((j3 π xs vs).1 (hv ρ m h3))).mono ?_
 rintro e w' ⟨ρ',m',v,rfl,hcv,hH',hN,hρ'⟩
 refine hR v w' (fun dst hdst=>?_)
 -- the caller's keys anew
 let ρ'':Nat->Hd:=fun c=>match (wF Lc').find? (fun k=>decide (1000<=k)&&decide (π k=c)) with|some k=>ρ' k|none=>ρ c
 have hfind:∀k∈wF Lc',1000<=k->ρ'' (π k)=ρ' k:=by
  intro k hk hge
  show (match (wF Lc').find? (fun q=>decide (1000<=q)&&decide (π q=π k)) with|some q=>ρ' q|none=>ρ (π k))=ρ' k
  cases hf:(wF Lc').find? (fun q=>decide (1000<=q)&&decide (π q=π k)) with
  | none=>exact absurd hge (by have:=(List.find?_eq_none.1 hf) k hk;simpa using this)
  | some q =>
   have hq:=List.find?_some hf
   have hqm:=List.mem_of_find?_eq_some hf
   simp only[Bool.and_eq_true,decide_eq_true_eq] at hq
   rw[hinj q hqm k hk hq.2]
 have hsame:∀c,(∀k∈wF Lc',1000<=k->π k≠c)->ρ'' c=ρ c:=by
  intro c hc
  show (match (wF Lc').find? (fun q=>decide (1000<=q)&&decide (π q=c)) with|some q=>ρ' q|none=>ρ c)=ρ c
  cases hf:(wF Lc').find? (fun q=>decide (1000<=q)&&decide (π q=c)) with
  | none=>rfl
  | some q =>
   have hq:=List.find?_some hf
   have hqm:=List.mem_of_find?_eq_some hf
   simp only[Bool.and_eq_true,decide_eq_true_eq] at hq
   exact absurd hq.2 (hc q hqm hq.1)
 have hkey:∀k∈wF Lc',ρ'' (π k)=ρ' k:=by
  intro k hk
  rcases Nat.lt_or_ge k 1000 with hlt|hge
  ·rw[hρ' k hlt,hsame]
   intro q hq hge' e
   have:=hinj q hq k hk e
   omega
  ·exact hfind k hk hge
 have hA'':∀s y,A s=some y->∀k,y.has k=true->ρ'' k=ρ k:=by
  intro s y hy k hk
  refine hsame k (fun q hq hge e=>?_)
  have:=(hnew q hq hge).2.2.1 s y hy
  rw[e,hk] at this;cases this
 have hL'':∀c o,L c=some o->ρ'' c=ρ c/\∀k,o.has k=true->ρ'' k=ρ k:=by
  intro c o hc
  refine ⟨hsame c (fun q hq hge e=>((hnew q hq hge).2.2.2 c o hc).2 e.symm),fun k hk=>hsame k (fun q hq hge e=>?_)⟩
  have:=((hnew q hq hge).2.2.2 c o hc).1
  rw[e,hk] at this;cases this
 have hother:∀c o,L c=some o->(∀k∈wF Lc',π k≠c)->∀b,foot ρ c b->X' b:=fun c o hc hne b hf=>.inr ⟨c,o,hc,fun k hk=>hne k (hk1 k hk),.inl hf⟩
 have hotherI:∀c o,L c=some o->(∀k∈wF Lc',π k≠c)->∀b,inner ρ w c o b->X' b:=fun c o hc hne b hf=>.inr ⟨c,o,hc,fun k hk=>hne k (hk1 k hk),.inr hf⟩
 have hfo:∀c o,L c=some o->∀b,foot ρ'' c b↔foot ρ c b:=fun c o hc b=>by unfold foot;rw[(hL'' c o hc).1]
 have hfk:∀k∈wF Lc',∀b,foot ρ'' (π k) b↔foot ρ' k b:=fun k hk b=>by unfold foot;rw[hkey k hk]
 have hfoI:∀c o,L c=some o->(∀k∈wF Lc',π k≠c)->∀b,inner ρ'' w' c o b↔inner ρ w c o b:=fun c o hc hne b=>xG (hL'' c o hc).1 (fun hn=>hN.un _ (hother c o hc hne _ ⟨hn,rfl⟩)) o b
 have hfkI:∀k oc,k∈wF Lc'->∀b,inner ρ'' w' (π k) (oc.ren π) b↔inner ρ' w' k oc b:=fun k oc hk b=>(yW π k oc b).trans (xG (hkey k hk) (fun _=>rfl) oc b)
 have sel:∀c o,qQ (jf π Lc') L c=some o->(∃k oc,k∈wF Lc'/\π k=c/\ww Lc' k=some oc/\o=oc.ren π)\/((∀k∈wF Lc',π k≠c)/\L c=some o):=by
  intro c o ho
  rcases K1 (M:=L) hinj c with ⟨k,hk,hc,he⟩|⟨hne,he⟩
  ·left
   rw[he,Option.map_eq_some_iff] at ho
   obtain ⟨oc,hoc,rfl⟩:=ho
   exact ⟨k,oc,hk,hc,hoc,rfl⟩
  ·right;exact ⟨hne,by rw[<-he];exact ho⟩
 refine ⟨by rw[xS];exact h1,by rw[jD];exact h2,ρ'',m',xe hN.le h3 (fun d e=>h1▸hdst d e) (fun _=>?_) hA'',⟨fun b o hb=>hH'.mem b o hb,fun c o ho=>?_,fun c o c' o' b ho ho' hf hf'=>?_,fun c o b ho hf=>?_,fun c o b ho hf hX=>?_,fun b hX=>?_,fun c o b ho hi=>?_⟩,h5.trans ⟨hN.le,fun b hX=>hN.nm b (.inl hX),fun b hX=>hN.un b (.inl hX),hN.size,hN.os,hN.out,hN.tape⟩,fun k hk=>?_⟩
 ·refine (ym π res v).2 (Cv.mono (Mle.refl m') res v (fun d hd=>?_) hcv)
  exact hkey d (htold.1 d hd)
 ·rcases sel c o ho with ⟨k,oc,hk,rfl,hoc,rfl⟩|⟨hne,hc⟩
  ·refine (Zs π k oc).2 (osat.mono (Mle.refl m') (fun d hd=>?_) (hkey k hk) (fun _ _=>rfl) (fun _ _=>rfl) (hH'.obj k oc hoc))
   exact hkey d (htold.2 k oc hoc d hd)
  ·exact osat.mono hN.le (hL'' c o hc).2 (hL'' c o hc).1 (fun b hf=>hN.un b (hother c o hc hne b hf)) (fun b hf=>hN.un b (hotherI c o hc hne b hf)) (h4.obj c o hc)
 ·rcases sel c o ho with ⟨k,oc,hk,rfl,hoc,rfl⟩|⟨hne,hc⟩<;>rcases sel c' o' ho' with ⟨k',oc',hk',rfl,hoc',rfl⟩|⟨hne',hc'⟩
  ·rw[hH'.dj k oc k' oc' b hoc hoc' ((hfk k hk b).1 hf) ((hfk k' hk' b).1 hf')]
  ·exact absurd (hother c' o' hc' hne' b ((hfo c' o' hc' b).1 hf')) (hH'.djX k oc b hoc ((hfk k hk b).1 hf))
  ·exact absurd (hother c o hc hne b ((hfo c o hc b).1 hf)) (hH'.djX k' oc' b hoc' ((hfk k' hk' b).1 hf'))
  ·exact h4.dj c o c' o' b hc hc' ((hfo c o hc b).1 hf) ((hfo c' o' hc' b).1 hf')
 ·rcases sel c o ho with ⟨k,oc,hk,rfl,hoc,rfl⟩|⟨hne,hc⟩
  ·exact hH'.djm k oc b hoc ((hfk k hk b).1 hf)
  ·rw[hN.nm b (hother c o hc hne b ((hfo c o hc b).1 hf))]
   exact h4.djm c o b hc ((hfo c o hc b).1 hf)
 ·rcases sel c o ho with ⟨k,oc,hk,rfl,hoc,rfl⟩|⟨hne,hc⟩
  ·exact hH'.djX k oc b hoc ((hfk k hk b).1 hf) (.inl hX)
  ·exact h4.djX c o b hc ((hfo c o hc b).1 hf) hX
 ·exact hH'.lt b (.inl hX)
 ·rcases sel c o ho with ⟨k,oc,hk,rfl,hoc,rfl⟩|⟨hne,hc⟩
  ·obtain ⟨i1,i2,i3,i4⟩:=hH'.inn k oc b hoc ((hfkI k oc hk b).1 hi)
   refine ⟨i1,fun hX=>i2 (.inl hX),fun c' o' ho' hf'=>?_,fun c' o' ho' hi'=>?_⟩
   ·rcases sel c' o' ho' with ⟨k',oc',hk',rfl,hoc',rfl⟩|⟨hne',hc'⟩
    ·exact i3 k' oc' hoc' ((hfk k' hk' b).1 hf')
    ·exact i2 (hother c' o' hc' hne' b ((hfo c' o' hc' b).1 hf'))
   ·rcases sel c' o' ho' with ⟨k',oc',hk',rfl,hoc',rfl⟩|⟨hne',hc'⟩
    ·rw[i4 k' oc' hoc' ((hfkI k' oc' hk' b).1 hi')]
    ·exact absurd (hotherI c' o' hc' hne' b ((hfoI c' o' hc' hne' b).1 hi')) i2
  ·have hi0:=(hfoI c o hc hne b).1 hi
   obtain ⟨i1,i2,i3,i4⟩:=h4.inn c o b hc hi0
   refine ⟨?_,i2,fun c' o' ho' hf'=>?_,fun c' o' ho' hi'=>?_⟩
   ·rw[hN.nm b (hotherI c o hc hne b hi0)];exact i1
   ·rcases sel c' o' ho' with ⟨k',oc',hk',rfl,hoc',rfl⟩|⟨hne',hc'⟩
    ·exact hH'.djX k' oc' b hoc' ((hfk k' hk' b).1 hf') (hotherI c o hc hne b hi0)
    ·exact i3 c' o' hc' ((hfo c' o' hc' b).1 hf')
   ·rcases sel c' o' ho' with ⟨k',oc',hk',rfl,hoc',rfl⟩|⟨hne',hc'⟩
    ·exact absurd (hotherI c o hc hne b hi0) (hH'.inn k' oc' b hoc' ((hfkI k' oc' hk' b).1 hi')).2.1
    ·exact i4 c' o' hc' ((hfoI c' o' hc' hne' b).1 hi')
 ·rw[hsame k (fun q hq hge e=>by have:=(hnew q hq hge).1;omega)];exact h6 k hk
end
section

def TC (P:Program) (Γ:Gd) (N:Nat) (c:Code) (Q:Exit->Act->World->Prop) (A:List (Nat×MV)) (L:List (Nat×Option MObj)):Prop :=
  ∀a w,Sat Γ N (get A) (ww L) a w->c.wp P Q a w
def TE (Γ:Gd) (N:Nat) (R:Act->World->Prop) (A:List (Nat×MV)) (L:List (Nat×Option MObj)):Prop :=
  ∀a w,Sat Γ N (get A) (ww L) a w->R a w
def TL (P:Program) (Γ:Gd) (N:Nat) (ops:Array Oper) (Q:Exit->Act->World->Prop) (l:List Oper) (A:List (Nat×MV)) (L:List (Nat×Option MObj)):Prop :=
  ∀a w,Sat Γ N (get A) (ww L) a w->wpList P ops Q l a w

def jX (d:Nat) (A:List (Nat×MV)):Bool:=A.all fun q=>!q.2.has d
def jW (d:Nat) (L:List (Nat×Option MObj)):Bool:=L.all fun q=>match q.2 with|some o=>!o.has d&&!(q.1==d)|none=>true

theorem xX {d:Nat}:∀{A:List (Nat×MV)},jX d A=true->∀s x,get A s=some x->x.has d=false
 | [],_,s,x,h=>by simp[get] at h
 | (k,v)::A,hf,s,x,h=>by
  simp only[jX,List.all_cons,Bool.and_eq_true,Bool.not_eq_true'] at hf
  simp only[get] at h
  split at h
  ·simp only[Option.some.injEq] at h;subst h;exact hf.1
  ·exact xX (A:=A) hf.2 s x h
theorem xD {d:Nat}:∀{L:List (Nat×Option MObj)},jW d L=true->∀k o,ww L k=some o->o.has d=false/\k≠d
 | [],_,s,x,h=>by simp[ww] at h
 | (k,v)::L,hf,s,x,h=>by
  simp only[jW,List.all_cons,Bool.and_eq_true] at hf
  simp only[ww] at h
  split at h
  ·rename_i e
   subst h
   have:=hf.1
   simp only[Bool.and_eq_true,Bool.not_eq_true',beq_eq_false_iff_ne] at this
   have e':=beq_iff_eq.1 e
   exact ⟨this.1,fun e2=>this.2 (by rw[e',e2])⟩
  ·exact xD (L:=L) hf.2 s x h

def jZ (tab:Nat->Option TI) (N:Nat) (ops:Array Oper):Nat->List Oper->List (Nat×MV)->List (Nat×Option MObj)->Option (List Oper×List (Nat×MV)×List (Nat×Option MObj)×Prop)
  | 0,l,A,L=>some (l,A,L,True)
  | n+1,o::l,A,L=>match o.guard,o.dst with
    | none,some d=>if d<N then (match yc tab A L none o.op with
      | some (r,C)=>(match jZ tab N ops n l ((d,r)::A) L with|some (l',A',L',D)=>some (l',A',L',C/\D)|none=>none)
      | none=>(match vm tab A L none (1000+d) o.op with
        | some (r,U,fr,C)=>if okB fr (jX (1000+d) A&&jW (1000+d) L) r then (match jZ tab N ops n l ((d,r)::A) (U++L) with|some (l',A',L',D)=>some (l',A',L',C/\D)|none=>none) else none
        | none=>none)) else none
    | none,none=>(match vm tab A L none 1000 o.op with
      | some (_,U,fr,C)=>if !fr then (match jZ tab N ops n l A (U++L) with|some (l',A',L',D)=>some (l',A',L',C/\D)|none=>none) else none
      | none=>none)
    | some (j,want),some d=>if d<N then (match (ops[j]?).bind (·.dst) with
      | some dj=>(match get A dj with
        | some (.bool b)=>(match yc tab A L (some (if want then b else !b)) o.op with
          | some (r,C)=>(match jZ tab N ops n l ((d,.cnd (if want then b else !b) r)::A) L with|some (l',A',L',D)=>some (l',A',L',((if want then b else !b)=true->C)/\D)|none=>none)
          | none=>none)
        | some (.cnd t (.bool b))=>(match yc tab A L (some (t&&(if want then b else !b))) o.op with
          | some (r,C)=>(match jZ tab N ops n l ((d,.cnd (t&&(if want then b else !b)) r)::A) L with|some (l',A',L',D)=>some (l',A',L',((t&&(if want then b else !b))=true->C)/\D)|none=>none)
          | none=>none)
        | _=>none)
      | none=>none) else none
    | _,_=>none
  | _+1,[],_,_=>none

theorem yf {P:Program} (E:Env P) {Γ:Gd} {N:Nat} {ops:Array Oper} {Q:Exit->Act->World->Prop}:∀(n:Nat) {l l':List Oper} {A A':List (Nat×MV)} {L L':List (Nat×Option MObj)} {C:Prop},
  jZ E.tab N ops n l A L=some (l',A',L',C)->C->TL P Γ N ops Q l' A' L'->TL P Γ N ops Q l A L
 | 0,l,l',A,A',L,L',C,h,_,k=>by
  simp only[jZ,Option.some.injEq,Prod.mk.injEq] at h
  obtain ⟨rfl,rfl,rfl,_⟩:=h;exact k
 | n+1,[],l',A,A',L,L',C,h,_,_=>by simp[jZ] at h
 | n+1,o::l,l',A,A',L,L',C,h,hC,k=>by
  intro a w hs
  unfold jZ at h
  split at h
  ·-- no guard,a slot
   rename_i d hg hd
   split at h
   case isFalse=>cases h
   rename_i hdN
   split at h
   ·rename_i r D hp
    split at h
    ·rename_i l1 A1 L1 F hrec
     simp only[Option.some.injEq,Prod.mk.injEq] at h;obtain ⟨rfl,rfl,rfl,rfl⟩:=h
     refine wpList_plain hg fun K hK=>?_
     refine Oper.wp_mono (fun a w h=>hK a w h) (Oper.wp_mono ?_ (ZD E (fun _ _ h=>h) (fun _ _ h=>h) hp hC.1 (fun d' e=>by rw[hd] at e;cases e;exact hdN) hs Q))
     intro a1 w1 hs1
     refine yf E n hrec hC.2 k a1 w1 ?_
     rw[hd] at hs1;exact hs1
    ·cases h
   ·split at h
    ·rename_i r U fr D hp
     split at h
     ·rename_i hfr
      have hfr2:fr=true->jX (1000+d) A=true/\jW (1000+d) L=true:=fun e=>by simpa only [Bool.and_eq_true] using U4 hfr e
      split at h
      ·rename_i l1 A1 L1 F hrec
       simp only[Option.some.injEq,Prod.mk.injEq] at h;obtain ⟨rfl,rfl,rfl,rfl⟩:=h
       refine wpList_plain hg fun K hK=>?_
       refine Oper.wp_mono (fun a w h=>hK a w h) (Oper.wp_mono ?_ (yY E (fun _ _ h=>h) (fun _ _ h=>h) hp hC.1 (fun d' e=>by rw[hd] at e;cases e;exact hdN) (fun e=>.inr (uf hfr e)) (fun _=>by omega) (fun e k o hk _=>(xD (hfr2 e).2 k o hk).1) (fun e=>xX (hfr2 e).1) hs Q))
       intro a1 w1 hs1
       refine yf E n hrec hC.2 k a1 w1 ?_
       rw[hd] at hs1;rw[yK];exact hs1
      ·cases h
     ·cases h
    ·cases h
  ·-- no guard,no slot
   rename_i hg hd
   split at h
   ·rename_i r U fr D hp
    split at h
    ·rename_i hfr
     simp only[Bool.not_eq_true'] at hfr
     split at h
     ·rename_i l1 A1 L1 F hrec
      simp only[Option.some.injEq,Prod.mk.injEq] at h;obtain ⟨rfl,rfl,rfl,rfl⟩:=h
      refine wpList_plain hg fun K hK=>?_
      refine Oper.wp_mono (fun a w h=>hK a w h) (Oper.wp_mono ?_ (yY E (fun _ _ h=>h) (fun _ _ h=>h) hp hC.1 (fun d' e=>by rw[hd] at e;cases e) (fun _=>.inl hd) (fun e=>by rw[hfr] at e;cases e) (fun e=>by rw[hfr] at e;cases e) (fun e=>by rw[hfr] at e;cases e) hs Q))
      intro a1 w1 hs1
      refine yf E n hrec hC.2 k a1 w1 ?_
      rw[hd] at hs1;rw[yK];exact hs1
     ·cases h
    ·cases h
   ·cases h
  ·-- a guard
   rename_i j want d hg hd
   split at h
   case isFalse=>cases h
   rename_i hdN
   split at h
   ·rename_i dj hdj
    obtain ⟨oj,hoj,hdj'⟩:=Option.bind_eq_some_iff.1 hdj
    split at h
    ·rename_i b hb
     split at h
     ·rename_i r D hp
      split at h
      ·rename_i l1 A1 L1 F hrec
       simp only[Option.some.injEq,Prod.mk.injEq] at h;obtain ⟨rfl,rfl,rfl,rfl⟩:=h
       refine wpList_step fun K hK=>?_
       exact vK E (fun _ _ h=>h) (fun _ _ h=>h) hg hoj hdj' (.inl ⟨b,hb,rfl⟩) hp hC.1 hd hdN hs Q K (fun a1 w1 hs1=>hK a1 w1 (yf E n hrec hC.2 k a1 w1 hs1))
      ·cases h
     ·cases h
    ·rename_i t b hb
     split at h
     ·rename_i r D hp
      split at h
      ·rename_i l1 A1 L1 F hrec
       simp only[Option.some.injEq,Prod.mk.injEq] at h;obtain ⟨rfl,rfl,rfl,rfl⟩:=h
       refine wpList_step fun K hK=>?_
       exact vK E (fun _ _ h=>h) (fun _ _ h=>h) hg hoj hdj' (.inr ⟨t,b,hb,rfl⟩) hp hC.1 hd hdN hs Q K (fun a1 w1 hs1=>hK a1 w1 (yf E n hrec hC.2 k a1 w1 hs1))
      ·cases h
     ·cases h
    ·cases h
   ·cases h
  ·cases h
end
section

mutual
theorem Ke:∀x:MV,x.ren (fun k=>k)=x
  | .agg l=>by simp only[MV.ren,Zd l]
  | .tup l=>by simp only[MV.ren,Zd l]
  | .fn f l=>by simp only[MV.ren,Zd l]
  | .ifc t x=>by simp only[MV.ren,Ke x]
  | .bm t x=>by simp only[MV.ren,Ke x]
  | .cnd t x=>by simp only[MV.ren,Ke x]
  | .p _ _=>rfl|.pe _ _ _=>rfl|.sl _=>rfl|.mp _=>rfl|.hd _ _=>rfl|.sv _ _=>rfl|.sp _ _=>rfl|.pf _ _ _=>rfl|.int _ _=>rfl|.bool _=>rfl|.str _=>rfl|.nilp=>rfl|.nils=>rfl|.nilf=>rfl|.nili=>rfl|.nilm=>rfl
  | .im _ _=>rfl|.pim _ _=>rfl|.raw _=>rfl
theorem Zd:∀l:List MV,MV.renL (fun k=>k) l=l
  | []=>rfl
  | x::l=>by simp only[MV.renL,Ke x,Zd l]
end

def WM (Γ:Gd) (res:MV) (L':List (Nat×Option MObj)) (e:Ending) (w':World):Prop :=
  ∃ρ' m' v,e=.returned v/\Cv ρ' m' res v/\Hp Γ.X ρ' m' (ww L') w'/\Nx Γ.X Γ.m0 m' Γ.w0 w'/\∀k,k<1000->ρ' k=Γ.ρ0 k

def ZO:Nat->List MV->List (Nat×MV)
  | _,[]=>[]
  | n,x::l=>(n,x)::ZO (n+1) l

theorem Kh {ρ:Nat->Hd} {m:Mem}:∀{xs:List MV} {vs pre:List Value} (rest:List Value),CvL ρ m xs vs->∀s x,get (ZO pre.length xs) s=some x->∃v,(pre++(vs++rest))[s]? = some v/\Cv ρ m x v
 | [],_,_,_,_,s,x,h=>by simp[ZO,get] at h
 | y::xs,vs,pre,rest,⟨v,us,hv,hy,hus⟩,s,x,h=>by
  subst hv
  simp only[ZO,get] at h
  split at h
  ·rename_i e
   have e':=beq_iff_eq.1 e
   simp only[Option.some.injEq] at h;subst h;subst e'
   exact ⟨v,by simp,hy⟩
  ·have:=Kh (xs:=xs) (vs:=us) (pre:=pre++[v]) rest hus s x (by simpa using h)
   simpa using this

theorem WS {P:Program} {f:FuncId} {fn:Func} {c:Code} {args:List MV} {Lc Lc':List (Nat×Option MObj)} {res:MV} (hf:P.funcs[f]? = some fn) (hb:fn.body=some c) (hn:args.length<=fn.ntmps)
  (h:∀Γ:Gd,TC P Γ fn.ntmps c (bodyPost P fn (WM Γ res Lc')) (ZO 0 args) Lc):Fn P f args Lc res Lc':=by
 intro X ρ m w vs hH hv
 have hl:=CvL.length hv
 refine calls_of_wp hf hb (h ⟨X,ρ,m,w⟩ _ _ ⟨by simp;omega,rfl,ρ,m,fun s x hx=>?_,hH,Nx.refl X m w,fun _ _=>rfl⟩)
 obtain ⟨v,h1,h2⟩:=Kh (pre:=[]) (List.replicate (fn.ntmps-vs.length) undef) hv s x hx
 refine ⟨v,?_,h2⟩
 rw[<-h1]
 simp only[List.nil_append]
 rw[<-Array.getElem?_toList]
 congr 1
 simp

def JQ (tab:Nat->Option TI) (A:List (Nat×MV)) (L:List (Nat×Option MObj)):List ResultVar->Option (List MV×Prop)
  | []=>some ([],True)
  | .tmp t::l=>match get A t,JQ tab A L l with
    | some x,some (xs,C)=>some (x::xs,C)
    | _,_=>none
  | .cell a t::l=>match get A a,tab t,JQ tab A L l with
    | some x,some i,some (xs,C)=>(match x with
      | .p _ _=>(match Qu i L x with|some (y,D)=>some (y::xs,D/\C)|none=>none)
      | _=>none)
    | _,_,_=>none
def HO:List MV->MV
  | [x]=>x
  | xs=>.tup xs
def U9 (tab:Nat->Option TI) (A:List (Nat×MV)) (L:List (Nat×Option MObj)) (rs:List ResultVar):Option (MV×Prop) :=
  match JQ tab A L rs with
  | some (xs,C)=>some (HO xs,C)
  | none=>none
theorem uw {α β:Type} {P:Program} (f:α->β) (s:Sem α) (w:World):(f <$> s).run P w=match s.run P w with|.ok a w'=>.ok (f a) w'|.halt h w'=>.halt h w':=vw s _ w

def Gz (tmps:Array Value):ResultVar->Sem Value
  | .tmp t=>pure (tmps.getD t undef)
  | .cell a t=>do loadVar t (← asAddr (tmps.getD a undef))
theorem Jm (fn:Func) (tmps:Array Value):results fn tmps=(do
  let vs ← fn.results.mapM (Gz tmps)
  pure (if h:vs.size=1 then vs[0] else .tuple vs)):=rfl
theorem QB {P:Program} (E:Env P) {A:List (Nat×MV)} {L:List (Nat×Option MObj)} {ρ:Nat->Hd} {m:Mem} {w:World} {tmps:Array Value} (hA:∀s x,get A s=some x->∃v,tmps[s]? = some v/\Cv ρ m x v) (hO:∀k o,ww L k=some o->osat ρ m w k o) (hM:∀b o,m b=some o->w.heap[b]? = some o) :
  ∀{rs:List ResultVar} {xs:List MV} {C:Prop},JQ E.tab A L rs=some (xs,C)->C->∃vs,(rs.mapM (Gz tmps)).run P w=.ok vs w/\CvL ρ m xs vs
 | [],xs,C,h,_=>by simp only[JQ,Option.some.injEq,Prod.mk.injEq] at h;obtain ⟨rfl,rfl⟩:=h;exact ⟨[],rfl,rfl⟩
 | .tmp t::l,xs,C,h,hC=>by
  unfold JQ at h
  split at h
  ·rename_i x ys D h1 h2
   simp only[Option.some.injEq,Prod.mk.injEq] at h;obtain ⟨rfl,rfl⟩:=h
   obtain ⟨v,hv,hc⟩:=hA t x h1
   obtain ⟨vs,hvs,hcs⟩:=QB E hA hO hM h2 hC
   refine ⟨v::vs,?_,v,vs,rfl,hc,hcs⟩
   rw[List.mapM_cons,wc,show (Gz tmps (.tmp t)).run P w=.ok (tmps.getD t undef) w from rfl];simp only
   rw[wc,hvs]
   simp[hv]
  ·cases h
 | .cell b t::l,xs,C,h,hC=>by
  unfold JQ at h
  split at h
  ·rename_i x i ys D h1 h0 h2
   split at h
   ·rename_i key off
    split at h
    ·rename_i y F h3
     simp only[Option.some.injEq,Prod.mk.injEq] at h;obtain ⟨rfl,rfl⟩:=h
     obtain ⟨v,hv,hc⟩:=hA b _ h1
     obtain ⟨z,hz,hcz⟩:=KL (E.tok _ _ h0) h3 hC.1 hO hM hc
     obtain ⟨vs,hvs,hcs⟩:=QB E hA hO hM h2 hC.2
     refine ⟨z::vs,?_,z,vs,rfl,hcz,hcs⟩
     have hv':tmps.getD b undef=.pointer (some ⟨(ρ key).blk,off,none⟩):=by simp only[Cv] at hc;subst hc;simp[hv]
     simp only[Cv] at hc;subst hc
     rw[jh] at hz
     have hone:(Gz tmps (.cell b t)).run P w=.ok z w:=by
      show ((asAddr (tmps.getD b undef)) >>= fun a=>loadVar t a:Sem Value).run P w=_
      rw[hv',wc,show (asAddr (.pointer (some ⟨(ρ key).blk,off,none⟩))).run P w=.ok ⟨(ρ key).blk,off,none⟩ w from rfl]
      exact hz
     rw[List.mapM_cons,wc,hone];simp only
     rw[wc,hvs]
     simp
    ·cases h
   ·cases h
  ·cases h

def Mr:List (Nat×MV)->List (Nat×MV)->Prop
  | [],_=>True
  | (s,x)::l,A=>get A s=some x/\Mr l A
def vc:List (Nat×Option MObj)->List (Nat×Option MObj)->Prop
  | [],_=>True
  | (k,o)::l,L=>(o=none\/ww L k=o)/\vc l L
theorem vc.get:∀{l L:List (Nat×Option MObj)},vc l L->∀k o,ww l k=some o->ww L k=some o
 | [],_,_,s,x,h=>by simp[ww] at h
 | (s',y)::l,A,⟨h1,h2⟩,s,x,h=>by
  simp only[ww] at h
  split at h
  ·rename_i e;have e':=beq_iff_eq.1 e;subst e'
   rcases h1 with h1|h1
   ·rw[h1] at h;cases h
   ·rw[h1];exact h
  ·exact vc.get h2 s x h

section
variable {P:Program} {Γ:Gd} {N:Nat} {Q:Exit->Act->World->Prop} {A A':List (Nat×MV)} {L L':List (Nat×Option MObj)}

theorem yd (E:Env P) {ops:Array Oper} (n:Nat) {l l':List Oper} {C:Prop} (h:jZ E.tab N ops n l A L=some (l',A',L',C)) (hC:C) (k:TL P Γ N ops Q l' A' L'):TL P Γ N ops Q l A L:=yf E n h hC k
theorem wu {ops:Array Oper} (h:TE Γ N (Q .normal) A L):TL P Γ N ops Q [] A L:=fun a w hs=>wpList_nil (h a w hs)
theorem wx (h:TE Γ N (Q .normal) A L):TC P Γ N .skip Q A L:=fun a w hs=>wp_skip (h a w hs)
theorem wa {x y:Code} (h:TC P Γ N x (Exit.then (fun a w=>y.wp P Q a w) Q) A L):TC P Γ N (.seq x y) Q A L:=fun a w hs=>wp_seq (h a w hs)
theorem w9 {c:Code} {Q':Exit->Act->World->Prop} (h:TC P Γ N c Q A L):TE Γ N (Exit.then (fun a w=>c.wp P Q a w) Q' .normal) A L:=h
theorem wo {id:Nat} {l:List Oper} (h:TL P Γ N l.toArray Q l A L):TC P Γ N (.region id l.toArray false) Q A L:=fun a w hs=>wp_region_lit (h a w hs)
theorem Q1 {c:Operand} {x y:Code} {b:Bool} (hc:opd A c=some (.bool b)) (ht:b=true->TC P Γ N x Q A L) (hf:b=false->TC P Γ N y Q A L):TC P Γ N (.cond c x y) Q A L:=by
 intro a w hs
 obtain ⟨h1,h2,ρ,m,h3,h4⟩:=hs
 have:=WF (ρ:=ρ) (m:=m) (fun s x hx=>h3 s x hx) hc
 simp only[Cv] at this
 refine wp_cond_split this (fun e=>ht e a w ⟨h1,h2,ρ,m,h3,h4⟩) (fun e=>hf e a w ⟨h1,h2,ρ,m,h3,h4⟩)
theorem wg {id:Nat} {c:Code} (h:TC P Γ N c (Exit.inBlock id Q) A L):TC P Γ N (.block id c) Q A L:=fun a w hs=>wp_block (h a w hs)
theorem wn {id:Nat} (h:TE Γ N (Q (.exit id)) A L):TC P Γ N (.exit id) Q A L:=fun a w hs=>wp_exit (h a w hs)
theorem we (h:TE Γ N (Q .ret) A L):TC P Γ N .ret Q A L:=fun a w hs=>wp_ret (h a w hs)

def SP (Γ:Gd) (N:Nat) {α:Type} (p:α->Prop) (SA:α->List (Nat×MV)) (SL:α->List (Nat×Option MObj)):Act->World->Prop:=fun a w=>∃x,p x/\Sat Γ N (get (SA x)) (ww (SL x)) a w
theorem y6 {c:Code} {α:Type} (p:Nat->α->Prop) (SA:α->List (Nat×MV)) (SL:α->List (Nat×Option MObj)) (n:Nat) (h0:TE Γ N (SP Γ N (p n) SA SL) A L)
  (hr:∀n z,p n z->TC P Γ N c (Exit.then (fun a w=>∃n',n'<n/\SP Γ N (p n') SA SL a w) Q) (SA z) (SL z)):TC P Γ N (.loop c) Q A L:=by
 intro a w hs b k cs
 have key:∀n a w,SP Γ N (p n) SA SL a w->∃e a' w',Q e a' w'/\Arrives P (lone (b.at a (.code c::.inLoop c::k)) cs w) b k cs e a' w':=by
  intro n
  induction n using Nat.strongRecOn with
  | _ n ih =>
   rintro a w ⟨z,hp,hz⟩
   obtain ⟨e,a₁,w₁,hq,harr⟩:=hr n z hp a w hz b (.inLoop c::k) cs
   cases e with
   | normal =>
    obtain ⟨n',hlt,hI⟩:=hq
    obtain ⟨e₂,a₂,w₂,hq₂,harr₂⟩:=ih n' hlt a₁ w₁ hI
    exact ⟨e₂,a₂,w₂,hq₂,.of_steps (Steps.trans harr (.one step_inLoop)) harr₂⟩
   | exit id=>exact ⟨_,a₁,w₁,hq,.pass (x:=.inLoop c) rfl (fun _ _=>.inl (by simp)) harr⟩
   | goto l=>exact ⟨_,a₁,w₁,hq,.pass (x:=.inLoop c) rfl (fun _ _=>.inl (by simp)) harr⟩
   | ret=>exact ⟨_,a₁,w₁,hq,.pass (x:=.inLoop c) rfl (fun _ _=>.inl (by simp)) harr⟩
   | panic ch=>exact ⟨_,a₁,w₁,hq,.pass (x:=.inLoop c) rfl (fun _ _=>.inl (by simp)) harr⟩
   | outgrown=>exact ⟨_,a₁,w₁,hq,.pass (x:=.inLoop c) rfl (fun _ _=>.inl (by simp)) harr⟩
 obtain ⟨e,a',w',hq,harr⟩:=key n a w (h0 a w hs)
 exact ⟨e,a',w',hq,.of_steps (.one step_loop) harr⟩
theorem JG (E:Env P) {fn:Func} {res:MV} {Lc:List (Nat×Option MObj)} {C:Prop} (hr:U9 E.tab A L fn.results.toList=some (res,C)) (hC:C) (hL:vc Lc L):TE Γ N (bodyPost P fn (WM Γ res Lc) .ret) A L:=by
 rintro a w ⟨h1,h2,ρ,m,h3,h4,h5,h6⟩
 unfold U9 at hr
 split at hr
 ·rename_i xs D hx
  simp only[Option.some.injEq,Prod.mk.injEq] at hr;obtain ⟨rfl,rfl⟩:=hr
  obtain ⟨vs,hvs,hcs⟩:=QB E h3 (fun k o hk=>h4.obj k o hk) h4.mem hx hC
  have hlen:=CvL.length hcs
  have hrun:(results fn a.tmps).run P w=.ok (if h:vs.toArray.size=1 then vs.toArray[0] else .tuple vs.toArray) w:=by
   rw[Jm,wc,Array.mapM_eq_mapM_toList,uw,hvs];rfl
  refine ⟨h2,_,hrun,ρ,m,_,rfl,?_,h4.weak hL.get,h5,h6⟩
  unfold HO
  split
  ·obtain ⟨v,us,rfl,hv,hus⟩:=hcs
   simp only[CvL] at hus;subst hus
   exact hv
  ·rename_i hne
   rw[dif_neg (by
    intro e
    have:xs.length=1:=by rw[<-hlen];simpa using e
    match xs,this with
    | [x],_=>exact hne x rfl)]
   exact ⟨vs,rfl,hcs⟩
 ·cases hr
theorem gy (E:Env P) {fn:Func} {res:MV} {Lc:List (Nat×Option MObj)} {C:Prop} (hr:U9 E.tab A L fn.results.toList=some (res,C)) (hC:C) (hL:vc Lc L):TE Γ N (bodyPost P fn (WM Γ res Lc) .normal) A L :=
 fun a w hs=>JG E hr hC hL a w hs
end
end
section

-- no key is mentioned
mutual
def MV.kf:MV->Bool
  | .p _ _=>false
  | .pe _ _ _=>false
  | .sl _=>false
  | .mp _=>false
  | .hd _ _=>false
  | .sv _ _=>false
  | .sp _ _=>false
  | .pf _ _ _=>false
  | .agg l=>MV.kfL l
  | .tup l=>MV.kfL l
  | .fn _ l=>MV.kfL l
  | .ifc _ x=>x.kf
  | .bm _ x=>x.kf
  | .cnd _ x=>x.kf
  | _=>true
def MV.kfL:List MV->Bool
  | []=>true
  | x::l=>x.kf&&MV.kfL l
end
mutual
theorem Q7 (d:Nat):∀x:MV,x.kf=true->x.has d=false
  | .agg l,h=>Wt d l h
  | .tup l,h=>Wt d l h
  | .fn _ l,h=>Wt d l h
  | .ifc _ x,h=>Q7 d x h
  | .bm _ x,h=>Q7 d x h
  | .cnd _ x,h=>Q7 d x h
  | .p _ _,h=>by simp[MV.kf] at h
  | .pe _ _ _,h=>by simp[MV.kf] at h
  | .sl _,h=>by simp[MV.kf] at h
  | .mp _,h=>by simp[MV.kf] at h
  | .hd _ _,h=>by simp[MV.kf] at h
  | .sv _ _,h=>by simp[MV.kf] at h
  | .sp _ _,h=>by simp[MV.kf] at h
  | .pf _ _ _,h=>by simp[MV.kf] at h
  | .int _ _,_=>rfl|.bool _,_=>rfl|.str _,_=>rfl|.nilp,_=>rfl|.nils,_=>rfl|.nilf,_=>rfl|.nili,_=>rfl|.nilm,_=>rfl
  | .im _ _,_=>rfl|.pim _ _,_=>rfl|.raw _,_=>rfl
theorem Wt (d:Nat):∀l:List MV,MV.kfL l=true->MV.hasL d l=false
  | [],_=>rfl
  | x::l,h=>by
    simp only[MV.kfL,Bool.and_eq_true] at h
    simp only[MV.hasL,Bool.or_eq_false_iff]
    exact ⟨Q7 d x h.1,Wt d l h.2⟩
end

def j1 (A:List (Nat×MV)):Op->Option (FuncId×List MV×Prop)
  | .call { callee:=.value fo,args,.. }=>match opg A none fo,opgs A none args.toList with
    | some (.fn f caps,C),some (ys,D)=>some (f,ys++caps,C/\D)
    | some (.bm f x,C),some (ys,D)=>some (f,x::ys,C/\D)
    | _,_=>none
  | _=>none

theorem JU {P:Program} {A:List (Nat×MV)} {o:Oper} {f:FuncId} {xs:List MV} {C:Prop} (h:j1 A o.op=some (f,xs,C)) (hC:C) (hf:fnb P f=true) {a:Act} {w:World}
  (hA:∃ρ m,v9 ρ m A a):∃vs:List Value,(execOp a.eval o).run P w=.ok (.enter f vs.toArray) w/\∀ρ m,v9 ρ m A a->CvL ρ m xs vs:=by
 obtain ⟨dst,op,ty,pos,after,guard⟩:=o
 simp only at h
 unfold j1 at h
 split at h
 ·rename_i fo args tys
  split at h
  ·rename_i f' caps D ys E h1 h2
   simp only[Option.some.injEq,Prod.mk.injEq] at h;obtain ⟨rfl,rfl,rfl⟩:=h
   obtain ⟨ρ0,m0,hs0⟩:=hA
   obtain ⟨cs,hcs,_⟩:=zh hs0 (.inl rfl) h1 hC.1
   refine ⟨args.toList.map a.eval++cs,?_,fun ρ m hs=>?_⟩
   ·show (do let d ← resolve a.eval { callee:=.value fo,args:=args,argTypes:=tys } ty;invoke d.target d.args:Sem Next).run P w=_
    unfold resolve Deferred.ofValue
    simp only[hcs]
    rw[wc,zZ];simp only
    unfold invoke
    simp only
    have he:#[]++args.map a.eval++cs.toArray=(args.toList.map a.eval++cs).toArray:=by apply Array.ext';simp
    rw[he,Wp hf]
   ·obtain ⟨cs',hcs',hc⟩:=zh hs (.inl rfl) h1 hC.1
    have:cs'=cs:=by
     rw[hcs] at hcs'
     simp only[Value.func.injEq,true_and] at hcs'
     have:=congrArg Array.toList hcs'
     simpa using this.symm
    subst this
    exact CvL.append (j2 hs (.inl rfl) h2 hC.2) hc
  ·rename_i f' x D ys E h1 h2
   simp only[Option.some.injEq,Prod.mk.injEq] at h;obtain ⟨rfl,rfl,rfl⟩:=h
   obtain ⟨ρ0,m0,hs0⟩:=hA
   obtain ⟨y,hy,_⟩:=zh hs0 (.inl rfl) h1 hC.1
   refine ⟨y::args.toList.map a.eval,?_,fun ρ m hs=>?_⟩
   ·show (do let d ← resolve a.eval { callee:=.value fo,args:=args,argTypes:=tys } ty;invoke d.target d.args:Sem Next).run P w=_
    unfold resolve Deferred.ofValue
    simp only[hy]
    rw[wc,zZ];simp only
    unfold invoke
    simp only
    have he:#[y]++args.map a.eval++#[]=(y::args.toList.map a.eval).toArray:=by apply Array.ext';simp
    rw[he,Wp hf]
   ·obtain ⟨y',hy',hc⟩:=zh hs (.inl rfl) h1 hC.1
    have:y'=y:=by
     rw[hy] at hy'
     simp only[Value.func.injEq,true_and,and_true] at hy'
     simpa using hy'.symm
    subst this
    exact ⟨_,_,rfl,hc,j2 hs (.inl rfl) h2 hC.2⟩
  ·cases h
 ·cases h

section
variable {P:Program} {Γ:Gd} {N:Nat} {Q:Exit->Act->World->Prop} {A A':List (Nat×MV)} {L L':List (Nat×Option MObj)}

def yF (dst:Option Nat) (x:MV) (A:List (Nat×MV)):List (Nat×MV):=match dst with|some d=>(d,x)::A|none=>A
theorem Vw (dst:Option Nat) (x:MV) (A:List (Nat×MV)):get (yF dst x A)=vq dst x (get A):=by cases dst<;>rfl

theorem vZ {Af:Nat->Option MV} {Lf:Nat->Option MObj} (hAf:∀s x,get A s=some x->Af s=some x) {o:Oper} {f:FuncId} {xs ys:List MV} {Lc Lc':List (Nat×Option MObj)} {res:MV} {C:Prop} (hF:Fn P f xs Lc res Lc') (h:j1 A o.op=some (f,ys,C)) (hC:C) (hf:fnb P f=true)
  (π:Nat->Nat) (hys:ys=MV.renL π xs) (hL:∀k oc,ww Lc k=some oc->Lf (π k)=some (oc.ren π)) (hk1:∀k∈wF Lc,k∈wF Lc') (hinj:∀a∈wF Lc',∀b∈wF Lc',π a=π b->a=b) (htold:Qp (wF Lc') res Lc')
  (hnew:∀k∈wF Lc',1000<=k->1000<=π k/\k ∉ wF Lc/\(∀s x,Af s=some x->x.has (π k)=false)/\(∀c oc,Lf c=some oc->oc.has (π k)=false/\c≠π k))
  (hd:∀d,o.dst=some d->d<N) {a:Act} {w:World} (hs:Sat Γ N Af Lf a w):o.wp P a w (fun a' w'=>Sat Γ N (vq o.dst (res.ren π) Af) (qQ (jf π Lc') Lf) a' w') Q:=by
 have hs':=hs
 obtain ⟨h1,h2,ρ,m,h3,h4⟩:=hs'
 obtain ⟨vs,hrun,hvs⟩:=JU (P:=P) (w:=w) h hC hf ⟨ρ,m,fun s x hx=>h3 s x (hAf s x hx)⟩
 unfold Oper.wp
 rw[hrun,Oper.upon_enter]
 refine (VV hF π hL hk1 hinj htold hnew hs (vs:=vs) (fun ρ m hh=>hys▸hvs ρ m (fun s x hx=>hh s x (hAf s x hx))) (fun v w'=>Sat Γ N (vq o.dst (res.ren π) Af) (qQ (jf π Lc') Lf) (a.put o.dst v) w') (fun v w' hw=>hw o.dst hd)).mono ?_
 rintro e w' he
 cases e with
 | returned v=>exact he
 | panicked _=>exact he.elim
 | outgrown=>exact he.elim

def Mv (ks:List Nat) (x:MV) (L:List (Nat×Option MObj)):Prop:=Qp ks x L

structure COK (π:Nat->Nat) (A:List (Nat×MV)) (L Lc Lc':List (Nat×Option MObj)) (res:MV):Prop where
  sub:vc (jf π Lc) L
  k1:∀k∈wF Lc,k∈wF Lc'
  inj:∀a∈wF Lc',∀b∈wF Lc',π a=π b->a=b
  told:Qp (wF Lc') res Lc'
  new:∀k∈wF Lc',1000<=k->1000<=π k/\k ∉ wF Lc/\jX (π k) A=true/\jW (π k) L=true

theorem Zt {π:Nat->Nat}:∀{L:List (Nat×Option MObj)},(∀a∈wF L,∀b∈wF L,π a=π b->a=b)->∀k oc,ww L k=some oc->ww (jf π L) (π k)=some (oc.ren π):=by
 intro L hinj k oc h
 have hk:=jO h
 have:qQ (jf π L) (fun _=>none)=ww (jf π L):=by
  have:=yK (jf π L) []
  rw[List.append_nil] at this
  rw[this];rfl
 rcases K1 (M:=fun _=>none) hinj (π k) with ⟨k',hk',e,h2⟩|⟨hne,_⟩
 ·have:=hinj k' hk' k hk e
  subst this
  rw[<-this,h2,h];rfl
 ·exact absurd rfl (hne k hk)

theorem um {ops:Array Oper} {o:Oper} {l:List Oper} {f:FuncId} {xs ys:List MV} {Lc Lc':List (Nat×Option MObj)} {res:MV} {C:Prop} (π:Nat->Nat) (hF:Fn P f xs Lc res Lc') (h:j1 A o.op=some (f,ys,C)) (hC:C) (hf:fnb P f=true) (hg:o.guard=none) (hys:ys=MV.renL π xs) (hd:∀d,o.dst=some d->d<N)
  (hc:COK π A L Lc Lc' res) (k:TL P Γ N ops Q l (yF o.dst (res.ren π) A) (jf π Lc'++L)):TL P Γ N ops Q (o::l) A L:=by
 intro a w hs
 refine wpList_plain hg fun K hK=>?_
 refine Oper.wp_mono (fun a1 w1 hs1=>hK a1 w1 (k a1 w1 ?_)) (vZ (fun _ _ h=>h) hF h hC hf π hys (fun k oc hk=>hc.sub.get _ _ (Zt (fun a ha b hb=>hc.inj a (hc.k1 a ha) b (hc.k1 b hb)) k oc hk)) hc.k1 hc.inj hc.told
  (fun k hk hge=>by
   obtain ⟨g1,g2,g3,g4⟩:=hc.new k hk hge
   exact ⟨g1,g2,xX g3,xD g4⟩) hd hs)
 rw[Vw,yK]
 exact hs1
end
end
section
attribute [go_sem] get ww opd ofc opg opgs strip impl Uk eqm eq1 eqL shp JP slnil Gt bin ibin unM vi QN one Wy Qu ve Zu QR Gg vN vI mvcells solid Zf QF Q3 oint yP yc Kd.flat Kd.at Kd.n Zp hdM JV VU vm Kd.upd1 Kd.updL cellm jZ jX jW MV.has MV.hasL MObj.has ZO yF MV.ren MV.renL MObj.ren jf
end
section

abbrev De:=List (Nat×MV)×List (Nat×Option MObj)

def srch (p:Nat->Bool):Nat->Option Nat
  | 0=>none
  | n+1=>if p n then some n else srch p n
theorem yu (p:Nat->Bool) (n:Nat):srch p (n+1)=if p n then some n else srch p n:=rfl
theorem xc {p:Nat->Bool}:∀{n j:Nat},srch p n=some j->j<n/\p j=true/\∀q,q<n->p q=true->q<=j
 | 0,_,h=>by simp[srch] at h
 | n+1,j,h=>by
  unfold srch at h
  split at h
  ·rename_i hp;simp only[Option.some.injEq] at h;subst h;exact ⟨by omega,hp,fun q hq _=>by omega⟩
  ·rename_i hp
   obtain ⟨h1,h2,h3⟩:=xc h
   refine ⟨by omega,h2,fun q hq hpq=>?_⟩
   rcases Nat.lt_or_ge q n with hlt|hge
   ·exact h3 q hlt hpq
   ·have:q=n:=by omega
    subst this;exact absurd hpq hp
theorem Qj {p:Nat->Bool}:∀{n:Nat},srch p n=none->∀q,q<n->p q=false
 | 0,_,q,hq=>by omega
 | n+1,h,q,hq=>by
  unfold srch at h
  split at h
  ·cases h
  ·rename_i hp
   rcases Nat.lt_or_ge q n with hlt|hge
   ·exact Qj h q hlt
   ·have:q=n:=by omega
    subst this;simpa using hp
theorem WZ {p:Nat->Bool} {n j:Nat} (h1:j<n) (h2:p j=true) (h3:∀q,q<n->p q=true->q<=j):srch p n=some j:=by
 cases h:srch p n with
 | none=>rw[Qj h j h1] at h2;cases h2
 | some i =>
  obtain ⟨g1,g2,g3⟩:=xc h
  have:=g3 j h1 h2;have:=h3 i g1 g2
  congr 1;omega

def zq {α:Type} (l:List (Nat×α)) (s:Nat):Bool:=l.any fun q=>q.1==s
theorem Kz {l:List (Nat×MV)} {s:Nat} {x:MV} (h:get l s=some x):zq l s=true:=by
 induction l with
 | nil=>simp[get] at h
 | cons q l ih =>
  obtain ⟨k,v⟩:=q
  simp only[get] at h
  simp only[zq,List.any_cons,Bool.or_eq_true]
  split at h
  ·rename_i e;exact .inl e
  ·exact .inr (ih h)
theorem QD {l l':List (Nat×MV)} (s:Nat):get (l++l') s=if zq l s then get l s else get l' s:=by
 induction l with
 | nil=>rfl
 | cons q l ih =>
  obtain ⟨k,v⟩:=q
  by_cases e:(k==s)=true
  ·have h0:zq ((k,v)::l) s=true:=by simp[zq,e]
   rw[if_pos h0,List.cons_append,get,get,if_pos e,if_pos e]
  ·have e':(k==s)=false:=by simpa using e
   have h0:zq ((k,v)::l) s=zq l s:=by simp[zq,e']
   rw[h0,List.cons_append,get,get,if_neg e,if_neg e,ih]
theorem Wk {l l':List (Nat×Option MObj)} (s:Nat):ww (l++l') s=if zq l s then ww l s else ww l' s:=by
 induction l with
 | nil=>rfl
 | cons q l ih =>
  obtain ⟨k,v⟩:=q
  by_cases e:(k==s)=true
  ·have h0:zq ((k,v)::l) s=true:=by simp[zq,e]
   rw[if_pos h0,List.cons_append,ww,ww,if_pos e,if_pos e]
  ·have e':(k==s)=false:=by simpa using e
   have h0:zq ((k,v)::l) s=zq l s:=by simp[zq,e']
   rw[h0,List.cons_append,ww,ww,if_neg e,if_neg e,ih]
theorem v7 {l:List (Nat×MV)} {p:Nat->Bool} {s:Nat} (h:p s=true):get (l.filter fun q=>p q.1) s=get l s:=by
 induction l with
 | nil=>rfl
 | cons q l ih =>
  obtain ⟨k,v⟩:=q
  simp only[List.filter_cons]
  by_cases e:(k==s)=true
  ·have:=beq_iff_eq.1 e;subst this
   simp[h,get]
  ·split
   ·simp only[get];rw[if_neg e,if_neg e];exact ih
   ·simp only[get];rw[if_neg e];exact ih
theorem vn {l:List (Nat×MV)} {p:Nat->Bool} {s:Nat} (h:p s=false):get (l.filter fun q=>p q.1) s=none:=by
 induction l with
 | nil=>rfl
 | cons q l ih =>
  obtain ⟨k,v⟩:=q
  simp only[List.filter_cons]
  split
  ·rename_i hp
   simp only[get]
   rw[if_neg (fun e=>by have:=beq_iff_eq.1 e;subst this;rw[h] at hp;cases hp)];exact ih
  ·exact ih
theorem vr {l:List (Nat×Option MObj)} {p:Nat->Bool} {s:Nat} (h:p s=true):ww (l.filter fun q=>p q.1) s=ww l s:=by
 induction l with
 | nil=>rfl
 | cons q l ih =>
  obtain ⟨k,v⟩:=q
  simp only[List.filter_cons]
  by_cases e:(k==s)=true
  ·have:=beq_iff_eq.1 e;subst this
   simp[h,ww]
  ·split
   ·simp only[ww];rw[if_neg e,if_neg e];exact ih
   ·simp only[ww];rw[if_neg e];exact ih
theorem yU {l:List (Nat×Option MObj)} {p:Nat->Bool} {s:Nat} (h:p s=false):ww (l.filter fun q=>p q.1) s=none:=by
 induction l with
 | nil=>rfl
 | cons q l ih =>
  obtain ⟨k,v⟩:=q
  simp only[List.filter_cons]
  split
  ·rename_i hp
   simp only[ww]
   rw[if_neg (fun e=>by have:=beq_iff_eq.1 e;subst this;rw[h] at hp;cases hp)];exact ih
  ·exact ih

theorem KV {ds:Nat->De} {s:Nat} {x:MV}:∀{l:List Nat},get (l.flatMap fun j=>(ds j).1) s=some x->∃j∈l,get (ds j).1 s=some x
 | [],h=>by simp[get] at h
 | j::l,h=>by
  rw[List.flatMap_cons,QD] at h
  split at h
  ·exact ⟨j,by simp,h⟩
  ·obtain ⟨j',h1,h2⟩:=KV h
   exact ⟨j',by simp[h1],h2⟩
theorem YX {ds:Nat->De} {s:Nat}:∀{l:List Nat},zq (l.flatMap fun j=>(ds j).1) s=true↔∃j∈l,zq (ds j).1 s=true:=by
 intro l;simp[zq,List.any_flatMap]
theorem Jx {ds:Nat->De} {s:Nat}:∀{l:List Nat},zq (l.flatMap fun j=>(ds j).2) s=true↔∃j∈l,zq (ds j).2 s=true:=by
 intro l;simp[zq,List.any_flatMap]
theorem Qf {ds:Nat->De} {s:Nat}:∀{l:List Nat},l.Pairwise (·>·)->zq (l.flatMap fun j=>(ds j).2) s=true →
  ∃j∈l,zq (ds j).2 s=true/\ww (l.flatMap fun j=>(ds j).2) s=ww (ds j).2 s/\∀q∈l,zq (ds q).2 s=true->q<=j
 | [],_,h=>by simp[zq] at h
 | j::l,hp,h=>by
  rw[List.pairwise_cons] at hp
  by_cases e:zq (ds j).2 s=true
  ·refine ⟨j,by simp,e,by rw[List.flatMap_cons,Wk,if_pos e],fun q hq _=>?_⟩
   rcases List.mem_cons.1 hq with rfl|hq
   ·exact Nat.le_refl _
   ·exact Nat.le_of_lt (hp.1 q hq)
  ·rw[List.flatMap_cons] at h ⊢
   have h':zq (l.flatMap fun j=>(ds j).2) s=true:=by
    simp only[zq,List.any_append,Bool.or_eq_true] at h e ⊢
    exact h.resolve_left e
   obtain ⟨j',h1,h2,h3,h4⟩:=Qf hp.2 h'
   refine ⟨j',by simp[h1],h2,by rw[Wk,if_neg e];exact h3,fun q hq hk=>?_⟩
   rcases List.mem_cons.1 hq with rfl|hq
   ·exact absurd hk e
   ·exact h4 q hq hk

structure Rg where
  ops:Array Oper
  pre:Nat->List Nat
  wk:Nat->List Nat
  nk:Nat->List Nat
  ea:Nat->List Nat:=fun _=>[]
  kp:List (Nat×Nat×Nat):=[]

def Rg.dst (r:Rg) (i:Nat):Option Nat:=(r.ops[i]?).bind (·.dst)
def Rg.ons (r:Rg) (i:Nat):List Nat:=match r.ops[i]? with|some o=>(o.after.toList.filter (Region.binds .any)).map (·.on)|none=>[]
def Rg.unord (r:Rg) (i j:Nat):Bool:=i != j&&!(r.pre i).contains j&&!(r.pre j).contains i
def Rg.excl (r:Rg) (i k:Nat):Bool:=(List.range r.ops.size).any fun j=>r.unord i j&&(r.wk j).contains k
def Rg.isdst (r:Rg) (s:Nat):Bool:=(List.range r.ops.size).any fun j=>r.dst j==some s

def Rg.ok (r:Rg):Bool :=
  (List.range r.ops.size).all fun i =>
    (r.ons i).all (fun e=>decide (e<i)&&(r.pre i).contains e) &&
    (r.pre i).all (fun j=>decide (j<i)&&((r.ons i).contains j||(r.ons i).any fun e=>(r.pre e).contains j)) &&
    decide ((r.pre i).Pairwise (·>·)) &&
    (List.range r.ops.size).all (fun j=>i==j||(r.dst i==none||r.dst i != r.dst j)&&(!(r.unord i j)||(r.wk i).all fun k=>!(r.wk j).contains k))

def Rg.uisd (r:Rg) (i s:Nat):Bool:=(List.range r.ops.size).any fun j=>r.unord i j&&r.dst j==some s
def yB (r:Rg) (ds:Nat->De) (A:List (Nat×MV)) (i:Nat):List (Nat×MV):=((r.pre i).flatMap fun j=>(ds j).1)++A.filter fun q=>!(r.uisd i q.1)
def yZ (r:Rg) (ds:Nat->De) (L:List (Nat×Option MObj)) (i:Nat):List (Nat×Option MObj):=(((r.pre i).flatMap fun j=>(ds j).2)++L).filter fun q=>!(r.excl i q.1)

def lkA (n:Nat) (ds:Nat->De) (A:List (Nat×MV)) (ls:Nat->Bool) (s:Nat):Option MV :=
  match srch (fun j=>ls j&&zq (ds j).1 s) n with
  | some j=>get (ds j).1 s
  | none=>get A s
def lkL (n:Nat) (ds:Nat->De) (L:List (Nat×Option MObj)) (ls:Nat->Bool) (k:Nat):Option MObj :=
  match srch (fun j=>ls j&&zq (ds j).2 k) n with
  | some j=>ww (ds j).2 k
  | none=>ww L k

def vP (l:List (Nat×MV)) (A:Nat->Option MV) (s:Nat):Option MV:=if zq l s then get l s else A s

def H6 (r:Rg) (i:Nat) (L:List (Nat×Option MObj)) (Lf:Nat->Option MObj):Prop:=∀q∈r.kp,q.1=i->∀cs0,ww L q.2.1=some (.cells cs0)->∃cs,Lf q.2.1=some (.cells cs)/\cs[q.2.2]? = cs0[q.2.2]?
def YH (P:Program) (Γ:Gd) (N:Nat) (Q:Exit->Act->World->Prop) (r:Rg) (ds:Nat->De) (A:List (Nat×MV)) (L:List (Nat×Option MObj)) (i:Nat):Prop :=
  ∀(Af:Nat->Option MV) (Lf:Nat->Option MObj) (a:Act) (w:World),(∀s x,get (yB r ds A i) s=some x->Af s=some x)->(∀k o,ww (yZ r ds L i) k=some o->Lf k=some o) →
    (∀kd∈r.nk i,(∀s x,Af s=some x->x.has kd=false)/\∀k o,Lf k=some o->o.has kd=false/\k≠kd)->H6 r i L Lf->Sat Γ N Af Lf a w →
    ∀K:Act->World->Prop,(∀a w,Sat Γ N (vP (ds i).1 Af) (qQ (ds i).2 Lf) a w->K a w)->wpOp P r.ops Q i K a w
end
section

theorem Rg.edges {r:Rg} (h:r.ok=true) {i:Nat} (hi:i<r.ops.size):(∀e∈r.ons i,e<i/\e∈r.pre i)/\(∀j∈r.pre i,j<i/\(j∈r.ons i\/∃e∈r.ons i,j∈r.pre e))/\(r.pre i).Pairwise (·>·) ∧
  ∀j,j<r.ops.size->i≠j->(∀d,r.dst i=some d->r.dst j≠some d)/\(r.unord i j=true->∀k∈r.wk i,k ∉ r.wk j):=by
 unfold Rg.ok at h
 rw[List.all_eq_true] at h
 have:=h i (List.mem_range.2 hi)
 simp only[Bool.and_eq_true,List.all_eq_true,decide_eq_true_eq,List.contains_iff_mem,List.any_eq_true,Bool.or_eq_true,List.mem_range,beq_iff_eq,bne_iff_ne,Bool.not_eq_true'] at this
 obtain ⟨⟨⟨h1,h2⟩,h3⟩,h4⟩:=this
 refine ⟨h1,h2,h3,fun j hj hne=>?_⟩
 rcases h4 j hj with h4|⟨h4,h5⟩
 ·exact absurd h4 hne
 ·refine ⟨fun d hd hd'=>?_,fun hu k hk hk'=>?_⟩
  ·rcases h4 with h4|h4
   ·rw[h4] at hd;cases hd
   ·exact h4 (by rw[hd,hd'])
  ·rcases h5 with h5|h5
   ·rw[h5] at hu;cases hu
   ·have:=h5 k hk
    rw[List.contains_eq_mem,decide_eq_false_iff_not] at this
    exact this hk'

def UZ (r:Rg) (ls:Nat->Bool):Prop:=∀i,ls i=true->i<r.ops.size/\∀j∈r.pre i,ls j=true

structure DsOK (r:Rg) (ds:Nat->De) (A:List (Nat×MV)) (L:List (Nat×Option MObj)):Prop where
  slot:∀i,i<r.ops.size->∀s,zq (ds i).1 s=true->r.dst i=some s
  keys:∀i,i<r.ops.size->∀k,zq (ds i).2 k=true->k∈r.wk i
  fr0:∀i,i<r.ops.size->∀kd∈r.nk i,jX kd A=true/\jW kd L=true
  fr:∀i,i<r.ops.size->∀kd∈r.nk i,∀j,j<r.ops.size->j≠i->i ∉ r.pre j->jX kd (ds j).1=true/\jW kd (ds j).2=true
  kp:∀q∈r.kp,∀j,j<r.ops.size->(j∈r.pre q.1\/r.unord q.1 j=true)->zq (ds j).2 q.2.1=true->∀cs0,ww L q.2.1=some (.cells cs0)->∃cs,ww (ds j).2 q.2.1=some (.cells cs)/\cs[q.2.2]? = cs0[q.2.2]?

theorem Vf {P:Program} {Γ:Gd} {N:Nat} {Q:Exit->Act->World->Prop} {r:Rg} (hr:r.ok=true) {ds:Nat->De} {A:List (Nat×MV)} {L:List (Nat×Option MObj)} (hd:DsOK r ds A L) {ls:Nat->Bool} (hc:UZ r ls) {i:Nat} (hi:i<r.ops.size) (hni:ls i=false) (hpre:∀j∈r.pre i,ls j=true)
  (hok:YH P Γ N Q r ds A L i) {a:Act} {w:World} (hs:Sat Γ N (lkA r.ops.size ds A ls) (lkL r.ops.size ds L ls) a w) (K:Act->World->Prop)
  (hK:∀a w,Sat Γ N (lkA r.ops.size ds A (fun q=>q==i||ls q)) (lkL r.ops.size ds L (fun q=>q==i||ls q)) a w->K a w):wpOp P r.ops Q i K a w:=by
 have hun:∀j,ls j=true->j ∉ r.pre i->r.unord i j=true/\i ∉ r.pre j/\j≠i:=by
  intro j hj hjp
  have h1:i ∉ r.pre j:=fun hm=>by rw[(hc j hj).2 i hm] at hni;cases hni
  have h2:j≠i:=fun e=>by rw[e,hni] at hj;cases hj
  refine ⟨?_,h1,h2⟩
  simp only[Rg.unord,Bool.and_eq_true,bne_iff_ne,Bool.not_eq_true',List.contains_eq_mem,decide_eq_false_iff_not]
  exact ⟨⟨fun e=>h2 e.symm,hjp⟩,h1⟩
 have hex:∀j k,ls j=true->zq (ds j).2 k=true->r.excl i k=false->j∈r.pre i:=by
  intro j k hj hk he
  refine Classical.byContradiction fun hjp=>?_
  have hjn:=(hc j hj).1
  have:r.excl i k=true:=by
   simp only[Rg.excl,List.any_eq_true,List.mem_range,Bool.and_eq_true,List.contains_iff_mem]
   exact ⟨j,hjn,(hun j hj hjp).1,hd.keys j hjn k hk⟩
  rw[this] at he;cases he
 refine hok _ _ a w (fun s x hx=>?_) (fun k o hk=>?_) (fun kd hkd=>?_) (fun q hq hqi cs0 hcs0=>?_) hs K (fun a1 w1 hs1=>hK a1 w1 (hs1.weak (fun s x hx=>?_) (fun k o hk=>?_)))
 ·-- slots that are shown
  rw[yB,QD] at hx
  split at hx
  ·obtain ⟨j,hj,hjs⟩:=KV hx
   have hjl:=hpre j hj
   have hjn:=(hc j hjl).1
   have:srch (fun q=>ls q&&zq (ds q).1 s) r.ops.size=some j:=by
    refine WZ hjn (by simp[hjl,Kz hjs]) (fun q hq hqs=>?_)
    simp only[Bool.and_eq_true] at hqs
    have e1:=hd.slot q hq s hqs.2
    have e2:=hd.slot j hjn s (Kz hjs)
    by_cases e:q=j
    ·omega
    ·exact absurd e2 (((r.edges hr hq).2.2.2 j hjn e).1 s e1)
   rw[lkA,this];exact hjs
  ·rename_i hno
   cases hisd:r.uisd i s with
   | true=>rw[vn (p:=fun q=>!(r.uisd i q)) (by simp[hisd])] at hx;cases hx
   | false =>
    rw[v7 (p:=fun q=>!(r.uisd i q)) (by simp[hisd])] at hx
    have:srch (fun q=>ls q&&zq (ds q).1 s) r.ops.size=none:=by
     cases hq:srch (fun q=>ls q&&zq (ds q).1 s) r.ops.size with
     | none=>rfl
     | some q =>
      obtain ⟨g1,g2,_⟩:=xc hq
      simp only[Bool.and_eq_true] at g2
      have:r.uisd i s=true:=by
       by_cases hp:q∈r.pre i
       ·exact absurd (YX.2 ⟨q,hp,g2.2⟩) hno
       ·simp only[Rg.uisd,List.any_eq_true,List.mem_range,beq_iff_eq,Bool.and_eq_true]
        exact ⟨q,g1,(hun q g2.1 hp).1,hd.slot q g1 s g2.2⟩
      rw[this] at hisd;cases hisd
    rw[lkA,this];exact hx
 ·-- objects that are shown
  rw[yZ] at hk
  cases hek:r.excl i k with
  | true=>rw[yU (p:=fun q=>!(r.excl i q)) (by simp[hek])] at hk;cases hk
  | false =>
   rw[vr (p:=fun q=>!(r.excl i q)) (by simp[hek]),Wk] at hk
   split at hk
   ·rename_i hh
    obtain ⟨j,hj,hjk,he,hmax⟩:=Qf (r.edges hr hi).2.2.1 hh
    have hjl:=hpre j hj
    have:srch (fun q=>ls q&&zq (ds q).2 k) r.ops.size=some j:=by
     refine WZ (hc j hjl).1 (by simp[hjl,hjk]) (fun q hq hqs=>?_)
     simp only[Bool.and_eq_true] at hqs
     exact hmax q (hex q k hqs.1 hqs.2 hek) hqs.2
    rw[he] at hk
    rw[lkL,this];exact hk
   ·rename_i hh
    have:srch (fun q=>ls q&&zq (ds q).2 k) r.ops.size=none:=by
     cases hq:srch (fun q=>ls q&&zq (ds q).2 k) r.ops.size with
     | none=>rfl
     | some q =>
      obtain ⟨g1,g2,_⟩:=xc hq
      simp only[Bool.and_eq_true] at g2
      exact absurd (Jx.2 ⟨q,hex q k g2.1 g2.2 hek,g2.2⟩) hh
    rw[lkL,this];exact hk
 ·-- new keys
  have h0:=hd.fr0 i hi kd hkd
  have hj:∀q,q<r.ops.size->ls q=true->jX kd (ds q).1=true/\jW kd (ds q).2=true:=fun q hq hl =>
   hd.fr i hi kd hkd q hq (fun e=>by rw[e,hni] at hl;cases hl) (fun hm=>by rw[(hc q hl).2 i hm] at hni;cases hni)
  refine ⟨fun s x hx=>?_,fun k o hk=>?_⟩
  ·unfold lkA at hx
   split at hx
   ·rename_i q hq
    obtain ⟨g1,g2,_⟩:=xc hq
    simp only[Bool.and_eq_true] at g2
    exact xX (hj q g1 g2.1).1 s x hx
   ·exact xX h0.1 s x hx
  ·unfold lkL at hk
   split at hk
   ·rename_i q hq
    obtain ⟨g1,g2,_⟩:=xc hq
    simp only[Bool.and_eq_true] at g2
    exact xD (hj q g1 g2.1).2 k o hk
   ·exact xD h0.2 k o hk
 ·-- cells that are as they were
  unfold lkL
  split
  ·rename_i j hj
   obtain ⟨g1,g2,_⟩:=xc hj
   simp only[Bool.and_eq_true] at g2
   refine hd.kp q hq j g1 ?_ g2.2 cs0 hcs0
   rw[hqi]
   by_cases hjp:j∈r.pre i
   ·exact .inl hjp
   ·exact .inr (hun j g2.1 hjp).1
  ·exact ⟨cs0,hcs0,rfl⟩
 ·-- slots behind it
  unfold lkA at hx
  unfold vP
  by_cases hs:zq (ds i).1 s=true
  ·rw[if_pos hs]
   have:srch (fun q=>(q==i||ls q)&&zq (ds q).1 s) r.ops.size=some i:=by
    refine WZ hi (by simp[hs]) (fun q hq hqs=>?_)
    simp only[Bool.and_eq_true] at hqs
    have e1:=hd.slot q hq s hqs.2
    have e2:=hd.slot i hi s hs
    by_cases e:q=i
    ·omega
    ·exact absurd e2 (((r.edges hr hq).2.2.2 i hi e).1 s e1)
   rw[this] at hx;exact hx
  ·rw[if_neg hs]
   have hs':zq (ds i).1 s=false:=by simpa using hs
   have e0:(fun q=>(q==i||ls q)&&zq (ds q).1 s)=fun q=>ls q&&zq (ds q).1 s:=by
    funext q
    by_cases e:q=i
    ·rw[e,hs',Bool.and_false,Bool.and_false]
    ·rw[show (q==i)=false by simpa using e,Bool.false_or]
   have:srch (fun q=>(q==i||ls q)&&zq (ds q).1 s) r.ops.size=srch (fun q=>ls q&&zq (ds q).1 s) r.ops.size:=by rw[e0]
   rw[this] at hx;exact hx
 ·-- objects behind it
  have updk:∀(U:List (Nat×Option MObj)) (M:Nat->Option MObj),qQ U M k=if zq U k then ww U k else M k:=by
   intro U M
   induction U with
   | nil=>rfl
   | cons q U ih =>
    obtain ⟨k',o'⟩:=q
    by_cases e:(k'==k)=true
    ·have h0:zq ((k',o')::U) k=true:=by simp[zq,e]
     rw[if_pos h0,qQ,ww,if_pos e,if_pos e]
    ·have e':(k'==k)=false:=by simpa using e
     have h0:zq ((k',o')::U) k=zq U k:=by simp[zq,e']
     rw[h0,qQ,ww,if_neg e,if_neg e,ih]
  unfold lkL at hk
  rw[updk]
  by_cases hs:zq (ds i).2 k=true
  ·rw[if_pos hs]
   have:srch (fun q=>(q==i||ls q)&&zq (ds q).2 k) r.ops.size=some i:=by
    refine WZ hi (by simp[hs]) (fun q hq hqs=>?_)
    simp only[Bool.and_eq_true,Bool.or_eq_true,beq_iff_eq] at hqs
    rcases hqs.1 with e|hl
    ·omega
    ·by_cases hqp:q∈r.pre i
     ·exact Nat.le_of_lt ((r.edges hr hi).2.1 q hqp).1
     ·have hu:=hun q hl hqp
      exact absurd (hd.keys q hq k hqs.2) (((r.edges hr hi).2.2.2 q hq (fun e=>hu.2.2 e.symm)).2 hu.1 k (hd.keys i hi k hs))
   rw[this] at hk;exact hk
  ·rw[if_neg hs]
   have hs':zq (ds i).2 k=false:=by simpa using hs
   have e0:(fun q=>(q==i||ls q)&&zq (ds q).2 k)=fun q=>ls q&&zq (ds q).2 k:=by
    funext q
    by_cases e:q=i
    ·rw[e,hs',Bool.and_false,Bool.and_false]
    ·rw[show (q==i)=false by simpa using e,Bool.false_or]
   have:srch (fun q=>(q==i||ls q)&&zq (ds q).2 k) r.ops.size=srch (fun q=>ls q&&zq (ds q).2 k) r.ops.size:=by rw[e0]
   rw[this] at hk;exact hk

theorem Yt {listed:Array Bool} {i:Nat} (hi:i<listed.size):listed.getD i true=listed.getD i false:=by
 simp[hi]

theorem HB {P:Program} {Γ:Gd} {N:Nat} {Q:Exit->Act->World->Prop} {r:Rg} (hr:r.ok=true) {ds:Nat->De} {A:List (Nat×MV)} {L:List (Nat×Option MObj)} (hd:DsOK r ds A L) (hok:∀i,i<r.ops.size->YH P Γ N Q r ds A L i)
  (fin:∀a w,Sat Γ N (lkA r.ops.size ds A (fun q=>decide (q<r.ops.size))) (lkL r.ops.size ds L (fun q=>decide (q<r.ops.size))) a w->Q .normal a w):∀(fuel:Nat) (listed:Array Bool) (a:Act) (w:World),listed.size=r.ops.size->UZ r (fun q=>listed.getD q false) →
  Sat Γ N (lkA r.ops.size ds A (fun q=>listed.getD q false)) (lkL r.ops.size ds L (fun q=>listed.getD q false)) a w->(listed.toList.filter (·==false)).length<=fuel->wpAny P .any r.ops Q fuel listed a w:=by
 have done:∀(listed:Array Bool) (a:Act) (w:World),listed.size=r.ops.size->Region.ready .any r.ops listed=[] →
   Sat Γ N (lkA r.ops.size ds A (fun q=>listed.getD q false)) (lkL r.ops.size ds L (fun q=>listed.getD q false)) a w->Q .normal a w:=by
  intro listed a w hsz hrd hs
  have hall:∀i,i<r.ops.size->listed.getD i false=true:=by
   intro i
   induction i using Nat.strongRecOn with
   | _ i ih =>
    intro hi
    refine Classical.byContradiction fun hno=>?_
    have hmem:i∈Region.ready .any r.ops listed:=by
     rw[mem_ready]
     refine ⟨by rw[Yt (by omega)];simpa using hno,r.ops[i],Array.getElem?_eq_getElem hi,fun e he hb=>?_⟩
     have hon:e.on∈r.ons i:=by
      unfold Rg.ons
      rw[Array.getElem?_eq_getElem hi]
      simp only[List.mem_map,List.mem_filter]
      exact ⟨e,⟨by simpa using he,hb⟩,rfl⟩
     have:=((r.edges hr hi).1 e.on hon).1
     exact ih e.on this (by omega)
    rw[hrd] at hmem;cases hmem
  have e:(fun q=>listed.getD q false)=fun q=>decide (q<r.ops.size):=by
   funext q
   by_cases h:q<r.ops.size
   ·rw[hall q h];simp[h]
   ·simp only[h,decide_false]
    simp[show ¬q<listed.size by omega]
  rw[e] at hs
  exact fin a w hs
 intro fuel
 induction fuel with
 | zero =>
  intro listed a w hsz hc hs hf
  have hnil:Region.ready .any r.ops listed=[]:=by
   cases hrd:Region.ready .any r.ops listed with
   | nil=>rfl
   | cons i l =>
    have hm:i∈Region.ready .any r.ops listed:=by rw[hrd];simp
    rw[mem_ready] at hm
    obtain ⟨h1,o,ho,_⟩:=hm
    have hi:i<listed.size:=by rw[hsz];exact (Array.getElem?_eq_some_iff.1 ho).1
    have:(false:Bool)∈listed.toList.filter (·==false):=by
     rw[List.mem_filter]
     refine ⟨?_,rfl⟩
     have h2:listed[i]=false:=by simpa [hi] using h1
     rw[<-h2];simp
    have:=List.length_pos_of_mem this
    omega
  exact ⟨hnil,done listed a w hsz hnil hs⟩
 | succ fuel ih =>
  intro listed a w hsz hc hs hf
  refine ⟨fun hnil=>done listed a w hsz hnil hs,fun i hm=>?_⟩
  rw[mem_ready] at hm
  obtain ⟨h1,o,ho,hed⟩:=hm
  have hi:i<r.ops.size:=(Array.getElem?_eq_some_iff.1 ho).1
  have hil:i<listed.size:=by omega
  have hni:listed.getD i false=false:=by rw[<-Yt hil];exact h1
  have hons:∀e∈r.ons i,listed.getD e false=true:=by
   intro e he
   unfold Rg.ons at he
   rw[ho] at he
   simp only[List.mem_map,List.mem_filter] at he
   obtain ⟨ed,⟨hed1,hed2⟩,rfl⟩:=he
   exact hed ed (by simpa using hed1) hed2
  have hpre:∀j∈r.pre i,listed.getD j false=true:=by
   intro j hj
   rcases ((r.edges hr hi).2.1 j hj).2 with h|⟨e,he,hje⟩
   ·exact hons j h
   ·exact (hc e (hons e he)).2 j hje
  have hls:(fun q=>(listed.setIfInBounds i true).getD q false)=fun q=>q==i||listed.getD q false:=by
   funext q
   by_cases e:q=i
   ·subst e;simp[hil]
   ·rw[getD_set_ne false (fun x=>e x.symm)];simp[e]
  refine Vf hr hd hc hi hni hpre (hok i hi) hs _ (fun a1 w1 hs1=>ih _ a1 w1 (by simpa using hsz) ?_ ?_ ?_)
  ·rw[hls]
   intro q hq
   simp only[Bool.or_eq_true,beq_iff_eq] at hq
   rcases hq with rfl|hq
   ·exact ⟨hi,fun j hj=>by simp[hpre j hj]⟩
   ·exact ⟨(hc q hq).1,fun j hj=>by simp[(hc q hq).2 j hj]⟩
  ·rw[hls];exact hs1
  ·have hcount:∀(l:List Bool) (i:Nat),l[i]? = some false->((l.set i true).filter (·==false)).length+1=(l.filter (·==false)).length:=by
    intro l
    induction l with
    | nil=>intro i h;simp at h
    | cons b l ih2 =>
     intro i h
     cases i with
     | zero=>simp at h;subst h;simp
     | succ i =>
      have:=ih2 i (by simpa using h)
      simp only[List.set_cons_succ,List.filter_cons]
      split
      ·simp only[List.length_cons];omega
      ·exact this
   have:=hcount listed.toList i (by
    have h2:listed[i]=false:=by simpa [hil] using hni
    simp[hil,h2])
   simp only[Array.toList_setIfInBounds]
   omega

def Kq (n:Nat) (ds:Nat->De) (A:List (Nat×MV)):List (Nat×MV):=(List.range n).foldl (fun acc i=>(ds i).1++acc) A
def KW (n:Nat) (ds:Nat->De) (L:List (Nat×Option MObj)):List (Nat×Option MObj):=(List.range n).foldl (fun acc i=>(ds i).2++acc) L

theorem G9 (ds:Nat->De) (A:List (Nat×MV)):∀n,get (Kq n ds A)=lkA n ds A (fun q=>decide (q<n)):=by
 intro n
 induction n with
 | zero=>rfl
 | succ n ih =>
  funext s
  have:Kq (n+1) ds A=(ds n).1++Kq n ds A:=by simp[Kq,List.range_succ]
  rw[this,QD,ih]
  unfold lkA
  rw[yu]
  have hsub:srch (fun j=>decide (j<n+1)&&zq (ds j).1 s) n=srch (fun j=>decide (j<n)&&zq (ds j).1 s) n:=by
   have key:∀k,k<=n->srch (fun j=>decide (j<n+1)&&zq (ds j).1 s) k=srch (fun j=>decide (j<n)&&zq (ds j).1 s) k:=by
    intro k
    induction k with
    | zero=>intro _;rfl
    | succ k ihk =>
     intro hk
     rw[yu,yu,ihk (by omega),show decide (k<n+1)=decide (k<n) by simp;omega]
   exact key n (Nat.le_refl _)
  by_cases h:zq (ds n).1 s=true
  ·simp[h]
  ·have h':zq (ds n).1 s=false:=by simpa using h
   rw[hsub,h',Bool.and_false];rfl
theorem Gl (ds:Nat->De) (L:List (Nat×Option MObj)):∀n,ww (KW n ds L)=lkL n ds L (fun q=>decide (q<n)):=by
 intro n
 induction n with
 | zero=>rfl
 | succ n ih =>
  funext s
  have:KW (n+1) ds L=(ds n).2++KW n ds L:=by simp[KW,List.range_succ]
  rw[this,Wk,ih]
  unfold lkL
  rw[yu]
  have hsub:srch (fun j=>decide (j<n+1)&&zq (ds j).2 s) n=srch (fun j=>decide (j<n)&&zq (ds j).2 s) n:=by
   have key:∀k,k<=n->srch (fun j=>decide (j<n+1)&&zq (ds j).2 s) k=srch (fun j=>decide (j<n)&&zq (ds j).2 s) k:=by
    intro k
    induction k with
    | zero=>intro _;rfl
    | succ k ihk =>
     intro hk
     rw[yu,yu,ihk (by omega),show decide (k<n+1)=decide (k<n) by simp;omega]
   exact key n (Nat.le_refl _)
  by_cases h:zq (ds n).2 s=true
  ·simp[h]
  ·have h':zq (ds n).2 s=false:=by simpa using h
   rw[hsub,h',Bool.and_false];rfl

theorem ZA (n i:Nat):(Array.replicate n false).getD i false=false:=by
 unfold Array.getD
 split<;>simp

theorem gK {P:Program} {Γ:Gd} {N:Nat} {Q:Exit->Act->World->Prop} {r:Rg} (hm:P.follows .mixedOrders=true) (hr:r.ok=true) {ds:Nat->De} {A:List (Nat×MV)} {L:List (Nat×Option MObj)} (hd:DsOK r ds A L) (hok:∀i,i<r.ops.size->YH P Γ N Q r ds A L i) {id:Nat}
  (fin:TE Γ N (Q .normal) (Kq r.ops.size ds A) (KW r.ops.size ds L)):TC P Γ N (.region id r.ops true) Q A L:=by
 intro a w hs
 refine wp_region_any hm (HB hr hd hok (fun a1 w1 hs1=>fin a1 w1 (by rw[G9,Gl];exact hs1)) r.ops.size _ a _ (by simp) ?_ ?_ ?_)
 ·intro i hi
  have hi':=(ZA r.ops.size i).symm.trans hi
  cases hi'
 ·obtain ⟨h1,h2,ρ,m,h3,h4,h5,h6⟩:=hs
  have e1:lkA r.ops.size ds A (fun q=>(Array.replicate r.ops.size false).getD q false)=get A:=by
   funext s
   unfold lkA
   have:srch (fun j=>(Array.replicate r.ops.size false).getD j false&&zq (ds j).1 s) r.ops.size=none:=by
    cases h:srch (fun j=>(Array.replicate r.ops.size false).getD j false&&zq (ds j).1 s) r.ops.size with
    | none=>rfl
    | some q =>
     have:=(xc h).2.1
     simp only[ZA,Bool.false_and,reduceCtorEq] at this
   rw[this]
  have e2:lkL r.ops.size ds L (fun q=>(Array.replicate r.ops.size false).getD q false)=ww L:=by
   funext s
   unfold lkL
   have:srch (fun j=>(Array.replicate r.ops.size false).getD j false&&zq (ds j).2 s) r.ops.size=none:=by
    cases h:srch (fun j=>(Array.replicate r.ops.size false).getD j false&&zq (ds j).2 s) r.ops.size with
    | none=>rfl
    | some q =>
     have:=(xc h).2.1
     simp only[ZA,Bool.false_and,reduceCtorEq] at this
   rw[this]
  rw[e1,e2]
  exact ⟨h1,h2,ρ,m,h3,h4.heap rfl,⟨h5.le,h5.nm,h5.un,h5.size,h5.os,h5.out,h5.tape⟩,h6⟩
 ·simp
end
section

def jI (l:List De) (j:Nat):De:=l.getD j ([],[])

def Ms (tab:Nat->Option TI) (N:Nat) (r:Rg) (l:List De) (A:List (Nat×MV)) (L:List (Nat×Option MObj)) (i:Nat):Option (De×Prop) :=
  match r.ops[i]? with
  | none=>none
  | some o=>match o.guard,o.dst with
    | none,some d=>if d<N then (match yc tab (yB r (jI l) A i) (yZ r (jI l) L i) none o.op with
      | some (x,C)=>some (([(d,x)],[]),C)
      | none=>(match vm tab (yB r (jI l) A i) (yZ r (jI l) L i) none (1000+d) o.op with
        | some (x,U,fr,C)=>if okB fr ((r.nk i).contains (1000+d)) x&&U.all (fun q=>(r.wk i).contains q.1) then some (([(d,x)],U),C) else none
        | none=>none)) else none
    | none,none=>(match vm tab (yB r (jI l) A i) (yZ r (jI l) L i) none 1000 o.op with
      | some (_,U,fr,C)=>if !fr&&U.all (fun q=>(r.wk i).contains q.1) then some (([],U),C) else none
      | none=>none)
    | some (j,want),some d=>if d<N then (match (r.ops[j]?).bind (·.dst) with
      | some dj=>(match get (yB r (jI l) A i) dj with
        | some (.bool b)=>(match yc tab (yB r (jI l) A i) (yZ r (jI l) L i) (some (if want then b else !b)) o.op with
          | some (x,C)=>some (([(d,.cnd (if want then b else !b) x)],[]),(if want then b else !b)=true->C)
          | none=>none)
        | some (.cnd t (.bool b))=>(match yc tab (yB r (jI l) A i) (yZ r (jI l) L i) (some (t&&(if want then b else !b))) o.op with
          | some (x,C)=>some (([(d,.cnd (t&&(if want then b else !b)) x)],[]),(t&&(if want then b else !b))=true->C)
          | none=>none)
        | _=>none)
      | none=>none) else none
    | _,_=>none

def De.ok (r:Rg) (i:Nat) (δ:De):Prop:=(∀s,zq δ.1 s=true->r.dst i=some s)/\∀k,zq δ.2 k=true->k∈r.wk i

theorem xf (d:Nat) (x:MV) (A:Nat->Option MV):vP [(d,x)] A=vq (some d) x A:=by
 funext s
 simp only[vP,vq,zq,List.any_cons,List.any_nil,Bool.or_false,get]
 by_cases e:(d==s)=true
 ·simp[e]
 ·simp[e]
theorem vE (A:Nat->Option MV):vP [] A=A:=by
 funext s;simp[vP,zq]

theorem WE {r:Rg} {i:Nat} {o:Oper} (h:r.ops[i]? = some o):r.dst i=o.dst:=by simp[Rg.dst,h]

theorem Wc {U:List (Nat×Option MObj)} {l:List Nat} (h:U.all (fun q=>l.contains q.1)=true):∀k,zq U k=true->k∈l:=by
 intro k hk
 simp only[zq,List.any_eq_true,beq_iff_eq] at hk
 obtain ⟨q,hq,rfl⟩:=hk
 have:=List.all_eq_true.1 h q hq
 simpa using this

def Wd (P:Program) (Γ:Gd) (N:Nat) (Q:Exit->Act->World->Prop) (r:Rg) (vA:List (Nat×MV)) (vL:List (Nat×Option MObj)) (δ:De) (i:Nat):Prop :=
  ∀(Af:Nat->Option MV) (Lf:Nat->Option MObj) (a:Act) (w:World),(∀s x,get vA s=some x->Af s=some x)->(∀k o,ww vL k=some o->Lf k=some o) →
    (∀kd∈r.nk i,(∀s x,Af s=some x->x.has kd=false)/\∀k o,Lf k=some o->o.has kd=false/\k≠kd)->Sat Γ N Af Lf a w →
    ∀K:Act->World->Prop,(∀a w,Sat Γ N (vP δ.1 Af) (qQ δ.2 Lf) a w->K a w)->wpOp P r.ops Q i K a w

theorem y9 {P:Program} {Q:Exit->Act->World->Prop} {ops:Array Oper} {i:Nat} {o:Oper} (h:ops[i]? = some o) (hg:o.guard=none) {K:Act->World->Prop} {a:Act} {w:World} (hw:o.wp P a w K Q):wpOp P ops Q i K a w:=by
 unfold wpOp
 rw[h]
 simp only[Region.wanted,hg,if_true]
 exact .inl hw

theorem VA {P:Program} {Γ:Gd} {N:Nat} {Q:Exit->Act->World->Prop} {r:Rg} {vA:List (Nat×MV)} {vL:List (Nat×Option MObj)} {i:Nat} {o:Oper} (ho:r.ops[i]? = some o) {f:FuncId} {xs ys:List MV} {Lc Lc':List (Nat×Option MObj)} {res:MV} {C:Prop} (π:Nat->Nat) (hF:Fn P f xs Lc res Lc')
  (h:j1 vA o.op=some (f,ys,C)) (hC:C) (hf:fnb P f=true) (hg:o.guard=none) (hys:ys=MV.renL π xs) (hd:∀d,o.dst=some d->d<N) (hsub:vc (jf π Lc) vL) (hk1:∀k∈wF Lc,k∈wF Lc') (hinj:∀a∈wF Lc',∀b∈wF Lc',π a=π b->a=b)
  (htold:Qp (wF Lc') res Lc') (hnew:∀k∈wF Lc',1000<=k->1000<=π k/\k ∉ wF Lc/\π k∈r.nk i) (hwk:∀k∈wF Lc',π k∈r.wk i) :
  Wd P Γ N Q r vA vL (yF o.dst (res.ren π) [],jf π Lc') i/\De.ok r i (yF o.dst (res.ren π) [],jf π Lc'):=by
 refine ⟨fun Af Lf a w hA hL hf2 hs K hK=>y9 ho hg (Oper.wp_mono (fun a1 w1 hs1=>hK a1 w1 ?_) (vZ hA hF h hC hf π hys (fun k oc hk=>hL _ _ (hsub.get _ _ (Zt (fun a ha b hb=>hinj a (hk1 a ha) b (hk1 b hb)) k oc hk))) hk1 hinj htold
  (fun k hk hge=>by
   obtain ⟨g1,g2,g3⟩:=hnew k hk hge
   exact ⟨g1,g2,(hf2 _ g3).1,(hf2 _ g3).2⟩) hd hs)),fun s hs=>?_,fun k hk=>?_⟩
 ·have:vP (yF o.dst (res.ren π) []) Af=vq o.dst (res.ren π) Af:=by
   cases o.dst with
   | none=>exact vE Af
   | some d=>exact xf d _ Af
  simp only[this];exact hs1
 ·rw[WE ho]
  cases hd':o.dst with
  | none=>rw[hd'] at hs;simp[yF,zq] at hs
  | some d =>
   rw[hd'] at hs
   simp only[yF,zq,List.any_cons,List.any_nil,Bool.or_false,beq_iff_eq] at hs;rw[hs]
 ·simp only[zq,jf,List.any_map,List.any_eq_true,Function.comp_apply,beq_iff_eq] at hk
  obtain ⟨q,hq,rfl⟩:=hk
  exact hwk q.1 (by simp only[wF,List.mem_map];exact ⟨q,hq,rfl⟩)

def AJ (P:Program) (Γ:Gd) (N:Nat) (Q:Exit->Act->World->Prop) (r:Rg) (A:List (Nat×MV)) (L:List (Nat×Option MObj)) (G:Prop) (l:List De):Prop :=
  (∀i,i<l.length->YH P Γ N Q r (jI l) A L i/\De.ok r i (jI l i))->G

theorem KR {l:List De} {δ:De} {j:Nat} (h:j<l.length):jI (l++[δ]) j=jI l j:=by
 simp[jI,List.getD_eq_getElem?_getD,List.getElem?_append_left h]
theorem YF {l:List De} {δ:De}:jI (l++[δ]) l.length=δ:=by
 simp[jI,List.getD_eq_getElem?_getD]

theorem yQ {α β:Type} {f g:α->List β}:∀{l:List α},(∀x∈l,f x=g x)->l.flatMap f=l.flatMap g
 | [],_=>rfl
 | x::l,h=>by
  rw[List.flatMap_cons,List.flatMap_cons,h x (by simp),yQ (fun y hy=>h y (by simp[hy]))]

def HR (P:Program) (Γ:Gd) (N:Nat) (Q:Exit->Act->World->Prop) (r:Rg) (L:List (Nat×Option MObj)) (vA:List (Nat×MV)) (vL:List (Nat×Option MObj)) (δ:De) (i:Nat):Prop :=
  ∀(Af:Nat->Option MV) (Lf:Nat->Option MObj) (a:Act) (w:World),(∀s x,get vA s=some x->Af s=some x)->(∀k o,ww vL k=some o->Lf k=some o) →
    (∀kd∈r.nk i,(∀s x,Af s=some x->x.has kd=false)/\∀k o,Lf k=some o->o.has kd=false/\k≠kd)->H6 r i L Lf->Sat Γ N Af Lf a w →
    ∀K:Act->World->Prop,(∀a w,Sat Γ N (vP δ.1 Af) (qQ δ.2 Lf) a w->K a w)->wpOp P r.ops Q i K a w
theorem K6 {P:Program} {Γ:Gd} {N:Nat} {Q:Exit->Act->World->Prop} {r:Rg} (hr:r.ok=true) {A:List (Nat×MV)} {L:List (Nat×Option MObj)} {G:Prop} {l:List De} {δ:De} (hl:l.length<r.ops.size)
  (h:HR P Γ N Q r L (yB r (jI l) A l.length) (yZ r (jI l) L l.length) δ l.length/\De.ok r l.length δ) (k:AJ P Γ N Q r A L G (l++[δ])):AJ P Γ N Q r A L G l:=by
 intro hall
 refine k (fun i hi=>?_)
 have hpre:∀i,i<=l.length->yB r (jI (l++[δ])) A i=yB r (jI l) A i/\yZ r (jI (l++[δ])) L i=yZ r (jI l) L i:=by
  intro i hi
  have hp:∀j∈r.pre i,jI (l++[δ]) j=jI l j:=fun j hj=>KR (by have:=((r.edges hr (i:=i) (by omega)).2.1 j hj).1;omega)
  unfold yB yZ
  rw[yQ (fun j hj=>by rw[hp j hj]),yQ (f:=fun j=>(jI (l++[δ]) j).2) (g:=fun j=>(jI l j).2) (fun j hj=>by rw[hp j hj])]
  exact ⟨rfl,rfl⟩
 simp only[List.length_append,List.length_cons,List.length_nil] at hi
 rcases Nat.lt_or_ge i l.length with hlt|hge
 ·obtain ⟨h1,h2⟩:=hall i hlt
  unfold YH at h1 ⊢
  rw[(hpre i (by omega)).1,(hpre i (by omega)).2,KR hlt]
  exact ⟨h1,h2⟩
 ·have:i=l.length:=by omega
  subst this
  unfold YH
  rw[(hpre l.length (Nat.le_refl _)).1,(hpre l.length (Nat.le_refl _)).2,YF]
  exact h
theorem uM {P:Program} {Γ:Gd} {N:Nat} {Q:Exit->Act->World->Prop} {r:Rg} (hr:r.ok=true) {A:List (Nat×MV)} {L:List (Nat×Option MObj)} {G:Prop} {l:List De} {δ:De} (hl:l.length<r.ops.size)
  (h:Wd P Γ N Q r (yB r (jI l) A l.length) (yZ r (jI l) L l.length) δ l.length/\De.ok r l.length δ) (k:AJ P Γ N Q r A L G (l++[δ])):AJ P Γ N Q r A L G l :=
 K6 hr hl ⟨fun Af Lf a w h1 h2 h3 _=>h.1 Af Lf a w h1 h2 h3,h.2⟩ k

def frB (r:Rg) (l:List De) (A:List (Nat×MV)) (L:List (Nat×Option MObj)):Bool :=
  (List.range r.ops.size).all fun i=>(r.nk i).all fun kd=>jX kd A&&jW kd L&&(List.range r.ops.size).all fun j=>j==i||(r.pre j).contains i||(jX kd (jI l j).1&&jW kd (jI l j).2)

theorem gW {P:Program} {Γ:Gd} {N:Nat} {Q:Exit->Act->World->Prop} {r:Rg} (hm:P.follows .mixedOrders=true) (hr:r.ok=true) {A:List (Nat×MV)} {L:List (Nat×Option MObj)} {id:Nat} {l:List De} (hl:l.length=r.ops.size) (hf:frB r l A L=true)
  (hkp:∀q∈r.kp,∀j,j<r.ops.size->(j∈r.pre q.1\/r.unord q.1 j=true)->zq (jI l j).2 q.2.1=true->∀cs0,ww L q.2.1=some (.cells cs0)->∃cs,ww (jI l j).2 q.2.1=some (.cells cs)/\cs[q.2.2]? = cs0[q.2.2]?)
  (fin:TE Γ N (Q .normal) (Kq r.ops.size (jI l) A) (KW r.ops.size (jI l) L)):AJ P Γ N Q r A L (TC P Γ N (.region id r.ops true) Q A L) l:=by
 intro hall
 refine gK hm hr ⟨fun i hi s hs=>(hall i (by omega)).2.1 s hs,fun i hi k hk=>(hall i (by omega)).2.2 k hk,fun i hi kd hkd=>?_,fun i hi kd hkd j hj hne hnp=>?_,hkp⟩ (fun i hi=>(hall i (by omega)).1) fin
 ·simp only[frB,List.all_eq_true,List.mem_range,Bool.and_eq_true] at hf
  exact (hf i hi kd hkd).1
 ·simp only[frB,List.all_eq_true,List.mem_range,Bool.and_eq_true,Bool.or_eq_true,beq_iff_eq,List.contains_iff_mem] at hf
  exact ((hf i hi kd hkd).2 j hj).resolve_left (fun e=>e.elim hne hnp)

theorem uI {P:Program} {Γ:Gd} {N:Nat} {Q:Exit->Act->World->Prop} (r:Rg) {A:List (Nat×MV)} {L:List (Nat×Option MObj)} {id:Nat} (h:AJ P Γ N Q r A L (TC P Γ N (.region id r.ops true) Q A L) []):TC P Γ N (.region id r.ops true) Q A L :=
 h (fun i hi=>by simp at hi)
end
section

def gd {α:Type} (C:Prop) [Decidable C] (x:Option α):Option α:=if C then x else none
theorem yG {α:Type} {C:Prop} [Decidable C] {x:Option α} {r:α} (h:gd C x=some r):C/\x=some r:=by
 unfold gd at h
 split at h
 ·rename_i hc;exact ⟨hc,h⟩
 ·cases h
theorem VT {α:Type} {C:Prop} [Decidable C] {x:Option α} (h:C):gd C x=x:=if_pos h
theorem WR {α:Type} {b:Bool} {x y:Option α} {r:α} (h:(bif b then x else y)=some r) (hb:b=true):x=some r:=by rw[hb] at h;exact h
theorem WO {α:Type} {b:Bool} {x y:Option α} {r:α} (h:(bif b then x else y)=some r) (hb:b=false):y=some r:=by rw[hb] at h;exact h
theorem bnd {α β:Type} {o:Option α} {f:α->Option β} {r:β} (h:o.bind f=some r):∃x,o=some x/\f x=some r:=Option.bind_eq_some_iff.1 h

section
variable {P:Program} {Γ:Gd} {N:Nat} {Q:Exit->Act->World->Prop} {A A':List (Nat×MV)} {L L':List (Nat×Option MObj)} {f:Act->World->Prop} {id id':Nat}
theorem tsr (h:TE Γ N (Q .ret) A L):TE Γ N (Exit.then f Q .ret) A L:=h
theorem tsx (h:TE Γ N (Q (.exit id)) A L):TE Γ N (Exit.then f Q (.exit id)) A L:=h
theorem tsn (h:TE Γ N f A L):TE Γ N (Exit.then f Q .normal) A L:=h
theorem tbr (h:TE Γ N (Q .ret) A L):TE Γ N (Exit.inBlock id Q .ret) A L:=h
theorem tbn (h:TE Γ N (Q .normal) A L):TE Γ N (Exit.inBlock id Q .normal) A L:=h
theorem tbe (h:TE Γ N (Q .normal) A L):TE Γ N (Exit.inBlock id Q (.exit id)) A L:=fun a w hs=>by
 show (if id=id then Q .normal a w else Q (.exit id) a w)
 rw[if_pos rfl];exact h a w hs
theorem tbx (hne:id'≠id) (h:TE Γ N (Q (.exit id')) A L):TE Γ N (Exit.inBlock id Q (.exit id')) A L:=fun a w hs=>by
 show (if id'=id then Q .normal a w else Q (.exit id') a w)
 rw[if_neg hne];exact h a w hs
end

mutual
def MV.frz (key:Nat) (k:Kd) (xs:List k.T):MV->MV
  | .sl q=>if q==key then .im (.slice k) xs else .sl q
  | .mp q=>.mp q
  | .agg l=>.agg (MV.frzL key k xs l)
  | .tup l=>.tup (MV.frzL key k xs l)
  | .fn f l=>.fn f (MV.frzL key k xs l)
  | .ifc t x=>.ifc t (x.frz key k xs)
  | .bm t x=>.bm t (x.frz key k xs)
  | .cnd t x=>.cnd t (x.frz key k xs)
  | .int k x=>.int k x
  | .bool b=>.bool b
  | .str s=>.str s
  | .nilp=>.nilp
  | .nils=>.nils
  | .nilf=>.nilf
  | .nili=>.nili
  | .nilm=>.nilm
  | .p k off=>.p k off
  | .pe k i f=>.pe k i f
  | .im k x=>.im k x
  | .pim k x=>.pim k x
  | .raw v=>.raw v
  | .hd k n=>.hd k n
  | .sv k n=>.sv k n
  | .sp k n=>.sp k n
  | .pf k o j=>.pf k o j
def MV.frzL (key:Nat) (k:Kd) (xs:List k.T):List MV->List MV
  | []=>[]
  | x::l=>x.frz key k xs::MV.frzL key k xs l
end
def MObj.frz (key:Nat) (k:Kd) (xs:List k.T):MObj->MObj
  | .cells cs=>.cells (MV.frzL key k xs cs)
  | .rows k' ys=>.rows k' ys
  | .ab a=>.ab a
  | .foc p cs q=>.foc p (MV.frzL key k xs cs) q
  | .bld T o=>.bld T o
  | .brw e k' ys=>.brw e k' ys
  | .hrow s cs=>.hrow s (MV.frzL key k xs cs)
  | .arr a b c=>.arr a b c
  | .emp=>.emp
  | .rr own e xss h=>.rr own e xss (h.map fun q=>(q.1,q.2.frz key k xs))
def Kr (key:Nat) (k:Kd) (xs:List k.T) (A:List (Nat×MV)):List (Nat×MV):=A.map fun q=>(q.1,q.2.frz key k xs)
def WV (key:Nat) (k:Kd) (xs:List k.T) (L:List (Nat×Option MObj)):List (Nat×Option MObj):=(key,none)::L.map fun q=>(q.1,q.2.map (·.frz key k xs))

mutual
theorem vz {ρ:Nat->Hd} {m m':Mem} (hm:Mle m m') {key:Nat} {k:Kd} {xs:List k.T} (hk:(Kd.slice k).R m' xs [(ρ key).hdr]):∀(x:MV) (v:Value),Cv ρ m x v->Cv ρ m' (x.frz key k xs) v
  | .mp _,_,h=>h
  | .sl q,v,h=>by
    simp only[MV.frz]
    split
    · rename_i e
      have:=beq_iff_eq.1 e;subst this
      simp only[Cv] at h;subst h;exact hk
    · exact h
  | .agg l,v,⟨vs,e,h⟩=>⟨vs,e,yb hm hk l vs h⟩
  | .tup l,v,⟨vs,e,h⟩=>⟨vs,e,yb hm hk l vs h⟩
  | .fn f l,v,⟨vs,e,h⟩=>⟨vs,e,yb hm hk l vs h⟩
  | .ifc t x,v,⟨y,e,h⟩=>⟨y,e,vz hm hk x y h⟩
  | .bm t x,v,⟨y,e,h⟩=>⟨y,e,vz hm hk x y h⟩
  | .cnd t x,v,h=>⟨fun e=>vz hm hk x v (h.1 e),h.2⟩
  | .int _ _,_,h=>h
  | .bool _,_,h=>h
  | .str _,_,h=>h
  | .nilp,_,h=>h
  | .nils,_,h=>h
  | .nilf,_,h=>h
  | .nili,_,h=>h
  | .nilm,_,h=>h
  | .p _ _,_,h=>h
  | .pe _ _ _,_,h=>h
  | .im k x,v,h=>Cv.mono hm (.im k x) v (fun _ _=>rfl) h
  | .pim k x,v,h=>Cv.mono hm (.pim k x) v (fun _ _=>rfl) h
  | .raw _,_,h=>h
  | .hd _ _,_,h=>h
  | .sv _ _,_,h=>h
  | .sp _ _,_,h=>h
  | .pf _ _ _,_,h=>h
theorem yb {ρ:Nat->Hd} {m m':Mem} (hm:Mle m m') {key:Nat} {k:Kd} {xs:List k.T} (hk:(Kd.slice k).R m' xs [(ρ key).hdr]):∀(l:List MV) (vs:List Value),CvL ρ m l vs->CvL ρ m' (MV.frzL key k xs l) vs
  | [],_,h=>h
  | x::l,_,⟨v,us,e,h1,h2⟩=>⟨v,us,e,vz hm hk x v h1,yb hm hk l us h2⟩
end

theorem W1 {g:MV->MV}:∀{A:List (Nat×MV)} {s:Nat} {y:MV},get (A.map fun q=>(q.1,g q.2)) s=some y->∃x,get A s=some x/\y=g x
 | [],s,y,h=>by simp[get] at h
 | (k,v)::A,s,y,h=>by
  simp only[List.map_cons,get] at h ⊢
  split at h
  ·rename_i e;rw[if_pos e];simp only[Option.some.injEq] at h;exact ⟨v,rfl,h.symm⟩
  ·rename_i e;rw[if_neg e];exact W1 h
theorem Wm {g:MObj->MObj}:∀{L:List (Nat×Option MObj)} {s:Nat} {y:MObj},ww (L.map fun q=>(q.1,q.2.map g)) s=some y->∃x,ww L s=some x/\y=g x
 | [],s,y,h=>by simp[ww] at h
 | (k,v)::L,s,y,h=>by
  simp only[List.map_cons,ww] at h ⊢
  split at h
  ·rename_i e;rw[if_pos e];rw[Option.map_eq_some_iff] at h;obtain ⟨x,h1,h2⟩:=h;exact ⟨x,h1,h2.symm⟩
  ·rename_i e;rw[if_neg e];exact Wm h

theorem Xj {ρ:Nat->Hd} {m m':Mem} {w:World} {q:Nat} (hm:Mle m m') {g:MV->MV} (hg:∀x v,Cv ρ m x v->Cv ρ m' (g x) v) {own:Bool} {e:Kd} {xss:List (List e.T)} {h:Option (Nat×MV)} (ho:osat ρ m w q (.rr own e xss h)) :
  osat ρ m' w q (.rr own e xss (h.map fun q=>(q.1,g q.2))):=by
 have h0:hole (h.map fun q=>(q.1,g q.2))=hole h:=by cases h<;>rfl
 obtain ⟨g0,g1,g2⟩:=ho
 refine ⟨g0,g1,?_⟩
 rcases g2 with g2|⟨hn,hc,vs,T,p1,p2,p3,p4,p5⟩
 ·exact .inl ⟨g2.1,g2.2.1,by rw[g2.2.2];rfl⟩
 ·refine .inr ⟨hn,hc,vs,T,p1,p2,fun i hi hne=>?_,fun j x hj=>?_,by rw[h0];exact p5⟩
  ·rw[h0] at hne
   obtain ⟨v,hv,hr⟩:=p3 i hi hne
   refine ⟨v,hv,?_⟩
   cases own with
   | false=>exact Kd.R.mono hm _ _ _ hr
   | true =>
    rcases hr with hr|⟨b,cap,us,T',r1,r2,r3,r4,r5⟩
    ·exact .inl hr
    ·exact .inr ⟨b,cap,us,T',r1,r2,r3,r4,fun j hj=>Kd.R.mono hm e _ _ (r5 j hj)⟩
  ·cases h with
   | none=>cases hj
   | some p =>
    obtain ⟨i,y⟩:=p
    simp only[Option.map_some,Option.some.injEq,Prod.mk.injEq] at hj
    obtain ⟨rfl,rfl⟩:=hj
    obtain ⟨v,hv,hr⟩:=p4 i y rfl
    exact ⟨v,hv,hg y v hr⟩
theorem Wv {ρ:Nat->Hd} {w:World} {q b:Nat} {g:MV->MV} {own:Bool} {e:Kd} {xss:List (List e.T)} {h:Option (Nat×MV)}:inner ρ w q (.rr own e xss (h.map fun q=>(q.1,g q.2))) b↔inner ρ w q (.rr own e xss h) b:=by
 cases h<;>exact Iff.rfl
theorem vH {ρ:Nat->Hd} {w:World} {q b key:Nat} {k:Kd} {xs:List k.T} {o:MObj}:inner ρ w q (o.frz key k xs) b↔inner ρ w q o b:=by
 cases o with
 | rr own e xss h=>exact Wv
 | _=>exact Iff.rfl
theorem Zz {key:Nat} {k:Kd} {xs:List k.T}:∀l:List MV,(MV.frzL key k xs l).length=l.length
 | []=>rfl
 | y::l=>by simp only[MV.frzL,List.length_cons,Zz l]
theorem Sat.freeze {Γ:Gd} {N:Nat} {A:List (Nat×MV)} {L:List (Nat×Option MObj)} {a:Act} {w:World} (hs:Sat Γ N (get A) (ww L) a w) {key:Nat} {k:Kd} {xs:List k.T} (hk:ww L key=some (.rows k xs)) :
  Sat Γ N (get (Kr key k xs A)) (ww (WV key k xs L)) a w:=by
 obtain ⟨h1,h2,ρ,m,h3,h4,h5,h6⟩:=hs
 obtain ⟨g0,g1,g2⟩:=h4.obj _ _ hk
 have sel:∀q o,ww (WV key k xs L) q=some o->q≠key/\∃o',ww L q=some o'/\o=o'.frz key k xs:=by
  intro q o ho
  simp only[WV,ww] at ho
  split at ho
  ·cases ho
  ·rename_i e
   exact ⟨fun x=>e (by rw[x];exact beq_self_eq_true key),Wm ho⟩
 have fin:∀m',Mle m m'->(Kd.slice k).R m' xs [(ρ key).hdr]->(∀b o,m' b=some o->w.heap[b]? = some o)->(∀b,m' b=m b\/foot ρ key b)->Sat Γ N (get (Kr key k xs A)) (ww (WV key k xs L)) a w:=by
  intro m' hm hR hM hsame
  have hni:∀q o b,ww L q=some o->inner ρ w q o b->m' b=m b:=fun q o b hq hi=>(hsame b).resolve_right fun hf'=>(h4.inn q o b hq hi).2.2.1 key _ hk hf'
  have hnf:∀q o b,q≠key->ww L q=some o->foot ρ q b->m' b=m b:=fun q o b hne hq hf=>(hsame b).resolve_right fun hf'=>hne (h4.dj q o key _ b hq hk hf hf')
  refine ⟨h1,h2,ρ,m',fun s y hy=>?_,⟨hM,fun q o ho=>?_,fun q o q' o' b ho ho' hf hf'=>?_,fun q o b ho hf=>?_,fun q o b ho hf=>?_,h4.lt,fun q o b ho hi=>?_⟩,⟨h5.le.trans hm,fun b hX=>?_,h5.un,h5.size,h5.os,h5.out,h5.tape⟩,h6⟩
  ·obtain ⟨x,hx,rfl⟩:=W1 hy
   obtain ⟨v,hv,hc⟩:=h3 s x hx
   exact ⟨v,hv,vz hm hR x v hc⟩
  ·obtain ⟨hne,o',ho',rfl⟩:=sel q o ho
   have:=h4.obj q o' ho'
   cases o' with
   | cells cs=>obtain ⟨p0,vs,T,p1,p2⟩:=this;exact ⟨p0,vs,T,p1,yb hm hR cs vs p2⟩
   | rows k' ys=>exact osat.mono hm (fun _ _=>rfl) rfl (fun _ _=>rfl) (fun _ _=>rfl) this
   | ab a=>exact osat.mono hm (fun _ _=>rfl) rfl (fun _ _=>rfl) (fun _ _=>rfl) this
   | bld T o=>exact osat.mono hm (fun _ _=>rfl) rfl (fun _ _=>rfl) (fun _ _=>rfl) this
   | brw e k' ys=>exact osat.mono hm (fun _ _=>rfl) rfl (fun _ _=>rfl) (fun _ _=>rfl) this
   | emp=>exact osat.mono hm (fun _ _=>rfl) rfl (fun _ _=>rfl) (fun _ _=>rfl) this
   | arr a b c=>exact osat.mono hm (fun _ _=>rfl) rfl (fun _ _=>rfl) (fun _ _=>rfl) this
   | hrow s cs =>
    obtain ⟨q1,q2,q3,q4,vs,T,q5,q6,q7⟩:=this
    have hl:(MV.frzL key k xs cs).length=cs.length:=Zz cs
    exact ⟨by rw[hl];exact q1,q2,q3,q4,vs,T,q5,q6,by rw[hl];exact yb hm hR cs _ q7⟩
   | rr own e xss h=>exact Xj hm (fun x v hc=>vz hm hR x v hc) this
   | foc p cs q=>obtain ⟨p0,v1,v2,v3,T,p1,p2,p3,p4⟩:=this;exact ⟨p0,v1,v2,v3,T,p1,CvL.mono hm p v1 (fun _ _=>rfl) p2,yb hm hR cs v2 p3,CvL.mono hm q v3 (fun _ _=>rfl) p4⟩
  ·obtain ⟨_,o1,ho1,_⟩:=sel q o ho
   obtain ⟨_,o2,ho2,_⟩:=sel q' o' ho'
   exact h4.dj q o1 q' o2 b ho1 ho2 hf hf'
  ·obtain ⟨hne,o1,ho1,_⟩:=sel q o ho
   rw[hnf q o1 b hne ho1 hf];exact h4.djm q o1 b ho1 hf
  ·obtain ⟨hne,o1,ho1,_⟩:=sel q o ho
   exact h4.djX q o1 b ho1 hf
  ·obtain ⟨hne,o1,ho1,rfl⟩:=sel q o ho
   have hi1:=vH.1 hi
   obtain ⟨i1,i2,i3,i4⟩:=h4.inn q o1 b ho1 hi1
   refine ⟨by rw[hni q o1 b ho1 hi1];exact i1,i2,fun q' o' ho' hf'=>?_,fun q' o' ho' hi'=>?_⟩
   ·obtain ⟨_,o2,ho2,_⟩:=sel q' o' ho'
    exact i3 q' o2 ho2 hf'
   ·obtain ⟨_,o2,ho2,rfl⟩:=sel q' o' ho'
    exact i4 q' o2 ho2 (vH.1 hi')
  ·rw[(hsame b).resolve_right (fun hf=>h4.djX key _ b hk hf hX)];exact h5.nm b hX
 rcases g2 with ⟨hn,rfl⟩|⟨hn,hcap,vs,T,hb,hvl,hel⟩
 ·exact fin m (Mle.refl m) ⟨_,rfl,.inl ⟨none,by unfold Hd.hdr;rw[hn];rfl,rfl⟩⟩ h4.mem (fun b=>.inl rfl)
 ·let m':Mem:=fun b=>if b=(ρ key).blk then some (.cells vs.toArray T (0,0)) else m b
  have hmb:m (ρ key).blk=none:=h4.djm key _ _ hk ⟨hn,rfl⟩
  have hle:Mle m m':=fun b o ho=>by
   show (if b=(ρ key).blk then _ else m b)=some o
   rw[if_neg (fun e=>by rw[e,hmb] at ho;cases ho)];exact ho
  refine fin m' hle ⟨_,rfl,.inr ⟨(ρ key).blk,0,(ρ key).cap,vs.toArray,T,(0,0),by unfold Hd.hdr;rw[hn,g0];rfl,hcap,if_pos rfl,?_,fun i hi=>?_⟩⟩ (fun b o ho=>?_) (fun b=>?_)
  ·have:xs.length*k.n<=(ρ key).cap*k.n:=Nat.mul_le_mul_right _ hcap
   simp;omega
  ·have:=Kd.R.mono hle k _ _ (hel i hi)
   simpa using this
  ·by_cases e:b=(ρ key).blk
   ·have:(if b=(ρ key).blk then some (Obj.cells vs.toArray T (0,0)) else m b)=some o:=ho
    rw[if_pos e] at this;cases this;rw[e];exact hb
   ·have:(if b=(ρ key).blk then some (Obj.cells vs.toArray T (0,0)) else m b)=some o:=ho
    rw[if_neg e] at this;exact h4.mem b o this
  ·by_cases e:b=(ρ key).blk
   ·exact .inr ⟨hn,e⟩
   ·exact .inl (if_neg e)

section
variable {P:Program} {Γ:Gd} {N:Nat} {Q:Exit->Act->World->Prop} {A A':List (Nat×MV)} {L L':List (Nat×Option MObj)}
theorem qj {R:Act->World->Prop} (key:Nat) {k:Kd} {xs:List k.T} (hk:ww L key=some (.rows k xs)) (h:TE Γ N R (Kr key k xs A) (WV key k xs L)):TE Γ N R A L:=fun a w hs=>h a w (hs.freeze hk)
theorem HC {c:Code} (key:Nat) {k:Kd} {xs:List k.T} (hk:ww L key=some (.rows k xs)) (h:TC P Γ N c Q (Kr key k xs A) (WV key k xs L)):TC P Γ N c Q A L:=fun a w hs=>h a w (hs.freeze hk)
theorem ji {ops:Array Oper} {l:List Oper} (key:Nat) {k:Kd} {xs:List k.T} (hk:ww L key=some (.rows k xs)) (h:TL P Γ N ops Q l (Kr key k xs A) (WV key k xs L)):TL P Γ N ops Q l A L:=fun a w hs=>h a w (hs.freeze hk)
end

theorem Sat.own {Γ:Gd} {N:Nat} {A:List (Nat×MV)} {L:List (Nat×Option MObj)} {a:Act} {w:World} (hs:Sat Γ N (get A) (ww L) a w) {s:Nat} (hn:get A s=some .nils) (key:Nat) (k:Kd) (hk:1000<=key) (hfA:jX key A=true) (hfL:jW key L=true) :
  Sat Γ N (get ((s,.sl key)::A)) (ww ((key,some (.rows k []))::L)) a w:=by
 obtain ⟨h1,h2,ρ,m,h3,h4,h5,h6⟩:=hs
 have hρ:∀q,q≠key->setρ ρ key ⟨0,0,0,true,k.n⟩ q=ρ q:=fun q hq=>setρ_ne _ _ _ hq
 refine ⟨h1,h2,setρ ρ key ⟨0,0,0,true,k.n⟩,m,fun t y hy=>?_,?_,h5,fun q hq=>(hρ q (by omega)).trans (h6 q hq)⟩
 ·simp only[get] at hy
  split at hy
  ·rename_i e
   have:=beq_iff_eq.1 e;subst this
   simp only[Option.some.injEq] at hy;subst hy
   obtain ⟨v,hv,hc⟩:=h3 s _ hn
   exact ⟨v,hv,by simp only[Cv,setρ_eq] at hc ⊢;exact hc⟩
  ·obtain ⟨v,hv,hc⟩:=h3 t y hy
   exact ⟨v,hv,Cv.mono (Mle.refl m) y v (fun q hq=>hρ q (fun e=>by rw[e,xX hfA t y hy] at hq;cases hq)) hc⟩
 ·have:=h4.turn (ρ':=setρ ρ key ⟨0,0,0,true,k.n⟩) (w':=w) key (some (.rows k [])) (fun _=>False) hρ (.inr fun q o hq _=>(xD hfL q o hq).1) (fun b _ _=>rfl) (Nat.le_refl _) (fun b _ hf=>hf.elim) (fun _ _ _ _ _ _ hf=>hf) (fun o ho=>by
   simp only[Option.some.injEq] at ho;subst ho
   refine ⟨⟨by rw[setρ_eq];rfl,by rw[setρ_eq],.inl ⟨by rw[setρ_eq],rfl⟩⟩,fun b hf=>?_⟩
   have:=hf.1;rw[setρ_eq] at this;cases this)
  exact this

def kB (σ:Nat->Nat):List (Nat×MV)->List (Nat×MV)->Prop
  | [],_=>True
  | (s,x)::l,A=>get A s=some (x.ren σ)/\kB σ l A
def kD (σ:Nat->Nat):List (Nat×Option MObj)->List (Nat×Option MObj)->Prop
  | [],_=>True
  | (k,o)::l,L=>(match o with|some o=>ww L (σ k)=some (o.ren σ)|none=>True)/\kD σ l L
theorem kB.get {σ:Nat->Nat}:∀{l A:List (Nat×MV)},kB σ l A->∀s x,get l s=some x->get A s=some (x.ren σ)
 | [],_,_,s,x,h=>by simp[Go.Fo.get] at h
 | (s',y)::l,A,⟨h1,h2⟩,s,x,h=>by
  simp only[Go.Fo.get] at h
  split at h
  ·rename_i e;have e':=beq_iff_eq.1 e;subst e';simp only[Option.some.injEq] at h;rw[<-h];exact h1
  ·exact kB.get h2 s x h
theorem kD.get {σ:Nat->Nat}:∀{l L:List (Nat×Option MObj)},kD σ l L->∀k o,ww l k=some o->ww L (σ k)=some (o.ren σ)
 | [],_,_,s,x,h=>by simp[ww] at h
 | (s',y)::l,A,⟨h1,h2⟩,s,x,h=>by
  simp only[ww] at h
  split at h
  ·rename_i e;have e':=beq_iff_eq.1 e;subst e';subst h;exact h1
  ·exact kD.get h2 s x h

theorem Sat.ren {Γ:Gd} {N:Nat} {A A':List (Nat×MV)} {L L':List (Nat×Option MObj)} {a:Act} {w:World} (hs:Sat Γ N (get A) (ww L) a w) (σ:Nat->Nat) (hA:kB σ A' A) (hL:kD σ L' L) (hinj:∀a∈wF L',∀b∈wF L',σ a=σ b->a=b) (hlow:∀k,k<1000->σ k=k) :
  Sat Γ N (get A') (ww L') a w:=by
 obtain ⟨h1,h2,ρ,m,h3,h4,h5,h6⟩:=hs
 refine ⟨h1,h2,fun k=>ρ (σ k),m,fun s x hx=>?_,⟨h4.mem,fun k o ho=>(Zs σ k o).1 (h4.obj _ _ (hL.get k o ho)),fun k o k' o' b ho ho' hf hf'=>?_,fun k o b ho hf=>h4.djm _ _ b (hL.get k o ho) hf,fun k o b ho hf=>h4.djX _ _ b (hL.get k o ho) hf,h4.lt,fun k o b ho hi=>?_⟩,h5,fun k hk=>by show ρ (σ k)=_;rw[hlow k hk];exact h6 k hk⟩
 ·obtain ⟨v,hv,hc⟩:=h3 s _ (hA.get s x hx)
  exact ⟨v,hv,(ym σ x v).1 hc⟩
 ·exact hinj k (jO ho) k' (jO ho') (h4.dj _ _ _ _ b (hL.get k o ho) (hL.get k' o' ho') hf hf')
 ·obtain ⟨i1,i2,i3,i4⟩:=h4.inn _ _ b (hL.get k o ho) ((yW σ k o b).2 hi)
  exact ⟨i1,i2,fun k' o' hk' hf'=>i3 _ _ (hL.get k' o' hk') hf',fun k' o' hk' hi'=>hinj k (jO ho) k' (jO hk') (i4 _ _ (hL.get k' o' hk') ((yW σ k' o' b).2 hi'))⟩

section
variable {P:Program} {Γ:Gd} {N:Nat} {Q:Exit->Act->World->Prop} {A A':List (Nat×MV)} {L L':List (Nat×Option MObj)}
theorem xn {R:Act->World->Prop} (s key:Nat) (k:Kd) (hn:get A s=some .nils) (hk:1000<=key) (hfA:jX key A=true) (hfL:jW key L=true) (h:TE Γ N R ((s,.sl key)::A) ((key,some (.rows k []))::L)):TE Γ N R A L:=fun a w hs=>h a w (hs.own hn key k hk hfA hfL)
end
end
section

def sg:List (Nat×Nat)->Nat->Nat
  | [],k=>k
  | (a,b)::l,k=>if k==a then b else sg l k
theorem ZM:∀{l:List (Nat×Nat)},(l.all fun q=>decide (1000<=q.1))=true->∀k,k<1000->sg l k=k
 | [],_,_,_=>rfl
 | (a,b)::l,h,k,hk=>by
  simp only[List.all_cons,Bool.and_eq_true,decide_eq_true_eq] at h
  have:(k==a)=false:=by rw[beq_eq_false_iff_ne];omega
  simp only[sg,this,Bool.false_eq_true,if_false]
  exact ZM h.2 k hk
def UQ (σ:Nat->Nat) (ks:List Nat):Bool:=ks.all fun a=>ks.all fun b=>!(σ a==σ b)||a==b
theorem yO {σ:Nat->Nat} {ks:List Nat} (h:UQ σ ks=true):∀a∈ks,∀b∈ks,σ a=σ b->a=b:=by
 intro a ha b hb e
 unfold UQ at h
 rw[List.all_eq_true] at h
 have:=h a ha
 rw[List.all_eq_true] at this
 have:=this b hb
 rw[e] at this
 simpa using this
def sgB (l:List (Nat×Nat)) (ks:List Nat):Bool:=(l.all fun q=>decide (1000<=q.1))&&UQ (sg l) ks

section
variable {P:Program} {Γ:Gd} {N:Nat} {Q:Exit->Act->World->Prop} {A A':List (Nat×MV)} {L L':List (Nat×Option MObj)}

theorem z0 {α:Type} {p:α->Prop} {SA:α->List (Nat×MV)} {SL:α->List (Nat×Option MObj)} (l:List (Nat×Nat)) (x:α) (hp:p x) (hA:kB (sg l) (SA x) A) (hL:kD (sg l) (SL x) L) (hb:sgB l (wF (SL x))=true):TE Γ N (SP Γ N p SA SL) A L:=by
 simp only[sgB,Bool.and_eq_true] at hb
 exact fun a w hs=>⟨x,hp,hs.ren (sg l) hA hL (yO hb.2) (ZM hb.1)⟩
theorem yw {α:Type} {p:Nat->α->Prop} {SA:α->List (Nat×MV)} {SL:α->List (Nat×Option MObj)} {n:Nat} (l:List (Nat×Nat)) (n':Nat) (hlt:n'<n) (x:α) (hp:p n' x) (hA:kB (sg l) (SA x) A) (hL:kD (sg l) (SL x) L) (hb:sgB l (wF (SL x))=true) :
  TE Γ N (fun a w=>∃n',n'<n/\SP Γ N (p n') SA SL a w) A L:=by
 simp only[sgB,Bool.and_eq_true] at hb
 exact fun a w hs=>⟨n',hlt,x,hp,hs.ren (sg l) hA hL (yO hb.2) (ZM hb.1)⟩
theorem GW {c:Code} (l:List (Nat×Nat)) (hA:kB (sg l) A' A) (hL:kD (sg l) L' L) (hb:sgB l (wF L')=true) (h:TC P Γ N c Q A' L'):TC P Γ N c Q A L:=by
 simp only[sgB,Bool.and_eq_true] at hb
 exact fun a w hs=>h a w (hs.ren (sg l) hA hL (yO hb.2) (ZM hb.1))
end

-- the keys of a value are among these
mutual
def MV.tld (ks:List Nat):MV->Bool
  | .p k _=>ks.contains k
  | .pe k _ _=>ks.contains k
  | .sl k=>ks.contains k
  | .mp k=>ks.contains k
  | .hd k _=>ks.contains k
  | .sv k _=>ks.contains k
  | .sp k _=>ks.contains k
  | .pf k _ _=>ks.contains k
  | .agg l=>MV.tldL ks l
  | .tup l=>MV.tldL ks l
  | .fn _ l=>MV.tldL ks l
  | .ifc _ x=>x.tld ks
  | .bm _ x=>x.tld ks
  | .cnd _ x=>x.tld ks
  | _=>true
def MV.tldL (ks:List Nat):List MV->Bool
  | []=>true
  | x::l=>x.tld ks&&MV.tldL ks l
end
mutual
theorem vM {ks:List Nat} {d:Nat}:∀x:MV,x.tld ks=true->x.has d=true->d∈ks
  | .p k _,h,e=>by simp only[MV.tld,MV.has,List.contains_iff_mem,beq_iff_eq] at h e;exact e▸h
  | .pe k _ _,h,e=>by simp only[MV.tld,MV.has,List.contains_iff_mem,beq_iff_eq] at h e;exact e▸h
  | .sl k,h,e=>by simp only[MV.tld,MV.has,List.contains_iff_mem,beq_iff_eq] at h e;exact e▸h
  | .mp k,h,e=>by simp only[MV.tld,MV.has,List.contains_iff_mem,beq_iff_eq] at h e;exact e▸h
  | .hd k _,h,e=>by simp only[MV.tld,MV.has,List.contains_iff_mem,beq_iff_eq] at h e;exact e▸h
  | .sv k _,h,e=>by simp only[MV.tld,MV.has,List.contains_iff_mem,beq_iff_eq] at h e;exact e▸h
  | .sp k _,h,e=>by simp only[MV.tld,MV.has,List.contains_iff_mem,beq_iff_eq] at h e;exact e▸h
  | .pf k _ _,h,e=>by simp only[MV.tld,MV.has,List.contains_iff_mem,beq_iff_eq] at h e;exact e▸h
  | .agg l,h,e=>yv l h e
  | .tup l,h,e=>yv l h e
  | .fn _ l,h,e=>yv l h e
  | .ifc _ x,h,e=>vM x h e
  | .bm _ x,h,e=>vM x h e
  | .cnd _ x,h,e=>vM x h e
  | .int _ _,_,e=>by cases e
  | .bool _,_,e=>by cases e
  | .str _,_,e=>by cases e
  | .nilp,_,e=>by cases e
  | .nils,_,e=>by cases e
  | .nilf,_,e=>by cases e
  | .nili,_,e=>by cases e
  | .nilm,_,e=>by cases e
  | .im _ _,_,e=>by cases e
  | .pim _ _,_,e=>by cases e
  | .raw _,_,e=>by cases e
theorem yv {ks:List Nat} {d:Nat}:∀l:List MV,MV.tldL ks l=true->MV.hasL d l=true->d∈ks
  | [],_,e=>by cases e
  | x::l,h,e=>by
    simp only[MV.tldL,MV.hasL,Bool.and_eq_true,Bool.or_eq_true] at h e
    exact e.elim (vM x h.1) (yv l h.2)
end
def MObj.tld (ks:List Nat):MObj->Bool
  | .cells cs=>MV.tldL ks cs
  | .rows _ _=>true
  | .ab _=>true
  | .foc _ cs _=>MV.tldL ks cs
  | .bld _ o=>match o with|some k=>ks.contains k|none=>true
  | .brw _ _ _=>true
  | .hrow _ cs=>MV.tldL ks cs
  | .arr _ _ _=>true
  | .emp=>true
  | .rr _ _ _ h=>match h with|some (_,x)=>x.tld ks|none=>true
def Gf (ks:List Nat) (x:MV) (L:List (Nat×Option MObj)):Bool:=x.tld ks&&L.all fun q=>match q.2 with|some o=>o.tld ks|none=>true
theorem Q5 {ks:List Nat} {x:MV} {L:List (Nat×Option MObj)} (h:Gf ks x L=true):Qp ks x L:=by
 simp only[Gf,Bool.and_eq_true] at h
 refine ⟨fun d=>vM x h.1,fun k o ho d hd=>?_⟩
 have h2:=h.2
 clear h
 induction L with
 | nil=>simp[ww] at ho
 | cons q L ih =>
  obtain ⟨k',o'⟩:=q
  simp only[List.all_cons,Bool.and_eq_true] at h2
  simp only[ww] at ho
  split at ho
  ·subst ho
   cases o with
   | cells cs=>exact yv cs h2.1 hd
   | rows _ _=>cases hd
   | ab _=>cases hd
   | foc p cs q=>exact yv cs h2.1 hd
   | bld T o =>
    cases o with
    | none=>simp[MObj.has] at hd
    | some k =>
     have h3:=h2.1
     simp only[MObj.has,beq_iff_eq,Option.some.injEq] at hd
     simp only[MObj.tld,List.contains_iff_mem] at h3
     exact hd▸h3
   | brw _ _ _=>cases hd
   | hrow s cs=>exact yv cs h2.1 hd
   | arr _ _ _=>cases hd
   | emp=>cases hd
   | rr _ _ _ h =>
    cases h with
    | none=>cases hd
    | some p=>obtain ⟨i,x⟩:=p;exact vM x h2.1 hd
  ·exact ih ho h2.2

def Vz (π:Nat->Nat) (N:Nat) (dst:Option Nat) (g:Bool) (A:List (Nat×MV)) (L Lc Lc':List (Nat×Option MObj)) (res:MV):Bool :=
  g&&(match dst with|some d=>decide (d<N)|none=>true)&&((wF Lc).all fun k=>(wF Lc').contains k)&&UQ π (wF Lc')&&Gf (wF Lc') res Lc' &&
    (wF Lc').all fun k=>decide (k<1000)||(decide (1000<=π k)&&!(wF Lc).contains k&&jX (π k) A&&jW (π k) L)

section
variable {P:Program} {Γ:Gd} {N:Nat} {Q:Exit->Act->World->Prop} {A A':List (Nat×MV)} {L L':List (Nat×Option MObj)}

theorem V0 {ops:Array Oper} {o:Oper} {l:List Oper} {f:FuncId} {xs ys:List MV} {Lc Lc':List (Nat×Option MObj)} {res:MV} {C:Prop} (π:List (Nat×Nat)) (hF:Fn P f xs Lc res Lc') (hf:fnb P f=true) (h:j1 A o.op=some (f,ys,C)) (hC:C) (hys:ys=MV.renL (sg π) xs)
  (hs:vc (jf (sg π) Lc) L) (hb:Vz (sg π) N o.dst o.guard.isNone A L Lc Lc' res=true) (k:TL P Γ N ops Q l (yF o.dst (res.ren (sg π)) A) (jf (sg π) Lc'++L)):TL P Γ N ops Q (o::l) A L:=by
 simp only[Vz,Bool.and_eq_true,List.all_eq_true,List.contains_iff_mem,Bool.or_eq_true,decide_eq_true_eq,Bool.not_eq_true',Option.isNone_iff_eq_none] at hb
 obtain ⟨⟨⟨⟨⟨b1,b2⟩,b3⟩,b4⟩,b5⟩,b6⟩:=hb
 refine um (sg π) hF h hC hf b1 hys (fun d e=>by rw[e] at b2;simpa using b2) ⟨hs,b3,yO b4,Q5 b5,fun k hk hge=>?_⟩ k
 rcases b6 k hk with b|⟨⟨⟨c1,c2⟩,c3⟩,c4⟩
 ·omega
 ·exact ⟨c1,fun e=>(by rw[List.contains_iff_mem.2 e] at c2;cases c2),c3,c4⟩

theorem yA {ops:Array Oper} {l:List Oper} (s:Nat) {b:Bool} (h:get A s=some (.bool b)) (ht:b=true->TL P Γ N ops Q l ((s,.bool true)::A) L) (hf:b=false->TL P Γ N ops Q l ((s,.bool false)::A) L):TL P Γ N ops Q l A L:=by
 intro a w hs
 have key:∀c,b=c->Sat Γ N (get ((s,.bool c)::A)) (ww L) a w:=fun c e=>hs.weak (fun t x hx=>by
  simp only[get] at hx
  split at hx
  ·rename_i e';have:=beq_iff_eq.1 e';subst this;rw[h,e];exact hx
  ·exact hx) (fun _ _ h=>h)
 cases hb:b with
 | true=>exact ht hb a w (key true hb)
 | false=>exact hf hb a w (key false hb)

theorem Qg {ops:Array Oper} {o oj:Oper} {j dj:Nat} {want b:Bool} (hg:o.guard=some (j,want)) (hj:ops[j]? = some oj) (hdj:oj.dst=some dj) (hv:get A dj=some (.bool b)) {a:Act} {w:World} (hs:Sat Γ N (get A) (ww L) a w) :
  Region.wanted o (yielded ops a.tmps)=(if want then b else !b):=by
 obtain ⟨h1,h2,ρ,m,h3,_⟩:=hs
 unfold Region.wanted
 rw[hg]
 simp only[yielded,hj,Option.bind_some,hdj]
 obtain ⟨v,hv,hc⟩:=h3 dj _ hv
 simp only[Cv] at hc;subst hc
 rw[hv];cases want<;>cases b<;>rfl

theorem Kp (ρ:Operand->Value) (o:Oper):execOp ρ { o with guard:=none }=execOp ρ o:=by
 obtain ⟨dst,op,ty,pos,after,guard⟩:=o
 cases op<;>rfl

theorem vu {ops:Array Oper} {o oj:Oper} {l:List Oper} {j dj:Nat} {want:Bool} (hg:o.guard=some (j,want)) (hj:ops[j]? = some oj) (hdj:oj.dst=some dj) (hv:get A dj=some (.bool want))
  (k:TL P Γ N ops Q ({ o with guard:=none }::l) A L):TL P Γ N ops Q (o::l) A L:=by
 intro a w hs
 have:=k a w hs
 have hw:Region.wanted o (yielded ops a.tmps)=true:=by rw[Qg hg hj hdj hv hs];cases want<;>rfl
 unfold wpList at this ⊢
 rw[if_pos hw]
 rw[if_pos (show Region.wanted { o with guard:=none } (yielded ops a.tmps)=true from rfl)] at this
 unfold Oper.wp Oper.asks at this ⊢
 rw[Kp] at this
 exact this
theorem H7 (x:MV) {ops:Array Oper} {o oj:Oper} {l:List Oper} {j dj d:Nat} {want:Bool} (hg:o.guard=some (j,want)) (hj:ops[j]? = some oj) (hdj:oj.dst=some dj) (hv:get A dj=some (.bool !want)) (hd:o.dst=some d) (hdN:d<N)
  (k:TL P Γ N ops Q l ((d,.cnd false x)::A) L):TL P Γ N ops Q (o::l) A L:=by
 intro a w hs
 refine wpList_step fun K hK=>?_
 rw[if_neg (by rw[Qg hg hj hdj hv hs];cases want<;>simp),hd]
 refine hK _ _ (k _ _ ?_)
 obtain ⟨h1,h2,ρ,m,h3,h4,h5,h6⟩:=hs
 refine ⟨by rw[xS];exact h1,by rw[jD];exact h2,ρ,m,fun s y hx=>?_,h4,h5,h6⟩
 have hc:Cv ρ m (.cnd false x) undef:=⟨fun e=>(by cases e),fun _=>rfl⟩
 exact xe (Mle.refl m) (ρ':=ρ) h3 (v:=undef) (x:=.cnd false x) (dst:=some d) (fun d' e=>by cases e;rw[h1];exact hdN) (fun _=>hc) (fun _ _ _ _ _=>rfl) s y hx
end
end
section

theorem sinj {α:Type} {a b:α} (h:some a=some b):b=a:=by cases h;rfl
theorem nsome {α:Type} {z:α} (h:(none:Option α)=some z):False:=by cases h
theorem ftf (h:false=true):False:=by cases h
theorem tff (h:true=false):False:=by cases h
def bfind (s:ByteArray) (c:Int):Int:=match (List.range s.size).find? fun i=>s[i]! == c.toNat.toUInt8 with
  | some i=>i
  | none=>-1
def bcount (s:ByteArray) (c:Int):Int:=(s.data.toList.count c.toNat.toUInt8:Nat)
def wA {α:Type} (f:α->α) (b:α):Nat->α
  | 0=>b
  | n+1=>f (wA f b n)

section
variable {P:Program} {Γ:Gd} {N:Nat} {Q:Exit->Act->World->Prop} {A A':List (Nat×MV)} {L L':List (Nat×Option MObj)}
theorem qr {c:Code} {α:Type} (p:α->Prop) (SA:α->List (Nat×MV)) (SL:α->List (Nat×Option MObj)) (h:TC P Γ N c (Exit.then (SP Γ N p SA SL) Q) A L) (h2:∀z,p z->TE Γ N (Q .normal) (SA z) (SL z)):TC P Γ N c Q A L:=fun a w hs =>
 wp_mono (h a w hs) fun e a w q=>by
  cases e with
  | normal=>obtain ⟨z,hz,hs⟩:=q;exact h2 z hz a w hs
  | _=>exact q
theorem Ym {R:Act->World->Prop} (l:List (Nat×Nat)) (hA:kB (sg l) A' A) (hL:kD (sg l) L' L) (hb:sgB l (wF L')=true) (h:TE Γ N R A' L'):TE Γ N R A L:=by
 simp only[sgB,Bool.and_eq_true] at hb
 exact fun a w hs=>h a w (hs.ren (sg l) hA hL (yO hb.2) (ZM hb.1))
end
end
section

def vd (π:Nat->Nat) (N:Nat) (dst:Option Nat) (g:Bool) (wk nk:List Nat) (Lc Lc':List (Nat×Option MObj)) (res:MV):Bool :=
  g&&(match dst with|some d=>decide (d<N)|none=>true)&&((wF Lc).all fun k=>(wF Lc').contains k)&&UQ π (wF Lc')&&Gf (wF Lc') res Lc' &&
    ((wF Lc').all fun k=>decide (k<1000)||(decide (1000<=π k)&&!(wF Lc).contains k&&nk.contains (π k)))&&(wF Lc').all fun k=>wk.contains (π k)

theorem Qd {P:Program} {Γ:Gd} {N:Nat} {Q:Exit->Act->World->Prop} {r:Rg} {vA:List (Nat×MV)} {vL:List (Nat×Option MObj)} {i:Nat} {o:Oper} {f:FuncId} {xs ys:List MV} {Lc Lc':List (Nat×Option MObj)} {res:MV} {C:Prop} (π:List (Nat×Nat)) (ho:r.ops[i]? = some o) (hF:Fn P f xs Lc res Lc')
  (h:j1 vA o.op=some (f,ys,C)) (hC:C) (hf:fnb P f=true) (hys:ys=MV.renL (sg π) xs) (hsub:vc (jf (sg π) Lc) vL) (hb:vd (sg π) N o.dst o.guard.isNone (r.wk i) (r.nk i) Lc Lc' res=true) :
  Wd P Γ N Q r vA vL (yF o.dst (res.ren (sg π)) [],jf (sg π) Lc') i/\De.ok r i (yF o.dst (res.ren (sg π)) [],jf (sg π) Lc'):=by
 simp only[vd,Bool.and_eq_true,List.all_eq_true,List.contains_iff_mem,Bool.or_eq_true,decide_eq_true_eq,Bool.not_eq_true',Option.isNone_iff_eq_none] at hb
 obtain ⟨⟨⟨⟨⟨⟨b1,b2⟩,b3⟩,b4⟩,b5⟩,b6⟩,b7⟩:=hb
 refine VA ho (sg π) hF h hC hf b1 hys (fun d e=>by rw[e] at b2;simpa using b2) hsub b3 (yO b4) (Q5 b5) (fun k hk hge=>?_) b7
 rcases b6 k hk with b|⟨⟨c1,c2⟩,c3⟩
 ·omega
 ·exact ⟨c1,fun e=>(by rw[List.contains_iff_mem.2 e] at c2;cases c2),c3⟩
end
section

def Qm (tab:Nat->Option TI) (N:Nat) (r:Rg) (vA:List (Nat×MV)) (vL:List (Nat×Option MObj)) (i:Nat):Option (De×Prop) :=
  match r.ops[i]? with
  | none=>none
  | some o=>match o.guard,o.dst with
    | none,some d=>if d<N then (match yc tab vA vL none o.op with
      | some (x,C)=>some (([(d,x)],[]),C)
      | none=>(match vm tab vA vL none (1000+d) o.op with
        | some (x,U,fr,C)=>if okB fr ((r.nk i).contains (1000+d)) x&&U.all (fun q=>(r.wk i).contains q.1) then some (([(d,x)],U),C) else none
        | none=>none)) else none
    | none,none=>(match vm tab vA vL none 1000 o.op with
      | some (_,U,fr,C)=>if !fr&&U.all (fun q=>(r.wk i).contains q.1) then some (([],U),C) else none
      | none=>none)
    | some (j,want),some d=>if d<N then (match (r.ops[j]?).bind (·.dst) with
      | some dj=>(match get vA dj with
        | some (.bool b)=>(match yc tab vA vL (some (if want then b else !b)) o.op with
          | some (x,C)=>some (([(d,.cnd (if want then b else !b) x)],[]),(if want then b else !b)=true->C)
          | none=>none)
        | some (.cnd t (.bool b))=>(match yc tab vA vL (some (t&&(if want then b else !b))) o.op with
          | some (x,C)=>some (([(d,.cnd (t&&(if want then b else !b)) x)],[]),(t&&(if want then b else !b))=true->C)
          | none=>none)
        | _=>none)
      | none=>none) else none
    | _,_=>none

theorem We {P:Program} (E:Env P) {Γ:Gd} {N:Nat} {Q:Exit->Act->World->Prop} {r:Rg} {vA:List (Nat×MV)} {vL:List (Nat×Option MObj)} {i:Nat} {δ:De} {C:Prop} (h:Qm E.tab N r vA vL i=some (δ,C)) (hC:C) :
  Wd P Γ N Q r vA vL δ i/\De.ok r i δ:=by
 unfold Qm at h
 split at h
 ·cases h
 rename_i o ho
 have hdst:=WE ho
 split at h
 ·rename_i d hg hd
  split at h
  case isFalse=>cases h
  rename_i hdN
  have one:∀(x:MV) (U:List (Nat×Option MObj)) (s:Nat),zq [(d,x)] s=true->r.dst i=some s:=fun x U s hs=>by
   simp only[zq,List.any_cons,List.any_nil,Bool.or_false,beq_iff_eq] at hs;subst hs;rw[hdst,hd]
  split at h
  ·rename_i x D hp
   simp only[Option.some.injEq,Prod.mk.injEq] at h;obtain ⟨rfl,rfl⟩:=h
   refine ⟨fun Af Lf a w hA hL _ hs K hK=>y9 ho hg (Oper.wp_mono (fun a1 w1 hs1=>hK a1 w1 ?_) (ZD E hA hL hp hC (fun d' e=>by rw[hd] at e;cases e;exact hdN) hs Q)),one x [],fun k hk=>by simp[zq] at hk⟩
   rw[hd] at hs1
   simp only[xf];exact hs1
  ·split at h
   ·rename_i x U fr D hp
    split at h
    ·rename_i hc
     simp only[Bool.and_eq_true] at hc
     simp only[Option.some.injEq,Prod.mk.injEq] at h;obtain ⟨rfl,rfl⟩:=h
     have hnk:fr=true->1000+d∈r.nk i:=fun e=>by simpa using U4 hc.1 e
     refine ⟨fun Af Lf a w hA hL hf hs K hK=>y9 ho hg (Oper.wp_mono (fun a1 w1 hs1=>hK a1 w1 ?_) (yY E hA hL hp hC (fun d' e=>by rw[hd] at e;cases e;exact hdN) (fun e=>.inr (uf hc.1 e)) (fun _=>by omega) (fun e k o hk _=>((hf _ (hnk e)).2 k o hk).1) (fun e=>(hf _ (hnk e)).1) hs Q)),one x U,Wc hc.2⟩
     rw[hd] at hs1
     simp only[xf];exact hs1
    ·cases h
   ·cases h
 ·rename_i hg hd
  split at h
  ·rename_i x U fr D hp
   split at h
   ·rename_i hc
    simp only[Bool.and_eq_true,Bool.not_eq_true'] at hc
    simp only[Option.some.injEq,Prod.mk.injEq] at h;obtain ⟨rfl,rfl⟩:=h
    refine ⟨fun Af Lf a w hA hL hf hs K hK=>y9 ho hg (Oper.wp_mono (fun a1 w1 hs1=>hK a1 w1 ?_) (yY E hA hL hp hC (fun d' e=>by rw[hd] at e;cases e) (fun _=>.inl hd) (fun e=>by rw[hc.1] at e;cases e) (fun e=>by rw[hc.1] at e;cases e) (fun e=>by rw[hc.1] at e;cases e) hs Q)),fun s hs=>by simp[zq] at hs,Wc hc.2⟩
    rw[hd] at hs1
    simp only[vE];exact hs1
   ·cases h
  ·cases h
 ·rename_i j want d hg hd
  split at h
  case isFalse=>cases h
  rename_i hdN
  have one:∀(x:MV) (s:Nat),zq [(d,x)] s=true->r.dst i=some s:=fun x s hs=>by
   simp only[zq,List.any_cons,List.any_nil,Bool.or_false,beq_iff_eq] at hs;subst hs;rw[hdst,hd]
  split at h
  ·rename_i dj hdj
   obtain ⟨oj,hoj,hdj'⟩:=Option.bind_eq_some_iff.1 hdj
   have fin:∀(g:Bool) (x:MV) (D:Prop),(∀(Af:Nat->Option MV) (Lf:Nat->Option MObj),(∀s x,get vA s=some x->Af s=some x)->(∀k o,ww vL k=some o->Lf k=some o)->∀a w,Sat Γ N Af Lf a w->∀K:Act->World->Prop,
     (∀a w,Sat Γ N (vq (some d) (.cnd g x) Af) Lf a w->K a w)->if Region.wanted o (yielded r.ops a.tmps) then o.wp P a w K Q else K (a.put o.dst undef) w)->Wd P Γ N Q r vA vL ([(d,.cnd g x)],[]) i:=by
    intro g x D hh Af Lf a w hA hL _ hs K hK
    have:=hh Af Lf hA hL a w hs K (fun a1 w1 hs1=>hK a1 w1 (by simp only[xf];exact hs1))
    unfold wpOp
    rw[ho];simp only
    split
    ·rename_i hw;rw[if_pos hw] at this;exact .inl this
    ·rename_i hw;rw[if_neg hw] at this;exact this
   split at h
   ·rename_i b hb
    split at h
    ·rename_i x D hp
     simp only[Option.some.injEq,Prod.mk.injEq] at h;obtain ⟨rfl,rfl⟩:=h
     exact ⟨fin _ x D (fun Af Lf hA hL a w hs K hK=>vK E hA hL hg hoj hdj' (.inl ⟨b,hb,rfl⟩) hp hC hd hdN hs Q K hK),one _,fun k hk=>by simp[zq] at hk⟩
    ·cases h
   ·rename_i t b hb
    split at h
    ·rename_i x D hp
     simp only[Option.some.injEq,Prod.mk.injEq] at h;obtain ⟨rfl,rfl⟩:=h
     exact ⟨fin _ x D (fun Af Lf hA hL a w hs K hK=>vK E hA hL hg hoj hdj' (.inr ⟨t,b,hb,rfl⟩) hp hC hd hdN hs Q K hK),one _,fun k hk=>by simp[zq] at hk⟩
    ·cases h
   ·cases h
  ·cases h
 ·cases h


def fnR (n:Nat) (l:List De) (j:Nat):De:=if j<n then l.getD (n-1-j) ([],[]) else ([],[])
theorem ZB (l:List De):fnR l.length l=jI l.reverse:=by
 funext j
 unfold fnR jI
 split
 ·rename_i h
  rw[List.getD_eq_getElem?_getD,List.getD_eq_getElem?_getD,List.getElem?_reverse h]
 ·rename_i h
  rw[List.getD_eq_getElem?_getD,List.getElem?_eq_none (by simpa using h)];rfl

def jB (r:Rg) (ds:Nat->De) (A:List (Nat×MV)) (i:Nat):List (Nat×MV):=((r.pre i).flatMap fun j=>(ds j).1)++(match r.ea i with|[]=>A|e=>A.filter fun q=>!(e.contains q.1))
def yn (r:Rg) (ex:Nat->List Nat) (ds:Nat->De) (L:List (Nat×Option MObj)) (i:Nat):List (Nat×Option MObj):=(((r.pre i).flatMap fun j=>(ds j).2)++L).filter fun q=>!((ex i).contains q.1)
def exB (r:Rg) (ex:Nat->List Nat) (A:List (Nat×MV)):Bool:=(A.all fun q=>(List.range r.ops.size).all fun j=>!(r.dst j==some q.1)||(List.range r.ops.size).all fun i=>!(r.unord i j)||(r.ea i).contains q.1)&&(List.range r.ops.size).all fun i=>(List.range r.ops.size).all fun j=>!(r.unord i j)||(r.wk j).all fun k=>(ex i).contains k

theorem H2 {r:Rg} {ex:Nat->List Nat} {A:List (Nat×MV)} (h:exB r ex A=true) {i:Nat} (hi:i<r.ops.size) {s:Nat} {x:MV} (hs:(s,x)∈A) (hu:r.uisd i s=true):(r.ea i).contains s=true:=by
 simp only[exB,Bool.and_eq_true] at h
 have h1:=List.all_eq_true.1 h.1 _ hs
 simp only[Rg.uisd,List.any_eq_true,Bool.and_eq_true] at hu
 obtain ⟨j,hj,hu1,hu2⟩:=hu
 have h2:=List.all_eq_true.1 h1 j hj
 rw[hu2] at h2
 simp only[Bool.not_true,Bool.false_or] at h2
 have h3:=List.all_eq_true.1 h2 i (List.mem_range.2 hi)
 rw[hu1] at h3
 simpa using h3
theorem Zm {A B:List (Nat×MV)} (h:∀s x,get A s=some x->get B s=some x):∀(l:List (Nat×MV)) {s:Nat} {x:MV},get (l++A) s=some x->get (l++B) s=some x
 | [],s,x,e=>h s x e
 | (k,v)::l,s,x,e=>by
  simp only[List.cons_append,get] at e ⊢
  split
  ·rename_i c;rw[if_pos c] at e;exact e
  ·rename_i c;rw[if_neg c] at e;exact Zm h l e
theorem Gn {A:List (Nat×MV)} {s:Nat} {x:MV} (h:get A s=some x):(s,x)∈A:=by
 induction A with
 | nil=>cases h
 | cons q l ih =>
  obtain ⟨k,v⟩:=q
  simp only[get] at h
  split at h
  ·rename_i c
   have:=beq_iff_eq.1 c;subst this
   simp only[Option.some.injEq] at h;subst h
   exact List.mem_cons_self ..
  ·exact List.mem_cons_of_mem _ (ih h)
theorem Qb {r:Rg} {ex:Nat->List Nat} {A:List (Nat×MV)} (h:exB r ex A=true) {i:Nat} (hi:i<r.ops.size) {ds:Nat->De} {s:Nat} {x:MV} (hs:get (jB r ds A i) s=some x):get (yB r ds A i) s=some x:=by
 unfold jB at hs
 unfold yB
 refine Zm (fun s x hg=>?_) _ hs
 have key:get A s=some x->(r.ea i).contains s=false->get (A.filter fun q=>!(r.uisd i q.1)) s=some x:=fun hg hne=>by
  rw[v7 (p:=fun k=>!(r.uisd i k)) (by
   cases hu:r.uisd i s with
   | false=>rfl
   | true=>rw[H2 h hi (Gn hg) hu] at hne;cases hne)]
  exact hg
 split at hg
 ·rename_i he;exact key hg (by rw[he];rfl)
 ·rename_i e he
  cases hc:(r.ea i).contains s with
  | true=>rw[vn (p:=fun k=>!((r.ea i).contains k)) (by simp only[hc];rfl)] at hg;cases hg
  | false =>
   rw[v7 (p:=fun k=>!((r.ea i).contains k)) (by simp only[hc];rfl)] at hg
   exact key hg hc
theorem HS {r:Rg} {ex:Nat->List Nat} {A:List (Nat×MV)} (h:exB r ex A=true) {i k:Nat} (hi:i<r.ops.size) (he:r.excl i k=true):(ex i).contains k=true:=by
 simp only[exB,Bool.and_eq_true] at h
 have h2:=List.all_eq_true.1 h.2 i (List.mem_range.2 hi)
 simp only[Rg.excl,List.any_eq_true,Bool.and_eq_true] at he
 obtain ⟨j,hj,hu,hk⟩:=he
 have h3:=List.all_eq_true.1 h2 j hj
 rw[hu] at h3
 simp only[Bool.not_true,Bool.false_or] at h3
 exact List.all_eq_true.1 h3 k (by simpa using hk)

section
variable {P:Program} {Γ:Gd} {N:Nat} {Q:Exit->Act->World->Prop} {A:List (Nat×MV)} {L:List (Nat×Option MObj)} {r:Rg} {G:Prop}

def AJR (P:Program) (Γ:Gd) (N:Nat) (Q:Exit->Act->World->Prop) (r:Rg) (ex:Nat->List Nat) (A:List (Nat×MV)) (L:List (Nat×Option MObj)) (G:Prop) (n:Nat) (l:List De):Prop :=
  r.ok=true->exB r ex A=true->l.length=n->AJ P Γ N Q r A L G l.reverse

theorem yD {ex:Nat->List Nat} {l:List De} {n:Nat} {δ:De} (hn:n<r.ops.size) (h:Wd P Γ N Q r (jB r (fnR n l) A n) (yn r ex (fnR n l) L n) δ n/\De.ok r n δ) (k:AJR P Γ N Q r ex A L G (n+1) (δ::l)):AJR P Γ N Q r ex A L G n l:=by
 intro hr hx hl
 have k':=k hr hx (by simp[hl])
 rw[List.reverse_cons] at k'
 subst hl
 rw[ZB] at h
 have hlen:l.reverse.length=l.length:=List.length_reverse
 refine uM hr (by rw[hlen];exact hn) ?_ k'
 rw[hlen]
 refine ⟨fun Af Lf a w hA hL=>h.1 Af Lf a w (fun s x hs=>hA s x ?_) (fun q o hq=>hL q o ?_),h.2⟩
 ·exact Qb hx hn hs
 ·unfold yn at hq
  unfold yZ
  cases he:(ex l.length).contains q with
  | true=>rw[yU (p:=fun q=>!((ex l.length).contains q)) (by simp only[he];rfl)] at hq;cases hq
  | false =>
   rw[vr (p:=fun q=>!((ex l.length).contains q)) (by simp only[he];rfl)] at hq
   rw[vr (p:=fun q=>!(r.excl l.length q)) (by
    cases hc:r.excl l.length q with
    | true=>rw[HS hx hn hc] at he;cases he
    | false=>rfl)]
   exact hq

theorem YK {ex:Nat->List Nat} {l:List De} {n:Nat} {δ:De} {key off:Nat} {cs0:List MV} (hn:n<r.ops.size) (hkp:r.kp.contains (n,key,off)=true) (hL0:ww L key=some (.cells cs0))
  (h:∀cs,cs[off]? = cs0[off]?->Wd P Γ N Q r (jB r (fnR n l) A n) [(key,some (.cells cs))] δ n) (ho:De.ok r n δ) (k:AJR P Γ N Q r ex A L G (n+1) (δ::l)):AJR P Γ N Q r ex A L G n l:=by
 intro hr hx hl
 have k':=k hr hx (by simp[hl])
 rw[List.reverse_cons] at k'
 subst hl
 rw[ZB] at h
 have hlen:l.reverse.length=l.length:=List.length_reverse
 refine K6 hr (by rw[hlen];exact hn) ?_ k'
 rw[hlen]
 refine ⟨fun Af Lf a w hA hL hf hK=>?_,ho⟩
 obtain ⟨cs,h1,h2⟩:=hK _ (List.contains_iff_mem.1 hkp) rfl cs0 hL0
 refine h cs h2 Af Lf a w (fun s x hs=>hA s x (Qb hx hn hs)) (fun q o hq=>?_) hf
 simp only[ww] at hq
 split at hq
 ·rename_i e
  have:=beq_iff_eq.1 e
  rw[<-this,h1];exact hq
 ·cases hq
theorem uV (E:Env P) {ex:Nat->List Nat} {l:List De} {n:Nat} {T:TypeId} {x:Operand} {i:TI} {d key off:Nat} {cs0:List MV} {y:MV} {C:Prop} {o:Oper} (n':Nat) (hn':n'=n+1) (hn:n<r.ops.size) (ho:r.ops[n]? = some o) (hop:o.op=.load T x) (hg:o.guard=none) (hd:o.dst=some d) (hdN:d<N)
  (ht:E.tab T=some i) (hs:i.size=1) (ha:i.agg=false) (hx:opg (jB r (fnR n l) A n) none x=some (.p key off,C)) (hC:C) (hL0:ww L key=some (.cells cs0)) (hy:cs0[off]? = some y) (hkp:r.kp.contains (n,key,off)=true) (k:AJR P Γ N Q r ex A L G n' (([(d,y)],[])::l)):AJR P Γ N Q r ex A L G n l:=by
 subst hn'
 have hlen:∀cs:List MV,cs[off]? = cs0[off]?->off<cs.length/\(cs.drop off).take 1=[y]:=fun cs hcs=>by
  rw[hy] at hcs
  obtain ⟨hlt,he⟩:=List.getElem?_eq_some_iff.1 hcs
  exact ⟨hlt,by rw[List.drop_eq_getElem_cons hlt,he];rfl⟩
 have hev:∀cs:List MV,cs[off]? = cs0[off]?->Qm E.tab N r (jB r (fnR n l) A n) [(key,some (.cells cs))] n=some (([(d,y)],[]),C/\True):=fun cs hcs=>by
  obtain ⟨h1,h2⟩:=hlen cs hcs
  have hp:yc E.tab (jB r (fnR n l) A n) [(key,some (.cells cs))] none o.op=some (y,C/\True):=by
   rw[hop]
   simp only[yc,ht,hx,Qu,ww,beq_self_eq_true,if_true,hs,ha]
   rw[if_pos (decide_eq_true (Nat.succ_le_of_lt h1)),h2]
   rfl
  unfold Qm
  rw[ho];simp only[hg,hd,if_pos hdN,hp]
 refine YK hn hkp hL0 (fun cs hcs=>(We E (hev cs hcs) ⟨hC,trivial⟩).1) ?_ k
 exact (We E (hev cs0 rfl) ⟨hC,trivial⟩ (Γ:=Γ) (Q:=Q)).2

theorem xC (E:Env P) {ex:Nat->List Nat} {l:List De} {n:Nat} {δ:De} {C:Prop} (n':Nat) (hn':n'=n+1) (hn:n<r.ops.size) (h:Qm E.tab N r (jB r (fnR n l) A n) (yn r ex (fnR n l) L n) n=some (δ,C)) (hC:C) (k:AJR P Γ N Q r ex A L G n' (δ::l)):AJR P Γ N Q r ex A L G n l:=by
 subst hn';exact yD hn (We E h hC) k

theorem UN {ex:Nat->List Nat} {l:List De} {n:Nat} {o:Oper} {f:FuncId} {xs ys:List MV} {Lc Lc':List (Nat×Option MObj)} {res:MV} {C:Prop} (n':Nat) (hn':n'=n+1) (hn:n<r.ops.size) (π:List (Nat×Nat)) (ho:r.ops[n]? = some o) (hF:Fn P f xs Lc res Lc') (hf:fnb P f=true)
  (h:j1 (jB r (fnR n l) A n) o.op=some (f,ys,C)) (hC:C) (hys:ys=MV.renL (sg π) xs) (hsub:vc (jf (sg π) Lc) (yn r ex (fnR n l) L n)) (hb:vd (sg π) N o.dst o.guard.isNone (r.wk n) (r.nk n) Lc Lc' res=true)
  (k:AJR P Γ N Q r ex A L G n' ((yF o.dst (res.ren (sg π)) [],jf (sg π) Lc')::l)):AJR P Γ N Q r ex A L G n l:=by
 subst hn';exact yD hn (Qd π ho hF h hC hf hys hsub hb) k

def frR (r:Rg) (n:Nat) (l:List De) (A:List (Nat×MV)) (L:List (Nat×Option MObj)):Bool :=
  (List.range n).all fun i=>(r.nk i).all fun kd=>jX kd A&&jW kd L&&(List.range n).all fun j=>j==i||(r.pre j).contains i||(jX kd (fnR n l j).1&&jW kd (fnR n l j).2)

def kpL (r:Rg) (n:Nat) (ds:Nat->De):List (Nat×Nat×Nat):=r.kp.flatMap fun q=>(List.range n).filterMap fun j=>if ((r.pre q.1).contains j||r.unord q.1 j)&&zq (ds j).2 q.2.1 then some (j,q.2.1,q.2.2) else none
def kp1 (ds:Nat->De) (L:List (Nat×Option MObj)):List (Nat×Nat×Nat)->Prop
  | []=>True
  | (j,k,c)::l=>(match ww (ds j).2 k,ww L k with|some (.cells cs),some (.cells cs0)=>cs[c]? = cs0[c]?|_,_=>False)/\kp1 ds L l
theorem US {ds:Nat->De} {L:List (Nat×Option MObj)}:∀{l:List (Nat×Nat×Nat)},kp1 ds L l->∀q∈l,∀cs0,ww L q.2.1=some (.cells cs0)->∃cs,ww (ds q.1).2 q.2.1=some (.cells cs)/\cs[q.2.2]? = cs0[q.2.2]?
 | [],_,q,hq=>by cases hq
 | (j,k,c)::l,⟨h1,h2⟩,q,hq=>by
  rcases List.mem_cons.1 hq with rfl|hq
  ·intro cs0 h0
   simp only at h0 h1 ⊢
   rw[h0] at h1
   split at h1
   ·rename_i cs cs0' e1 e2
    simp only[Option.some.injEq,MObj.cells.injEq] at e2;subst e2
    exact ⟨cs,e1,h1⟩
   ·exact h1.elim
  ·exact US h2 q hq
theorem gM {r:Rg} {n:Nat} {ds:Nat->De} {L:List (Nat×Option MObj)} (h:kp1 ds L (kpL r n ds)):∀q∈r.kp,∀j,j<n->(j∈r.pre q.1\/r.unord q.1 j=true)->zq (ds j).2 q.2.1=true->∀cs0,ww L q.2.1=some (.cells cs0)->∃cs,ww (ds j).2 q.2.1=some (.cells cs)/\cs[q.2.2]? = cs0[q.2.2]?:=by
 intro q hq j hj hu hk
 refine US h (j,q.2.1,q.2.2) ?_
 unfold kpL
 rw[List.mem_flatMap]
 refine ⟨q,hq,?_⟩
 rw[List.mem_filterMap]
 refine ⟨j,List.mem_range.2 hj,?_⟩
 have:((r.pre q.1).contains j||r.unord q.1 j)=true:=by
  rcases hu with hu|hu
  ·rw[List.contains_iff_mem.2 hu];rfl
  ·rw[hu,Bool.or_true]
 rw[this,hk];rfl

theorem uN (hm:P.follows .mixedOrders=true) {ex:Nat->List Nat} {id n:Nat} {l:List De} (hl:r.ops.size=n) (hf:frR r n l A L=true) (hk:kp1 (fnR n l) L (kpL r n (fnR n l)))
  (fin:TE Γ N (Q .normal) (Kq n (fnR n l) A) (KW n (fnR n l) L)):AJR P Γ N Q r ex A L (TC P Γ N (.region id r.ops true) Q A L) n l:=by
 intro hr _ hn
 subst hn
 rw[ZB] at fin
 have hlen:l.reverse.length=l.length:=List.length_reverse
 refine gW hm hr (by rw[hlen,hl]) ?_ (by rw[<-ZB,hl];exact gM hk) (by rw[hl];exact fin)
 unfold frR at hf
 rw[ZB] at hf
 unfold frB
 rw[hl];exact hf

theorem KP (r:Rg) (ex:Nat->List Nat) {id:Nat} (hr:r.ok=true) (hx:exB r ex A=true) (h:AJR P Γ N Q r ex A L (TC P Γ N (.region id r.ops true) Q A L) 0 []):TC P Γ N (.region id r.ops true) Q A L :=
 uI r (h hr hx rfl)
end
end
section
open Go.RowKit

theorem gc {W:World} {b:Nat} (h:¬b<W.heap.size):W.heap[b]? = none:=Array.getElem?_eq_none (by omega)

section
variable {H:Type} {enc:TypeId×Value->H} {P:Program}

structure Old (W W':World):Prop where
  heap:∀b,b<W.heap.size->W'.heap[b]? = W.heap[b]?
  size:W.heap.size<=W'.heap.size
  os:W'.os=W.os
  out:W'.output=W.output

theorem Old.kept {W W':World} (h:Old W W') (may:MemPlace->Prop):W.keptBut W' may:=by
 refine ⟨h.os,h.out,fun i hi=>?_⟩
 rw[h.heap i hi]
 cases W.heap[i]? with
 | none=>rfl
 | some o=>cases o with
  | cells c t fr=>exact ⟨rfl,rfl,rfl,fun _ _=>rfl⟩
  | map es clock=>exact .inr ⟨rfl,rfl⟩
  | _=>rfl
theorem Old.same {W W':World} (h:Old W W') {p:MemPlace} (hp:p.block<W.heap.size):W.sameAt W' p:=by
 cases p with
 | cell b off =>
  show W'.cell? ⟨b,off,none⟩=W.cell? ⟨b,off,none⟩
  unfold World.cell?
  rw[h.heap b hp]
 | map b=>exact h.heap b hp
theorem Old.frozen {W W':World} (h:Old W W') {a:Addr} (ha:a.block<W.heap.size):W'.frozen? a=W.frozen? a:=by
 unfold World.frozen?
 rw[h.heap _ ha]

theorem Ku {W W':World} (h:Old W W'):∀{ts:List TypeId} {vs:List Value} {ds:List (DataW H)} {ps:List MemPlace},DataW.TrodAll enc P W 0 (fun _=>true) true ts vs ds ps->DataW.TrodAll enc P W' 0 (fun _=>true) true ts vs ds ps
 | [],[],[],_,k=>k
 | _::_,_::_,_::_,_,⟨p,q,⟨n,h1⟩,h2,e⟩=>⟨p,q,⟨n,DataW.trod_carry n _ _ _ h1 (fun x hx=>h.same (DataW.TrodAll.lt (enc:=enc) (P:=P) (ts:=[_]) (vs:=[_]) (ds:=[_]) ⟨p,[],⟨n,h1⟩,rfl,by simp⟩ x hx))⟩,Ku h h2,e⟩

theorem law_post {fn:Func} {s:ChangeSpec} {apart fresh handsOn again:Bool} {W W':World} {args:Array Value} {ds gs:List (DataW H)} {before:List MemPlace} {tb:TypeId}
  (hK:Kids P (·<P.types.size)) (hz:∀t e,t<P.types.size->P.underlying t=some (.slice e)->0<P.cellsOf e) (hts:∀t∈fn.params.toList,t<P.types.size)
  (hW:DataW.Whole enc P fn.params.toList s.vars apart W args.toList ds gs before) (hv:s.vars=[]) (hfn:s.fn H (ds++gs)={ results:=[.lit (.bool true)],args:=ds })
  (hres:fn.resultTypes=#[tb]) (hb:P.underlying tb=some .bool) (ho:Old W W'):s.post enc P fn apart fresh handsOn again W args (.bool true) W':=by
 have hW':=hW
 obtain ⟨pa,pv,hA,hV,hps,hnf,hnd⟩:=hW'
 rw[hv] at hV
 have hg:gs=[]/\pv=[]:=by
  cases gs with
  | nil=>exact ⟨rfl,hV⟩
  | cons g gs=>exact hV.elim
 obtain ⟨rfl,rfl⟩:=hg
 rw[List.append_nil] at hps
 subst hps
 have hlt:∀p∈before,p.block<W.heap.size:=fun p hp=>hW.lt p hp
 have hold:∀p∈before,(fun b=>decide (b<W.heap.size)) p.block=true:=fun p hp=>by simpa using hlt p hp
 have hr:(Value.bool true).resultList fn.resultTypes.size=[.bool true]:=by rw[hres];rfl
 have hres1:∀(b:Nat) (sp:Nat->Bool) (hd:Bool),DataW.TrodAll enc P W' b sp hd fn.resultTypes.toList ((Value.bool true).resultList fn.resultTypes.size) (s.fn H (ds++[])).results []:=fun b sp hd=>by
  rw[hr,hfn,hres];exact ChangeShapes.trodAll_mk1 (shut_bool hb true)
 have hargs:∀sp:Nat->Bool,(∀p∈before,sp p.block=true)->DataW.TrodAll enc P W' 0 sp true fn.params.toList args.toList (s.fn H (ds++[])).args before:=fun sp hsp=>by
  rw[hfn];exact DataW.TrodAll.respare hK hz hts (Ku ho hA) hsp
 have hvars:∀sp:Nat->Bool,DataW.TrodVars enc P W' sp s.vars (s.fn H (ds++[])).vars []:=fun sp=>by rw[hv,hfn];rfl
 have hall:∀p,p∈([]++before)++([]:List MemPlace)↔p∈before:=fun p=>by simp
 refine ⟨ds,[],before,[],before,[],hW,hres1 _ _ _,hargs _ hold,hvars _,ho.kept _,fun _=>⟨ok_one hres rfl (okWide_bool_mk hb true),_,_,([]++before)++[],
  ⟨[]++before,[],ChangeShapes.trodAll_append (hargs _ (fun _ _=>rfl)) (hres1 _ _ _),hvars _,rfl,fun b off hp=>?_,fun ha=>?_⟩,fun p hp _=>(hall p).1 hp⟩⟩
 ·have hm:=(hall _).1 hp
  rw[ho.frozen (hlt _ hm)]
  exact hnf b off hm
 ·have:=hnd ha
  simpa using this

theorem law_calls {f:FuncId} {xs:List MV} (hF:Fn P f xs [] (.bool true) []) (W:World) (args:Array Value) (hv:CvL (fun _=>⟨0,0,0,false,0⟩) (fun b=>if b<W.heap.size then W.heap[b]? else none) xs args.toList) :
  Calls P f args W fun e W'=>e=.returned (.bool true)/\Old W W':=by
 have:=hF (fun b=>b<W.heap.size) (fun _=>⟨0,0,0,false,0⟩) (fun b=>if b<W.heap.size then W.heap[b]? else none) W args.toList ⟨fun b o ho=>?_,fun k o hk=>by simp[ww] at hk,fun k o _ _ _ hk=>by simp[ww] at hk,fun k o _ hk=>by simp[ww] at hk,fun k o _ hk=>by simp[ww] at hk,fun b hb=>hb,fun k o _ hk=>by simp[ww] at hk⟩ hv
 ·refine Calls.mono (by simpa using this) ?_
  rintro e W' ⟨ρ',m',v,rfl,hc,_,hN,_⟩
  simp only[Cv] at hc
  subst hc
  exact ⟨rfl,⟨hN.un,hN.size,hN.os,hN.out⟩⟩
 ·split at ho
  ·exact ho
  ·cases ho
end
end
section

theorem jj {α:Type} {b:Bool} {x y:Option α} {r:α} {G:Prop} (h:(bif b then x else y)=some r) (ht:b=true->x=some r->G) (hf:b=false->y=some r->G):G:=by
 cases b with
 | true=>exact ht rfl h
 | false=>exact hf rfl h

def Yc (tab:Nat->Option TI) (N:Nat) (wk nk:List Nat) (o:Oper) (vA:List (Nat×MV)) (vL:List (Nat×Option MObj)):Option (De×Prop) :=
  match o.dst with
  | some d=>if d<N then (match yc tab vA vL none o.op with
    | some (x,C)=>some (([(d,x)],[]),C)
    | none=>(match vm tab vA vL none (1000+d) o.op with
      | some (x,U,fr,C)=>if okB fr (nk.contains (1000+d)) x&&U.all (fun q=>wk.contains q.1) then some (([(d,x)],U),C) else none
      | none=>none)) else none
  | none=>(match vm tab vA vL none 1000 o.op with
    | some (_,U,fr,C)=>if !fr&&U.all (fun q=>wk.contains q.1) then some (([],U),C) else none
    | none=>none)

section
variable {P:Program} {Γ:Gd} {N:Nat} {Q:Exit->Act->World->Prop} {r:Rg}

theorem vF {i j dj:Nat} {o oj:Oper} {want b:Bool} (h:r.ops[i]? = some o) (hg:o.guard=some (j,want)) (hj:r.ops[j]? = some oj) (hdj:oj.dst=some dj) {vA:List (Nat×MV)} (hv:get vA dj=some (.bool b)) (hb:b=want)
  {Af:Nat->Option MV} {Lf:Nat->Option MObj} {a:Act} {w:World} (hA:∀s x,get vA s=some x->Af s=some x) (hs:Sat Γ N Af Lf a w) {K:Act->World->Prop} (hw:o.wp P a w K Q):wpOp P r.ops Q i K a w:=by
 subst hb
 obtain ⟨h1,h2,ρ,m,h3,_⟩:=hs
 obtain ⟨v,hv',hc⟩:=h3 dj _ (hA _ _ hv)
 simp only[Cv] at hc;subst hc
 unfold wpOp
 rw[h]
 have:Region.wanted o (yielded r.ops a.tmps)=true:=by
  unfold Region.wanted
  rw[hg]
  simp only[yielded,hj,Option.bind_some,hdj]
  rw[hv'];cases b<;>rfl
 simp only[this,if_true]
 exact .inl hw

theorem KU (E:Env P) {vA:List (Nat×MV)} {vL:List (Nat×Option MObj)} {i j dj:Nat} {o oj:Oper} {want b:Bool} {δ:De} {C:Prop} (ho:r.ops[i]? = some o) (hg:o.guard=some (j,want)) (hj:r.ops[j]? = some oj) (hdj:oj.dst=some dj) (hv:get vA dj=some (.bool b)) (hb:b=want)
  (h:Yc E.tab N (r.wk i) (r.nk i) o vA vL=some (δ,C)) (hC:C):Wd P Γ N Q r vA vL δ i/\De.ok r i δ:=by
 have hdst:=WE ho
 unfold Yc at h
 split at h
 ·rename_i d hd
  split at h
  case isFalse=>cases h
  rename_i hdN
  have one:∀(x:MV) (s:Nat),zq [(d,x)] s=true->r.dst i=some s:=fun x s hs=>by
   simp only[zq,List.any_cons,List.any_nil,Bool.or_false,beq_iff_eq] at hs;subst hs;rw[hdst,hd]
  split at h
  ·rename_i x D hp
   simp only[Option.some.injEq,Prod.mk.injEq] at h;obtain ⟨rfl,rfl⟩:=h
   refine ⟨fun Af Lf a w hA hL _ hs K hK=>vF ho hg hj hdj hv hb hA hs (Oper.wp_mono (fun a1 w1 hs1=>hK a1 w1 ?_) (ZD E hA hL hp hC (fun d' e=>by rw[hd] at e;cases e;exact hdN) hs Q)),one x,fun k hk=>by simp[zq] at hk⟩
   rw[hd] at hs1
   simp only[xf];exact hs1
  ·split at h
   ·rename_i x U fr D hp
    split at h
    ·rename_i hc
     simp only[Bool.and_eq_true] at hc
     simp only[Option.some.injEq,Prod.mk.injEq] at h;obtain ⟨rfl,rfl⟩:=h
     have hnk:fr=true->1000+d∈r.nk i:=fun e=>by simpa using U4 hc.1 e
     refine ⟨fun Af Lf a w hA hL hf hs K hK=>vF ho hg hj hdj hv hb hA hs (Oper.wp_mono (fun a1 w1 hs1=>hK a1 w1 ?_) (yY E hA hL hp hC (fun d' e=>by rw[hd] at e;cases e;exact hdN) (fun e=>.inr (uf hc.1 e)) (fun _=>by omega) (fun e k o hk _=>((hf _ (hnk e)).2 k o hk).1) (fun e=>(hf _ (hnk e)).1) hs Q)),one x,Wc hc.2⟩
     rw[hd] at hs1
     simp only[xf];exact hs1
    ·cases h
   ·cases h
 ·rename_i hd
  split at h
  ·rename_i x U fr D hp
   split at h
   ·rename_i hc
    simp only[Bool.and_eq_true,Bool.not_eq_true'] at hc
    simp only[Option.some.injEq,Prod.mk.injEq] at h;obtain ⟨rfl,rfl⟩:=h
    refine ⟨fun Af Lf a w hA hL hf hs K hK=>vF ho hg hj hdj hv hb hA hs (Oper.wp_mono (fun a1 w1 hs1=>hK a1 w1 ?_) (yY E hA hL hp hC (fun d' e=>by rw[hd] at e;cases e) (fun _=>.inl hd) (fun e=>by rw[hc.1] at e;cases e) (fun e=>by rw[hc.1] at e;cases e) (fun e=>by rw[hc.1] at e;cases e) hs Q)),fun s hs=>by simp[zq] at hs,Wc hc.2⟩
    rw[hd] at hs1
    simp only[vE];exact hs1
   ·cases h
  ·cases h

theorem KM {vA:List (Nat×MV)} {vL:List (Nat×Option MObj)} {i j dj:Nat} {o oj:Oper} {want b:Bool} {f:FuncId} {xs ys:List MV} {Lc Lc':List (Nat×Option MObj)} {res:MV} {C:Prop} (π:List (Nat×Nat)) (ho:r.ops[i]? = some o) (hg:o.guard=some (j,want)) (hj:r.ops[j]? = some oj) (hdj:oj.dst=some dj) (hv:get vA dj=some (.bool b)) (hb:b=want)
  (hF:Fn P f xs Lc res Lc') (h:j1 vA o.op=some (f,ys,C)) (hC:C) (hf:fnb P f=true) (hys:ys=MV.renL (sg π) xs) (hsub:vc (jf (sg π) Lc) vL) (hc:vd (sg π) N o.dst true (r.wk i) (r.nk i) Lc Lc' res=true) :
  Wd P Γ N Q r vA vL (yF o.dst (res.ren (sg π)) [],jf (sg π) Lc') i/\De.ok r i (yF o.dst (res.ren (sg π)) [],jf (sg π) Lc'):=by
 simp only[vd,Bool.and_eq_true,List.all_eq_true,List.contains_iff_mem,Bool.or_eq_true,decide_eq_true_eq,Bool.not_eq_true',true_and] at hc
 obtain ⟨⟨⟨⟨⟨b2,b3⟩,b4⟩,b5⟩,b6⟩,b7⟩:=hc
 have hd:∀d,o.dst=some d->d<N:=fun d e=>by rw[e] at b2;simpa using b2
 have hnew:∀k∈wF Lc',1000<=k->1000<=sg π k/\k ∉ wF Lc/\sg π k∈r.nk i:=fun k hk hge=>by
  rcases b6 k hk with b|⟨⟨c1,c2⟩,c3⟩
  ·omega
  ·exact ⟨c1,fun e=>(by rw[List.contains_iff_mem.2 e] at c2;cases c2),c3⟩
 refine ⟨fun Af Lf a w hA hL hf2 hs K hK=>vF ho hg hj hdj hv hb hA hs (Oper.wp_mono (fun a1 w1 hs1=>hK a1 w1 ?_) (vZ hA hF h hC hf (sg π) hys (fun k oc hk=>hL _ _ (hsub.get _ _ (Zt (fun a ha b hb=>yO b4 a (b3 a ha) b (b3 b hb)) k oc hk))) b3 (yO b4) (Q5 b5)
  (fun k hk hge=>by
   obtain ⟨g1,g2,g3⟩:=hnew k hk hge
   exact ⟨g1,g2,(hf2 _ g3).1,(hf2 _ g3).2⟩) hd hs)),fun s hs=>?_,fun k hk=>?_⟩
 ·have:vP (yF o.dst (res.ren (sg π)) []) Af=vq o.dst (res.ren (sg π)) Af:=by
   cases o.dst with
   | none=>exact vE Af
   | some d=>exact xf d _ Af
  rw[this];exact hs1
 ·rw[WE ho]
  cases hdd:o.dst with
  | none=>rw[hdd] at hs;simp[yF,zq] at hs
  | some d=>rw[hdd] at hs;simp only[yF,zq,List.any_cons,List.any_nil,Bool.or_false,beq_iff_eq] at hs;rw[hs]
 ·simp only[zq,jf,List.any_map,List.any_eq_true,Function.comp,beq_iff_eq] at hk
  obtain ⟨q,hq,rfl⟩:=hk
  exact b7 q.1 (by simp only[wF,List.mem_map];exact ⟨q,hq,rfl⟩)

theorem UT (x:MV) {vA:List (Nat×MV)} {vL:List (Nat×Option MObj)} {i j dj d:Nat} {o oj:Oper} {want b:Bool} (ho:r.ops[i]? = some o) (hg:o.guard=some (j,want)) (hj:r.ops[j]? = some oj) (hdj:oj.dst=some dj) (hv:get vA dj=some (.bool b)) (hb:b=!want) (hd:o.dst=some d) (hdN:d<N) :
  Wd P Γ N Q r vA vL ([(d,.cnd false x)],[]) i/\De.ok r i ([(d,.cnd false x)],[]):=by
 subst hb
 refine ⟨fun Af Lf a w hA hL _ hs K hK=>?_,fun s hs=>?_,fun k hk=>by simp[zq] at hk⟩
 ·have hs':=hs
  obtain ⟨h1,h2,ρ,m,h3,h4,h5,h6⟩:=hs
  obtain ⟨v,hv',hc⟩:=h3 dj _ (hA _ _ hv)
  simp only[Cv] at hc;subst hc
  unfold wpOp
  rw[ho]
  have:Region.wanted o (yielded r.ops a.tmps)=false:=by
   unfold Region.wanted
   rw[hg]
   simp only[yielded,hj,Option.bind_some,hdj]
   rw[hv'];cases want<;>rfl
  simp only[this,Bool.false_eq_true,if_false,hd]
  refine hK _ _ ⟨by rw[xS];exact h1,by rw[jD];exact h2,ρ,m,fun s y hy=>?_,h4,h5,h6⟩
  rw[xf] at hy
  have hc:Cv ρ m (.cnd false x) undef:=⟨fun e=>(by cases e),fun _=>rfl⟩
  exact xe (Mle.refl m) (ρ':=ρ) h3 (v:=undef) (x:=.cnd false x) (dst:=some d) (fun d' e=>by cases e;rw[h1];exact hdN) (fun _=>hc) (fun _ _ _ _ _=>rfl) s y hy
 ·simp only[zq,List.any_cons,List.any_nil,Bool.or_false,beq_iff_eq] at hs
  rw[WE ho,hd,hs]

variable {A:List (Nat×MV)} {L:List (Nat×Option MObj)} {G:Prop} {ex:Nat->List Nat} {l:List De} {n j dj:Nat} {o oj:Oper} {want b:Bool}

theorem G0 (E:Env P) {δ:De} {C:Prop} (n':Nat) (hn':n'=n+1) (hn:n<r.ops.size) (hb:b=want) (ho:r.ops[n]? = some o) (hg:o.guard=some (j,want)) (hj:r.ops[j]? = some oj) (hdj:oj.dst=some dj) (hv:get (jB r (fnR n l) A n) dj=some (.bool b))
  (h:Yc E.tab N (r.wk n) (r.nk n) o (jB r (fnR n l) A n) (yn r ex (fnR n l) L n)=some (δ,C)) (hC:C) (k:AJR P Γ N Q r ex A L G n' (δ::l)):AJR P Γ N Q r ex A L G n l:=by
 subst hn';exact yD hn (KU E ho hg hj hdj hv hb h hC) k
theorem qm {f:FuncId} {xs ys:List MV} {Lc Lc':List (Nat×Option MObj)} {res:MV} {C:Prop} (n':Nat) (hn':n'=n+1) (hn:n<r.ops.size) (hb:b=want) (π:List (Nat×Nat)) (ho:r.ops[n]? = some o) (hg:o.guard=some (j,want)) (hj:r.ops[j]? = some oj) (hdj:oj.dst=some dj) (hv:get (jB r (fnR n l) A n) dj=some (.bool b))
  (hF:Fn P f xs Lc res Lc') (hf:fnb P f=true) (h:j1 (jB r (fnR n l) A n) o.op=some (f,ys,C)) (hC:C) (hys:ys=MV.renL (sg π) xs) (hsub:vc (jf (sg π) Lc) (yn r ex (fnR n l) L n)) (hc:vd (sg π) N o.dst true (r.wk n) (r.nk n) Lc Lc' res=true)
  (k:AJR P Γ N Q r ex A L G n' ((yF o.dst (res.ren (sg π)) [],jf (sg π) Lc')::l)):AJR P Γ N Q r ex A L G n l:=by
 subst hn';exact yD hn (KM π ho hg hj hdj hv hb hF h hC hf hys hsub hc) k
end
end
section

def Kd.wf:(k:Kd)->k.T->Prop
  | .int k,x=>(Lit.int k x).wf=true
  | .bool,_=>True
  | .str,s=>s.size<=maxLen
  | .slice e,l=>l.length<=maxLen/\∀x∈l,e.wf x
  | .pair a b,x=>a.wf x.1/\b.wf x.2
  | .unit,_=>True
  | .ptr,_=>True
  | .hdr,_=>True

def yy (P:Program) (kd:Kd->TypeId->Bool):Nat->Kd->List Field->Bool
  | off,k,[f]=>f.offset==off&&kd k f.type&&P.cellsOf f.type==k.n
  | off,.pair a b,f::fs=>f.offset==off&&kd a f.type&&P.cellsOf f.type==a.n&&yy P kd (off+a.n) b fs
  | _,_,_=>false
def kdB (P:Program):Nat->Kd->TypeId->Bool
  | 0,_,_=>false
  | n+1,k,t=>match P.underlying t with
    | some (.int i)=>decide (k=.int i)
    | some .bool=>decide (k=.bool)
    | some .string=>decide (k=.str)
    | some (.slice u)=>(match k with|.slice e=>kdB P n e u&&P.cellsOf u==e.n&&decide (1<=e.n)|_=>false)
    | some (.struct fs)=>P.cellsOf t==k.n&&yy P (kdB P n) 0 k fs.toList
    | _=>false

def snap (W:World):Mem:=fun b=>if b<W.heap.size then W.heap[b]? else none

theorem Wl {α β:Type} {f:α->Option β}:∀{l:List α} {r:List β},l.mapM f=some r->r.length=l.length/\∀(i:Nat) (x:α),l[i]? = some x->∃y,r[i]? = some y/\f x=some y
 | [],r,h=>by simp at h;subst h;exact ⟨rfl,fun i x hx=>by simp at hx⟩
 | a::l,r,h=>by
  rw[List.mapM_cons] at h
  cases ha:f a with
  | none=>simp[ha] at h
  | some b =>
   cases hl:l.mapM f with
   | none=>simp[ha,hl] at h
   | some bs =>
    simp[ha,hl] at h
    subst h
    obtain ⟨h1,h2⟩:=Wl hl
    refine ⟨by simp[h1],fun i x hx=>?_⟩
    cases i with
    | zero=>simp at hx;subst hx;exact ⟨b,rfl,ha⟩
    | succ i=>exact h2 i x (by simpa using hx)

section
variable {H:Type} {enc:TypeId×Value->H} {P:Program} {W:World}

theorem KO {m:Mem} {kd:Kd->TypeId->Bool} {rd:TypeId->List Value->Prop} (hrd:∀k t cs,kd k t=true->rd t cs->∃y:k.T,k.R m y cs/\k.wf y) {cs:List Value} :
  ∀{fs:List Field} {off:Nat} {k:Kd},yy P kd off k fs=true->(∀f∈fs,rd f.type ((cs.drop f.offset).take (P.cellsOf f.type)))->cs.length=off+k.n->∃y:k.T,k.R m y (cs.drop off)/\k.wf y
 | [],off,k,h,_,_=>by cases k<;>simp[yy] at h
 | [f],off,k,h,hf,hl=>by
  simp only[yy,Bool.and_eq_true,beq_iff_eq] at h
  obtain ⟨⟨h1,h2⟩,h3⟩:=h
  have:=hf f (by simp)
  rw[h1,h3,List.take_of_length_le (by simp;omega)] at this
  exact hrd k _ _ h2 this
 | f::g::fs,off,k,h,hf,hl=>by
  cases k with
  | pair a b =>
   simp only[yy,Bool.and_eq_true,beq_iff_eq] at h
   obtain ⟨⟨⟨h1,h2⟩,h3⟩,h4⟩:=h
   have:=hf f (by simp)
   rw[h1,h3] at this
   obtain ⟨y,hy,wy⟩:=hrd a _ _ h2 this
   obtain ⟨z,hz,wz⟩:=KO hrd (fs:=g::fs) h4 (fun f' hf'=>hf f' (by simp at hf' ⊢;exact .inr hf')) (by simp only[Kd.n] at hl;omega)
   refine ⟨(y,z),⟨(cs.drop off).take a.n,cs.drop (off+a.n),?_,hy,hz⟩,wy,wz⟩
   rw[<-List.drop_drop,List.take_append_drop]
  | _=>simp[yy] at h

theorem WK {b off:Nat} {s:Option Nat} {v:Value} (h:W.cell? ⟨b,off,s⟩=some v):s=none/\∃cells T fr,snap W b=some (.cells cells T fr)/\cells[off]? = some v:=by
 unfold World.cell? at h
 simp only at h
 split at h
 ·rename_i c T fr hb
  split at h
  ·cases h
  ·rename_i hs
   refine ⟨by cases s<;>simp_all,c,T,fr,?_,h⟩
   unfold snap
   rw[if_pos (by exact (Array.getElem?_eq_some_iff.1 hb).1),hb]
 ·cases h

theorem v8 {a:Addr} {n:Nat} {cs:List Value} (h:W.cells? 0 a n=some cs):cs.length=n/\∀i,i<n->∃v,cs[i]? = some v/\W.cell? (a.add i)=some v:=by
 unfold World.cells? at h
 rw[if_pos (Nat.zero_le _)] at h
 obtain ⟨h1,h2⟩:=Wl h
 refine ⟨by simpa using h1,fun i hi=>?_⟩
 obtain ⟨v,hv,he⟩:=h2 i i (by simp[hi])
 exact ⟨v,hv,he⟩

theorem G1 {e:Kd} (he:1<=e.n) {a:Addr} {len cap:Nat} (hc:len<=cap) (hm:cap<=maxLen) (hel:∀i,i<cap->∃cs,W.cells? 0 (a.add (i*e.n)) e.n=some cs/\∃y:e.T,e.R (snap W) y cs/\e.wf y) :
  ∃l:List e.T,SlR (snap W) e.n (e.R (snap W)) l (.slice (some a) len cap)/\(Kd.slice e).wf l:=by
 cases cap with
 | zero =>
  have:len=0:=by omega
  subst this
  exact ⟨[],.inl ⟨some a,rfl,rfl⟩,by simp,fun x hx=>by simp at hx⟩
 | succ c =>
  classical
  obtain ⟨b,off,s⟩:=a
  have hs:s=none:=by
   obtain ⟨cs,h1,_⟩:=hel 0 (by omega)
   obtain ⟨v,_,hv⟩:=(v8 h1).2 0 (by omega)
   have:W.cell? ⟨b,off,s⟩=some v:=by simpa [Addr.add] using hv
   exact (WK this).1
  subst hs
  have add0:∀x y:Nat,(⟨b,x,none⟩:Addr).add y=⟨b,x+y,none⟩:=fun x y=>by
   unfold Addr.add
   split
   ·rename_i e;subst e;rfl
   ·rfl
  have hcell:∀i j,i<c+1->j<e.n->∃v,W.cell? ⟨b,off+(i*e.n+j),none⟩=some v:=fun i j hi hj=>by
   obtain ⟨cs,h1,_⟩:=hel i hi
   obtain ⟨v,_,hv⟩:=(v8 h1).2 j hj
   exact ⟨v,by rw[add0,add0,Nat.add_assoc] at hv;exact hv⟩
  obtain ⟨v0,h0⟩:=hcell 0 0 (by omega) (by omega)
  obtain ⟨_,cells,T,fr,hb,_⟩:=WK h0
  have hin:∀x,x<(c+1)*e.n->∃v,cells[off+x]? = some v/\W.cell? ⟨b,off+x,none⟩=some v:=fun x hx=>by
   obtain ⟨v,hv⟩:=hcell (x/e.n) (x%e.n) ((Nat.div_lt_iff_lt_mul (by omega)).2 hx) (Nat.mod_lt _ (by omega))
   have ex:x/e.n*e.n+x%e.n=x:=by rw[Nat.mul_comm];exact Nat.div_add_mod x e.n
   rw[ex] at hv
   obtain ⟨_,cells',T',fr',hb',hv'⟩:=WK hv
   rw[hb] at hb';cases hb'
   exact ⟨v,hv',hv⟩
  have hsize:off+(c+1)*e.n<=cells.size:=by
   have hp:0<(c+1)*e.n:=Nat.mul_pos (by omega) (by omega)
   obtain ⟨v,hv,_⟩:=hin ((c+1)*e.n-1) (by omega)
   have:=(Array.getElem?_eq_some_iff.1 hv).1
   omega
  have hone:∀i,i<c+1->∃y:e.T,e.R (snap W) y ((cells.toList.drop (off+i*e.n)).take e.n)/\e.wf y:=fun i hi=>by
   obtain ⟨cs,h1,y,hy,wy⟩:=hel i hi
   obtain ⟨hl,hget⟩:=v8 h1
   have:cs=(cells.toList.drop (off+i*e.n)).take e.n:=by
    apply List.ext_getElem?
    intro j
    by_cases hj:j<e.n
    ·obtain ⟨v,hv,hw⟩:=hget j hj
     have hw':W.cell? ⟨b,off+(i*e.n+j),none⟩=some v:=by rw[add0,add0,Nat.add_assoc] at hw;exact hw
     have hlt:i*e.n+j<(c+1)*e.n:=by
      have:(i+1)*e.n<=(c+1)*e.n:=Nat.mul_le_mul_right _ hi
      rw[Nat.add_mul,Nat.one_mul] at this;omega
     obtain ⟨v',hv',hw2⟩:=hin _ hlt
     rw[hw'] at hw2;cases hw2
     rw[hv,List.getElem?_take,if_pos hj,List.getElem?_drop,Array.getElem?_toList,Nat.add_assoc,hv']
    ·rw[List.getElem?_eq_none (by omega),List.getElem?_eq_none (by simp;omega)]
   exact ⟨y,this▸hy,wy⟩
  have hpick:∀i:Fin len,∃y:e.T,e.R (snap W) y ((cells.toList.drop (off+i.1*e.n)).take e.n)/\e.wf y:=fun i=>hone i.1 (by omega)
  refine ⟨List.ofFn fun i:Fin len=>(hpick i).choose,.inr ⟨b,off,c+1,cells,T,fr,by simp,by simpa using hc,hb,?_,fun i hi=>?_⟩,?_,fun x hx=>?_⟩
  ·have:len*e.n<=(c+1)*e.n:=Nat.mul_le_mul_right _ hc
   simp;omega
  ·simp only[List.length_ofFn] at hi
   rw[List.getElem_ofFn]
   exact (hpick ⟨i,hi⟩).choose_spec.1
  ·simp;omega
  ·rw[List.mem_ofFn] at hx
   obtain ⟨i,rfl⟩:=hx
   exact (hpick i).choose_spec.2

theorem Q8:∀(n q:Nat) (k:Kd) (t:TypeId) (cs:List Value) (x:DataW H×List MemPlace),kdB P q k t=true->DataW.trod enc P W 0 (fun _=>true) true n t cs=some x->∃y:k.T,k.R (snap W) y cs/\k.wf y
 | 0,_,_,_,_,_,_,h=>by simp[DataW.trod] at h
 | n+1,0,_,_,_,_,h,_=>by simp[kdB] at h
 | n+1,q+1,k,t,cs,x,hk,h=>by
  unfold kdB at hk
  have hstep:=h
  unfold DataW.trod at h
  split at hk
  ·rename_i i hu
   have:=of_decide_eq_true hk;subst this
   split at h<;>(rename_i hu2;rw[hu] at hu2)<;>first|cases hu2|(cases h;done)
   split at h
   ·rename_i hc
    simp only[Option.some.injEq] at h
    exact ⟨_,by rw[hc.1];rfl,hc.2⟩
   ·cases h
  ·rename_i hu
   have:=of_decide_eq_true hk;subst this
   split at h<;>(rename_i hu2;rw[hu] at hu2)<;>first|cases hu2|(cases h;done)
   exact ⟨_,rfl,trivial⟩
  ·rename_i hu
   have:=of_decide_eq_true hk;subst this
   split at h<;>(rename_i hu2;rw[hu] at hu2)<;>first|cases hu2|(cases h;done)
   split at h
   ·rename_i hc;exact ⟨_,rfl,hc⟩
   ·cases h
  ·rename_i u hu
   split at hk
   ·rename_i e
    simp only[Bool.and_eq_true,beq_iff_eq,decide_eq_true_eq] at hk
    obtain ⟨⟨k1,k2⟩,k3⟩:=hk
    split at h<;>(rename_i hu2;rw[hu] at hu2)<;>first|cases hu2|(cases h;done)
    ·exact ⟨[],⟨_,rfl,.inl ⟨_,rfl,rfl⟩⟩,by simp,fun x hx=>by simp at hx⟩
    ·rename_i _ a len cap
     simp only at h
     split at h
     ·rename_i hc
      rw[if_pos trivial] at h
      simp only[Option.map_eq_some_iff,Option.bind_eq_some_iff] at h
      obtain ⟨el,hel,rest,hrest,rfl⟩:=h
      have r1:=Wl hel
      have r2:=Wl hrest
      obtain ⟨l,hl,wl⟩:=G1 (W:=W) (e:=e) k3 hc.2.1 hc.2.2 (a:=a) (fun i hi=>by
       have one:∀y,((W.cells? 0 (a.add (i*P.cellsOf u)) (P.cellsOf u)).bind (DataW.trod enc P W 0 (fun _=>true) true n u))=some y->∃cs,W.cells? 0 (a.add (i*e.n)) e.n=some cs/\∃y:e.T,e.R (snap W) y cs/\e.wf y:=fun y hy=>by
        obtain ⟨cs,h1,h2⟩:=Option.bind_eq_some_iff.1 hy
        rw[k2] at h1
        exact ⟨cs,h1,Q8 n q e u cs y k1 h2⟩
       by_cases hlt:i<len
       ·obtain ⟨y,_,hy⟩:=r1.2 i i (by simp[hlt])
        exact one y hy
       ·obtain ⟨y,_,hy⟩:=r2.2 (i-len) (i-len) (by rw[List.getElem?_range (by omega)])
        rw[show len+(i-len)=i from by omega] at hy
        exact one y hy)
      exact ⟨l,⟨_,rfl,hl⟩,wl⟩
     ·cases h
   ·cases hk
  ·rename_i fs hu
   simp only[Bool.and_eq_true,beq_iff_eq] at hk
   split at h<;>(rename_i hu2;rw[hu] at hu2)<;>first|cases hu2|(cases h;done)
   split at h
   ·rename_i hc
    simp only[Option.map_eq_some_iff] at h
    obtain ⟨xs,hxs,rfl⟩:=h
    have r1:=Wl hxs
    obtain ⟨y,hy,wy⟩:=KO (P:=P) (m:=snap W) (kd:=kdB P q) (rd:=fun t cs=>∃x,DataW.trod enc P W 0 (fun _=>true) true n t cs=some x) (fun k t cs h1 h2=>by
     obtain ⟨x,hx⟩:=h2
     exact Q8 n q k t cs x h1 hx) hk.2 (cs:=_) (fun f hf=>by
      obtain ⟨i,hi⟩:=List.getElem?_of_mem hf
      obtain ⟨y,_,hy⟩:=r1.2 i f hi
      exact ⟨y,hy⟩) (by rw[hc,hk.1,Nat.zero_add])
    exact ⟨y,by simpa using hy,wy⟩
   ·cases h
  ·cases hk
end
end
section
open Go.WideShapes

section
variable {H:Type} {enc:TypeId×Value->H} {P:Program} {W:World} {base:Nat} {r:Reach} {t:TypeId} {v:Value} {d:DataW H} {ps:List MemPlace}

theorem arg_str (hu:P.underlying t=some .string) (ho:Value.okWide P W r base t v) (h:DataW.Trod enc P W 0 (fun _=>true) true t v d ps):∃s:ByteArray,v=.string s/\Kd.wf .str s:=by
 obtain ⟨n,rfl⟩:=okWide_string hu ho
 obtain ⟨f,h⟩:=h
 obtain ⟨y,hy,wy⟩:=Q8 f 1 .str t _ _ (by simp[kdB,hu]) h
 have:n=y:=by simpa [Value.cells,Kd.R] using hy
 subst this
 exact ⟨_,rfl,wy⟩
theorem arg_struct {fs:Array Field} {k:Kd} {q:Nat} (hu:P.underlying t=some (.struct fs)) (hk:kdB P q k t=true) (ho:Value.okWide P W r base t v) (h:DataW.Trod enc P W 0 (fun _=>true) true t v d ps) (ρ:Nat->Hd) :
  ∃y:k.T,Cv ρ (snap W) (.agg (k.flat y)) v/\k.wf y:=by
 obtain ⟨cs,rfl,_⟩:=okWide_struct hu ho
 obtain ⟨f,h⟩:=h
 obtain ⟨y,hy,wy⟩:=Q8 f q k t _ _ hk h
 exact ⟨y,⟨cs.toList,by simp,Wo k y _ (by simpa [Value.cells] using hy)⟩,wy⟩
end
end
section
theorem gr (x:Int):wb .u8 x=x%256:=by simp[wb,IntKind.wrap,IntKind.signed,IntKind.bits]
theorem Hb (x:Int):wb .u32 x=x%4294967296:=by simp[wb,IntKind.wrap,IntKind.signed,IntKind.bits]
theorem UR (x:Int):wb .u64 x=x%18446744073709551616:=by simp[wb,IntKind.wrap,IntKind.signed,IntKind.bits]
theorem gO {x:Int} (h0:-9223372036854775808<=x) (h1:x<=9223372036854775807):wb .i64 x=x:=by
 simp only[wb,IntKind.wrap,IntKind.signed,IntKind.bits]
 simp
 split<;>omega
end
section

end
section
theorem KD (w:Nat) (x:Int) (n:Nat) (h:n<=w):((BitVec.ofInt w x &&& BitVec.ofInt w ((2:Int)^n-1)).toNat:Int)=x%(2:Int)^n:=by
 have e1:(BitVec.ofInt w ((2:Int)^n-1)).toNat=2^n-1:=by
  rw[BitVec.toNat_ofInt]
  have hp:(0:Int)<2^n:=Int.pow_pos (by decide)
  have hle:(2:Int)^n<=2^w:=by
   have:=Nat.pow_le_pow_right (n:=2) (by decide) h
   exact_mod_cast this
  rw[show (((2:Nat)^w:Nat):Int)=(2:Int)^w by norm_cast,Int.emod_eq_of_lt (by omega) (by omega)]
  have h1:=Nat.one_le_two_pow (n:=n)
  have h2:((2^n:Nat):Int)=(2:Int)^n:=by norm_cast
  rw[<-h2]
  omega
 rw[BitVec.toNat_and,e1,Nat.and_two_pow_sub_one_eq_mod,BitVec.toNat_ofInt]
 have hw:(0:Int)<=x%((2^w:Nat):Int):=Int.emod_nonneg _ (by have:=Nat.one_le_two_pow (n:=w);omega)
 rw[Int.natCast_emod,Int.toNat_of_nonneg hw]
 have hd:((2^n:Nat):Int)∣((2^w:Nat):Int):=by
  have:=Nat.pow_dvd_pow 2 h
  exact_mod_cast this
 rw[Int.emod_emod_of_dvd _ hd]
 norm_cast
theorem ZW (x:Int) (n:Nat) (h:n<=62):kand .i64 x ((2:Int)^n-1)=x%(2:Int)^n:=by
 unfold kand
 have e:IntKind.i64.bits=64:=rfl
 rw[e,KD 64 x n (by omega)]
 have hp:(0:Int)<2^n:=Int.pow_pos (by decide)
 have h1:=Int.emod_nonneg x (b:=(2:Int)^n) (by omega)
 have h2:=Int.emod_lt_of_pos x hp
 have h3:(2:Int)^n<=2^62:=by
  have:=Nat.pow_le_pow_right (n:=2) (by decide) h
  exact_mod_cast this
 exact gO (by omega) (by omega)
end
section
theorem wI {α:Type} {b:Bool} {x y r:α} (hb:b=true) (h:x=r):(bif b then x else y)=r:=by rw[hb];exact h
theorem wq {α:Type} {b:Bool} {x y r:α} (hb:b=false) (h:y=r):(bif b then x else y)=r:=by rw[hb];exact h
theorem wr {α β:Type} {o:Option α} {f:α->Option β} {x:α} {r:Option β} (h:o=some x) (k:f x=r):o.bind f=r:=by rw[h];exact k
theorem zp {α:Type} {C:Prop} [Decidable C] {x r:Option α} (h:C) (k:x=r):gd C x=r:=(VT h).trans k
end
section

def kmatch:Option TypeDesc->MV->Bool
  | some (.int _),.int _ _=>true
  | some .bool,.bool _=>true
  | some .string,.str _=>true
  | _,_=>false
def szF (P:Program) (t:TypeId):Nat:=match P.info? t with|some j=>j.size|none=>0
def eqgo (P:Program) (rec:List Field->List MV->Bool):Nat->List Field->List MV->Bool
  | _,[],[]=>true
  | _,[],_::_=>false
  | o, f :: fs, zs => decide (f.name ≠ "_") && (f.offset == o && (match P.underlying f.type with
      | some (.struct gs)=>sizeb P f.type (szF P f.type)&&(decide (1<=szF P f.type)&&(decide (szF P f.type<=zs.length)&&(!P.stoodInHeld f.type&&(rec gs.toList (zs.take (szF P f.type))&&eqgo P rec (o+szF P f.type) fs (zs.drop (szF P f.type))))))
      | u=>(match zs with
        | z::zs'=>kmatch u z&&eqgo P rec (o+1) fs zs'
        | []=>false)))
def eqfields (P:Program):Nat->List Field->List MV->Bool
  | 0=>fun _ _=>false
  | n+1=>eqgo P (eqfields P n) 0
def JH:MV->Bool
  | .int _ _=>true
  | _=>false
def eqfb (P:Program) (t:TypeId) (i:TI):Bool :=
  match P.underlying t with
  | some (.struct fs)=>eqfields P 4 fs.toList i.zero&&(!P.stoodInHeld t&&!P.eqGuardType P.depth t)
  | some (.array n e)=>(match P.underlying e,P.info? e with
    | some (.int _),some _=>i.zero.length==n&&P.cellsOf e==1&&i.zero.all JH&&!P.eqGuardType P.depth t
    | _,_=>false)
  | _=>false
theorem yg {P:Program} {d:TypeDesc} {t:Nat} (h:P.underlying t=some d) (hd:vo d=false) {cs:Array Value} {o:Nat} {v:Value} (hv:cs[o]? = some v) (w:World):(part t cs o).run P w=.ok v w:=by
 unfold part
 rw[wc,yV h,hd]
 simp[hv]
theorem KQ {P:Program} {gs:Array Field} {t s:Nat} (h:P.underlying t=some (.struct gs)) (hs:sizeb P t s=true) {cs:Array Value} {o:Nat} (w:World):(part t cs o).run P w=.ok (.agg (cs.extract o (o+s))) w:=by
 unfold part
 obtain ⟨j,hj,hjs⟩:=zW hs
 rw[wc,yV h]
 simp only[vo,if_true]
 rw[wc,wZ hj,hjs];rfl
theorem vf:∀{zs xs:List MV},shp zs xs=true->xs.length=zs.length
 | [],[],_=>rfl
 | [],_::_,h=>by cases h
 | z::zs,[],h=>by cases z<;>cases h
 | z::zs,x::xs,h=>by
  have:shp zs xs=true:=by
   cases z<;>cases x<;>first|(simp[shp] at h;done)|(simp only[shp,Bool.and_eq_true] at h;exact h.2)|exact h
  simp[vf this]
theorem vv {z x:MV} {zs xs:List MV} (h:shp (z::zs) (x::xs)=true):shp zs xs=true/\shp [z] [x]=true:=by
 cases z<;>cases x<;>first|(simp[shp] at h;done)|(simp only[shp,Bool.and_eq_true] at h ⊢;exact ⟨h.2,h.1,trivial⟩)|exact ⟨h,rfl⟩
theorem Ug {z x:MV} {zs xs:List MV} (h1:shp [z] [x]=true) (h2:shp zs xs=true):shp (z::zs) (x::xs)=true:=by
 cases z<;>cases x<;>first|(simp[shp] at h1;done)|(simp only[shp,Bool.and_eq_true] at h1 ⊢;exact ⟨h1.1,h2⟩)|exact h2
theorem WN:∀(s:Nat) {zs xs:List MV},shp zs xs=true->shp (zs.take s) (xs.take s)=true/\shp (zs.drop s) (xs.drop s)=true
 | 0,zs,xs,h=>⟨by simp[shp],by simpa using h⟩
 | s+1,[],[],_=>⟨rfl,rfl⟩
 | s+1,[],_::_,h=>by cases h
 | s+1,z::zs,[],h=>by cases z<;>cases h
 | s+1,z::zs,x::xs,h=>by
  obtain ⟨h1,h2⟩:=vv h
  obtain ⟨g1,g2⟩:=WN s h1
  exact ⟨Ug h2 g1,g2⟩
def eqE (xs ys:List MV) (b:Bool):Prop:=eqL xs ys=some b\/xs=[]/\ys=[]/\b=true
theorem Zx {x y:MV} {xs ys:List MV} {b:Bool} (h:eqE (x::xs) (y::ys) b):∃a b',eq1 x y=some a/\eqE xs ys b'/\b=(a&&b'):=by
 rcases h with hb|⟨e,_⟩
 ·unfold eqL at hb
  split at hb
  ·rename_i e1 e2;cases e1;cases e2;exact ⟨b,true,hb,.inr ⟨rfl,rfl,rfl⟩,by simp⟩
  ·rename_i e1 e2;cases e1;cases e2
   split at hb
   ·rename_i a b' e3 e4;cases hb;exact ⟨a,b',e3,.inl e4,rfl⟩
   ·cases hb
  ·cases hb
 ·cases e
theorem gV {x y:MV} {xs ys:List MV} {a b:Bool} (h:eq1 x y=some a) (k:eqE xs ys b):eqE (x::xs) (y::ys) (a&&b):=by
 left
 rcases k with k|⟨rfl,rfl,rfl⟩
 ·cases xs with
  | nil=>simp[eqL] at k
  | cons x' xs =>
   cases ys with
   | nil=>simp[eqL] at k
   | cons y' ys=>unfold eqL;rw[h,k]
 ·simp[eqL,h]
theorem Qo:∀(s:Nat) {xs ys:List MV} {b:Bool},xs.length=ys.length->eqE xs ys b->∃b1 b2,eqE (xs.take s) (ys.take s) b1/\eqE (xs.drop s) (ys.drop s) b2/\b=(b1&&b2)
 | 0,xs,ys,b,_,h=>⟨true,b,.inr ⟨rfl,rfl,rfl⟩,by simpa using h,rfl⟩
 | s+1,[],[],b,_,h=>by
  rcases h with h|⟨_,_,rfl⟩
  ·simp[eqL] at h
  ·exact ⟨true,true,.inr ⟨rfl,rfl,rfl⟩,.inr ⟨rfl,rfl,rfl⟩,rfl⟩
 | s+1,[],_::_,_,hl,_=>by simp at hl
 | s+1,_::_,[],_,hl,_=>by simp at hl
 | s+1,x::xs,y::ys,b,hl,h=>by
  obtain ⟨a,b',h1,h2,rfl⟩:=Zx h
  obtain ⟨b1,b2,g1,g2,rfl⟩:=Qo s (by simpa using hl) h2
  exact ⟨a&&b1,b2,gV h1 g1,g2,by cases a<;>cases b1<;>rfl⟩
theorem ZG {P:Program} {d:Nat} {ρ:Nat->Hd} {m:Mem} {rec:List Field->List MV->Bool}
  (hrec:∀(gs:List Field) (zs xs ys:List MV) (us vs:List Value) (b:Bool) (w:World),rec gs zs=true->shp zs xs=true->shp zs ys=true->CvL ρ m xs us->CvL ρ m ys vs->eqE xs ys b->(Op.eqFields d us.toArray vs.toArray gs).run P w=.ok b w)
  {U V:Array Value} {w:World}:∀(fs:List Field) (zs xs ys:List MV) (us vs:List Value) (o:Nat) (b:Bool),eqgo P rec o fs zs=true->shp zs xs=true->shp zs ys=true →
  CvL ρ m xs us->CvL ρ m ys vs->U.toList.drop o=us->V.toList.drop o=vs->eqE xs ys b->(Op.eqFields (d+1) U V fs).run P w=.ok b w
 | [],[],xs,ys,us,vs,o,b,_,hx,hy,_,_,_,_,hb=>by
  cases xs with
  | nil =>
   cases ys with
   | nil =>
    rcases hb with hb|⟨_,_,rfl⟩
    ·simp[eqL] at hb
    ·rfl
   | cons y ys=>cases hy
  | cons x xs=>cases hx
 | [],_::_,_,_,_,_,_,_,h,_,_,_,_,_,_,_=>by cases h
 | f::fs,zs,xs,ys,us,vs,o,b,h,hx,hy,cx,cy,hu,hv,hb=>by
  unfold eqgo at h
  simp only[Bool.and_eq_true,beq_iff_eq] at h
  obtain ⟨h1,h2,h3⟩:=h
  have h1:=of_decide_eq_true h1
  unfold Op.eqFields
  rw[if_pos h1,h2]
  have go:∀{a b':Bool} {u v:Value},(part f.type U o).run P w=.ok u w->(part f.type V o).run P w=.ok v w->(Op.equalIn (d+1) f.type u v).run P w=.ok a w->(Op.eqFields (d+1) U V fs).run P w=.ok b' w →
    (do let a ← part f.type U o;let b ← part f.type V o;let r ← Op.equalIn (d+1) f.type a b;if (!r)=true then pure false else Op.eqFields (d+1) U V fs:Sem Bool).run P w=.ok (a&&b') w:=by
   intro a b' u v e1 e2 e3 e4
   rw[wc,e1];simp only
   rw[wc,e2];simp only
   rw[wc,e3];simp only
   cases a
   ·rfl
   ·exact e4
  split at h3
  ·rename_i gs e
   simp only[Bool.and_eq_true,decide_eq_true_eq,Bool.not_eq_true'] at h3
   obtain ⟨s1,s2,s3,s4,s5,s6⟩:=h3
   generalize hs:szF P f.type=s at *
   have lx:=vf hx
   have ly:=vf hy
   obtain ⟨b1,b2,g1,g2,rfl⟩:=Qo s (by omega) hb
   obtain ⟨x1,x2⟩:=WN s hx
   obtain ⟨y1,y2⟩:=WN s hy
   have hgf:P.fieldsOf f.type=gs:=by unfold Program.fieldsOf;rw[e]
   have hU:(U.extract o (o+s))=(us.take s).toArray:=by
    apply Array.ext'
    rw[<-hu];simp[List.take_drop]
   have hV:(V.extract o (o+s))=(vs.take s).toArray:=by
    apply Array.ext'
    rw[<-hv];simp[List.take_drop]
   refine go (KQ e s1 w) (KQ e s1 w) ?_ (ZG hrec fs _ _ _ (us.drop s) (vs.drop s) (o+s) b2 s6 x2 y2 (cx.drop s) (cy.drop s) (by rw[<-hu,List.drop_drop]) (by rw[<-hv,List.drop_drop]) g2)
   rw[run_equalIn_agg w d f.type _ _ (by rw[e,hgf]) s4,hgf,hU,hV]
   exact hrec gs.toList _ _ _ _ _ b1 w s5 x1 y1 (cx.take s) (cy.take s) g1
  ·cases zs with
   | nil=>cases h3
   | cons z zs' =>
    replace h3:(kmatch (P.underlying f.type) z&&eqgo P rec (o+1) fs zs')=true:=h3
    simp only[Bool.and_eq_true] at h3
    obtain ⟨h3,h4⟩:=h3
    cases xs with
    | nil=>exact absurd (vf hx) (by simp)
    | cons x xs =>
    cases ys with
    | nil=>exact absurd (vf hy) (by simp)
    | cons y ys =>
    obtain ⟨u,us',e0,c1,c2⟩:=cx
    obtain ⟨v,vs',e0',d1,d2⟩:=cy
    subst e0 e0'
    obtain ⟨a,b',ha,hb',rfl⟩:=Zx hb
    have sx:=(vv hx).1
    have sy:=(vv hy).1
    have hU:U[o]? = some u:=by
     have:(U.toList.drop o)[0]? = some u:=by rw[hu];rfl
     rw[List.getElem?_drop,Nat.add_zero] at this;simpa using this
    have hV:V[o]? = some v:=by
     have:(V.toList.drop o)[0]? = some v:=by rw[hv];rfl
     rw[List.getElem?_drop,Nat.add_zero] at this;simpa using this
    have ih:=ZG hrec fs zs' xs ys us' vs' (o+1) b' (U:=U) (V:=V) (w:=w) h4 sx sy c2 d2 (by rw[<-List.drop_drop,hu];rfl) (by rw[<-List.drop_drop,hv];rfl) hb'
    unfold kmatch at h3
    split at h3
    ·rename_i k0 k n e
     cases x<;>first|(simp[shp] at hx;done)|skip
     cases y<;>first|(simp[shp] at hy;done)|skip
     simp only[Cv] at c1 d1
     subst c1 d1
     simp only[eq1] at ha
     split at ha
     ·rename_i ee
      cases ha;subst ee
      exact go (yg e rfl hU w) (yg e rfl hV w) (run_equalIn_int w d f.type _ _ _ _ e) ih
     ·cases ha
    ·rename_i k e
     cases x<;>first|(simp[shp] at hx;done)|skip
     cases y<;>first|(simp[shp] at hy;done)|skip
     simp only[Cv] at c1 d1
     subst c1 d1
     simp only[eq1,Option.some.injEq] at ha
     subst ha
     exact go (yg e rfl hU w) (yg e rfl hV w) (run_equalIn_bool' w d f.type _ _ e) ih
    ·rename_i k e
     cases x<;>first|(simp[shp] at hx;done)|skip
     cases y<;>first|(simp[shp] at hy;done)|skip
     simp only[Cv] at c1 d1
     subst c1 d1
     simp only[eq1,Option.some.injEq] at ha
     subst ha
     exact go (yg e rfl hU w) (yg e rfl hV w) (run_equalIn_string w d f.type _ _ e) ih
    ·cases h3
theorem Ws {P:Program} {ρ:Nat->Hd} {m:Mem}:∀(n d:Nat),n<=d->∀(gs:List Field) (zs xs ys:List MV) (us vs:List Value) (b:Bool) (w:World),eqfields P n gs zs=true->shp zs xs=true->shp zs ys=true->CvL ρ m xs us->CvL ρ m ys vs->eqE xs ys b →
  (Op.eqFields d us.toArray vs.toArray gs).run P w=.ok b w
 | 0,_,_,_,_,_,_,_,_,_,_,h,_,_,_,_,_=>by cases h
 | n+1,0,h,_,_,_,_,_,_,_,_,_,_,_,_,_,_=>by omega
 | n+1,d+1,hd,gs,zs,xs,ys,us,vs,b,w,h,hx,hy,cx,cy,hb =>
  ZG (Ws n d (by omega)) gs zs xs ys us vs 0 b h hx hy cx cy (by simp) (by simp) hb
theorem Ww {P:Program} {e:TypeId} {q:IntKind} (he:P.underlying e=some (.int q)) {ρ:Nat->Hd} {m:Mem} {d:Nat} {U V:Array Value} {w:World}:∀(zs xs ys:List MV) (us vs:List Value) (o:Nat) (b:Bool),zs.all JH=true->shp zs xs=true->shp zs ys=true →
  CvL ρ m xs us->CvL ρ m ys vs->U.toList.drop o=us->V.toList.drop o=vs->eqE xs ys b->(Op.eqItems (d+1) e 1 U V (List.range' o zs.length)).run P w=.ok b w
 | [],xs,ys,us,vs,o,b,_,hx,hy,_,_,_,_,hb=>by
  cases xs with
  | nil =>
   cases ys with
   | nil =>
    rcases hb with hb|⟨_,_,rfl⟩
    ·simp[eqL] at hb
    ·rfl
   | cons y ys=>cases hy
  | cons x xs=>cases hx
 | z::zs,xs,ys,us,vs,o,b,hz,hx,hy,cx,cy,hu,hv,hb=>by
  simp only[List.all_cons,Bool.and_eq_true] at hz
  cases xs with
  | nil=>exact absurd (vf hx) (by simp)
  | cons x xs =>
  cases ys with
  | nil=>exact absurd (vf hy) (by simp)
  | cons y ys =>
  obtain ⟨u,us',e0,c1,c2⟩:=cx
  obtain ⟨v,vs',e0',d1,d2⟩:=cy
  subst e0 e0'
  obtain ⟨a,b',ha,hb',rfl⟩:=Zx hb
  obtain ⟨sx,sx1⟩:=vv hx
  obtain ⟨sy,sy1⟩:=vv hy
  have hU:U[o]? = some u:=by
   have:(U.toList.drop o)[0]? = some u:=by rw[hu];rfl
   rw[List.getElem?_drop,Nat.add_zero] at this;simpa using this
  have hV:V[o]? = some v:=by
   have:(V.toList.drop o)[0]? = some v:=by rw[hv];rfl
   rw[List.getElem?_drop,Nat.add_zero] at this;simpa using this
  have ih:=Ww he (d:=d) (w:=w) zs xs ys us' vs' (o+1) b' hz.2 sx sy c2 d2 (by rw[<-List.drop_drop,hu];rfl) (by rw[<-List.drop_drop,hv];rfl) hb'
  have hz1:=hz.1
  cases z<;>first|(simp[JH] at hz1;done)|skip
  cases x<;>first|(simp[shp] at sx1;done)|skip
  cases y<;>first|(simp[shp] at sy1;done)|skip
  simp only[Cv] at c1 d1
  subst c1 d1
  simp only[eq1] at ha
  split at ha
  ·rename_i ee
   cases ha;subst ee
   rw[List.length_cons,List.range'_succ]
   unfold Op.eqItems
   rw[Nat.mul_one,wc,yg he rfl hU w];simp only
   rw[wc,yg he rfl hV w];simp only
   rw[wc,run_equalIn_int w d e _ _ _ _ he];simp only
   split
   ·rename_i h;simp only[Bool.not_eq_true'] at h;rw[h];rfl
   ·rename_i h;simp only[Bool.not_eq_true',Bool.not_eq_false] at h;rw[h,ih];rfl
  ·cases ha
theorem Ui {P:Program} {t:TypeId} {i:TI} (h:eqfb P t i=true):EqF P t i:=by
 intro xs ys b hx hy hb ρ m us vs cx cy w x y
 unfold eqfb at h
 split at h
 ·rename_i fs e
  simp only[Bool.and_eq_true,Bool.not_eq_true'] at h
  obtain ⟨h1,h2,h3⟩:=h
  have hf:P.fieldsOf t=fs:=by unfold Program.fieldsOf;rw[e]
  refine ⟨run_eqGuard_agg w .eql t x y _ _ h3,?_⟩
  have:Op.equal t (.agg us.toArray) (.agg vs.toArray)=Op.equalIn 10000 t (.agg us.toArray) (.agg vs.toArray):=by simp[Op.equal,Op.maxDepth]
  rw[this,run_equalIn_agg w 9999 t _ _ (by rw[e,hf]) h2,hf]
  exact Ws 4 9999 (by omega) fs.toList i.zero xs ys us vs b w h1 hx hy cx cy (.inl hb)
 ·rename_i n e hu
  split at h
  ·rename_i q j he hj
   simp only[Bool.and_eq_true,beq_iff_eq,Bool.not_eq_true'] at h
   obtain ⟨⟨⟨h1,h2⟩,h3⟩,h4⟩:=h
   refine ⟨run_eqGuard_agg w .eql t x y _ _ h4,?_⟩
   have:Op.equal t (.agg us.toArray) (.agg vs.toArray)=Op.equalIn 10000 t (.agg us.toArray) (.agg vs.toArray):=by simp[Op.equal,Op.maxDepth]
   rw[this,run_equalIn_array w 9999 _ _ hu hj,h2,<-h1,List.range_eq_range']
   exact Ww he i.zero xs ys us vs 0 b h3 hx hy cx cy (by simp) (by simp) (.inl hb)
  ·cases h
 ·cases h
end
section

section
variable {P:Program} {Γ:Gd} {N:Nat} {Q:Exit->Act->World->Prop} {A:List (Nat×MV)} {L:List (Nat×Option MObj)}
def LB (P:Program) (c:Code) (Q:Exit->Act->World->Prop) (a:Act) (w:World):Prop :=
  ∀(b:Frame) (k:List Item) (cs:List Frame),∃e a' w',Q e a' w'/\Arrives P (lone (b.at a (.code c::.inLoop c::k)) cs w) b k cs e a' w'
theorem qU {c:Code} (h:TE Γ N (LB P c Q) A L):TC P Γ N (.loop c) Q A L:=by
 intro a w hs b k cs
 obtain ⟨e,a',w',hq,harr⟩:=h a w hs b k cs
 exact ⟨e,a',w',hq,.of_steps (.one step_loop) harr⟩
theorem wY {c:Code} (h:TC P Γ N c (Exit.then (LB P c Q) Q) A L):TE Γ N (LB P c Q) A L:=by
 intro a w hs b k cs
 obtain ⟨e,a₁,w₁,hq,harr⟩:=h a w hs b (.inLoop c::k) cs
 cases e with
 | normal =>
  obtain ⟨e₂,a₂,w₂,hq₂,harr₂⟩:=hq b k cs
  exact ⟨e₂,a₂,w₂,hq₂,.of_steps (Steps.trans harr (.one step_inLoop)) harr₂⟩
 | exit id=>exact ⟨_,a₁,w₁,hq,.pass (x:=.inLoop c) rfl (fun _ _=>.inl (by simp)) harr⟩
 | goto l=>exact ⟨_,a₁,w₁,hq,.pass (x:=.inLoop c) rfl (fun _ _=>.inl (by simp)) harr⟩
 | ret=>exact ⟨_,a₁,w₁,hq,.pass (x:=.inLoop c) rfl (fun _ _=>.inl (by simp)) harr⟩
 | panic ch=>exact ⟨_,a₁,w₁,hq,.pass (x:=.inLoop c) rfl (fun _ _=>.inl (by simp)) harr⟩
 | outgrown=>exact ⟨_,a₁,w₁,hq,.pass (x:=.inLoop c) rfl (fun _ _=>.inl (by simp)) harr⟩
theorem nums {α:Type} {x n:Int} {a b:Option α} {r:α} {G:Prop} (h:(bif x==n then a else b)=some r) (ht:x=n->a=some r->G) (hf:b=some r->G):G:=by
 cases e:(x==n) with
 | true=>rw[e] at h;exact ht (by simpa using e) h
 | false=>rw[e] at h;exact hf h
theorem kG {ops:Array Oper} {l:List Oper} (s:Nat) {k:IntKind} {x:Int} (n:Int) (hx:x=n) (hg:get A s=some (.int k x)) (h:TL P Γ N ops Q l ((s,.int k n)::A) L):TL P Γ N ops Q l A L:=by
 intro a w hs
 refine h a w (hs.weak (fun t y hy=>?_) (fun _ _ h=>h))
 simp only[get] at hy
 split at hy
 ·rename_i e';have:=beq_iff_eq.1 e';subst this;rw[hg,hx];exact hy
 ·exact hy
end
end
section
mutual
def MV.frzc (key:Nat) (k:Kd) (x:k.T):MV->MV
  | .p q 0=>if q==key then .pim k x else .p q 0
  | .p q (n+1)=>.p q (n+1)
  | .sl q=>.sl q
  | .mp q=>.mp q
  | .hd q n=>.hd q n
  | .sv q n=>.sv q n
  | .sp q n=>.sp q n
  | .pf q o j=>.pf q o j
  | .agg l=>.agg (MV.frzcL key k x l)
  | .tup l=>.tup (MV.frzcL key k x l)
  | .fn f l=>.fn f (MV.frzcL key k x l)
  | .ifc t y=>.ifc t (y.frzc key k x)
  | .bm t y=>.bm t (y.frzc key k x)
  | .cnd t y=>.cnd t (y.frzc key k x)
  | .int k x=>.int k x
  | .bool b=>.bool b
  | .str s=>.str s
  | .nilp=>.nilp
  | .nils=>.nils
  | .nilf=>.nilf
  | .nili=>.nili
  | .nilm=>.nilm
  | .pe k i f=>.pe k i f
  | .im k x=>.im k x
  | .pim k x=>.pim k x
  | .raw v=>.raw v
def MV.frzcL (key:Nat) (k:Kd) (x:k.T):List MV->List MV
  | []=>[]
  | y::l=>y.frzc key k x::MV.frzcL key k x l
end
def MObj.frzc (key:Nat) (k:Kd) (x:k.T):MObj->MObj
  | .cells cs=>.cells (MV.frzcL key k x cs)
  | .rows k' ys=>.rows k' ys
  | .ab a=>.ab a
  | .foc p cs q=>.foc p (MV.frzcL key k x cs) q
  | .bld T o=>.bld T o
  | .brw e k' ys=>.brw e k' ys
  | .hrow s cs=>.hrow s (MV.frzcL key k x cs)
  | .arr a b c=>.arr a b c
  | .emp=>.emp
  | .rr own e xss h=>.rr own e xss (h.map fun q=>(q.1,q.2.frzc key k x))
def UU (key:Nat) (k:Kd) (x:k.T) (A:List (Nat×MV)):List (Nat×MV):=A.map fun q=>(q.1,q.2.frzc key k x)
def K0 (key:Nat) (k:Kd) (x:k.T) (L:List (Nat×Option MObj)):List (Nat×Option MObj):=(key,none)::L.map fun q=>(q.1,q.2.map (·.frzc key k x))

mutual
theorem vD {ρ:Nat->Hd} {m m':Mem} (hm:Mle m m') {key:Nat} {k:Kd} {x:k.T} (hk:∃cells T fr,m' (ρ key).blk=some (.cells cells T fr)/\k.n<=cells.size/\k.R m' x (cells.toList.take k.n)):∀(y:MV) (v:Value),Cv ρ m y v->Cv ρ m' (y.frzc key k x) v
  | .p q 0,v,h=>by
    simp only[MV.frzc]
    split
    · rename_i e
      have:=beq_iff_eq.1 e;subst this
      simp only[Cv] at h;subst h
      obtain ⟨cells,T,fr,h1,h2,h3⟩:=hk
      exact ⟨_,0,cells,T,fr,rfl,h1,by omega,by simpa using h3⟩
    · exact h
  | .p q (n+1),v,h=>h
  | .agg l,v,⟨vs,e,h⟩=>⟨vs,e,yz hm hk l vs h⟩
  | .tup l,v,⟨vs,e,h⟩=>⟨vs,e,yz hm hk l vs h⟩
  | .fn f l,v,⟨vs,e,h⟩=>⟨vs,e,yz hm hk l vs h⟩
  | .ifc t x,v,⟨y,e,h⟩=>⟨y,e,vD hm hk x y h⟩
  | .bm t x,v,⟨y,e,h⟩=>⟨y,e,vD hm hk x y h⟩
  | .cnd t x,v,h=>⟨fun e=>vD hm hk x v (h.1 e),h.2⟩
  | .int _ _,_,h=>h
  | .bool _,_,h=>h
  | .str _,_,h=>h
  | .nilp,_,h=>h
  | .nils,_,h=>h
  | .nilf,_,h=>h
  | .nili,_,h=>h
  | .nilm,_,h=>h
  | .sl _,_,h=>h
  | .mp _,_,h=>h
  | .hd _ _,_,h=>h
  | .sv _ _,_,h=>h
  | .sp _ _,_,h=>h
  | .pf _ _ _,_,h=>h
  | .pe _ _ _,_,h=>h
  | .im k x,v,h=>Kd.R.mono hm k x _ h
  | .pim k x,_,⟨b,off,cells,T,fr,h1,h2,h3,h4⟩=>⟨b,off,cells,T,fr,h1,hm _ _ h2,h3,Kd.R.mono hm k x _ h4⟩
  | .raw _,_,h=>h
theorem yz {ρ:Nat->Hd} {m m':Mem} (hm:Mle m m') {key:Nat} {k:Kd} {x:k.T} (hk:∃cells T fr,m' (ρ key).blk=some (.cells cells T fr)/\k.n<=cells.size/\k.R m' x (cells.toList.take k.n)):∀(l:List MV) (vs:List Value),CvL ρ m l vs->CvL ρ m' (MV.frzcL key k x l) vs
  | [],_,h=>h
  | y::l,_,⟨v,us,e,h1,h2⟩=>⟨v,us,e,vD hm hk y v h1,yz hm hk l us h2⟩
end

theorem Jt {ρ:Nat->Hd} {m:Mem}:∀(k:Kd) (x:k.T) (cs:List Value),CvL ρ m (k.flat x) cs->k.R m x cs
 | .int _,_,_,⟨_,_,rfl,rfl,rfl⟩=>rfl
 | .bool,_,_,⟨_,_,rfl,rfl,rfl⟩=>rfl
 | .str,_,_,⟨_,_,rfl,rfl,rfl⟩=>rfl
 | .slice _,_,_,⟨_,_,rfl,h,rfl⟩=>h
 | .pair a b,x,cs,h=>by
  have h:CvL ρ m (a.flat x.1++b.flat x.2) cs:=h
  obtain ⟨c1,c2,rfl,h1,h2⟩:=split_cvL _ h
  exact ⟨c1,c2,rfl,Jt a x.1 c1 h1,Jt b x.2 c2 h2⟩
 | .unit,_,_,h=>h
 | .ptr,x,cs,⟨v,us,e,h1,h2⟩=>by simp only[Cv] at h1;simp only[CvL] at h2;subst h1 h2;exact e
 | .hdr,x,cs,⟨v,us,e,h1,h2⟩=>by simp only[Cv] at h1;simp only[CvL] at h2;subst h1 h2;exact e
where
  split_cvL {ρ:Nat->Hd} {m:Mem}:∀(l:List MV) {l':List MV} {cs:List Value},CvL ρ m (l++l') cs->∃c1 c2,cs=c1++c2/\CvL ρ m l c1/\CvL ρ m l' c2
  | [],l',cs,h=>⟨[],cs,rfl,rfl,h⟩
  | y::l,l',_,⟨v,us,rfl,h1,h2⟩=>by
    obtain ⟨c1,c2,rfl,g1,g2⟩:=split_cvL l h2
    exact ⟨v::c1,c2,rfl,⟨v,c1,rfl,h1,g1⟩,g2⟩

theorem ZJ {ρ:Nat->Hd} {w:World} {q b key:Nat} {k:Kd} {x:k.T} {o:MObj}:inner ρ w q (o.frzc key k x) b↔inner ρ w q o b:=by
 cases o with
 | rr own e xss h=>exact Wv
 | _=>exact Iff.rfl
theorem Z8 {key:Nat} {k:Kd} {x:k.T}:∀l:List MV,(MV.frzcL key k x l).length=l.length
 | []=>rfl
 | y::l=>by simp only[MV.frzcL,List.length_cons,Z8 l]
theorem Sat.freezec {Γ:Gd} {N:Nat} {A:List (Nat×MV)} {L:List (Nat×Option MObj)} {a:Act} {w:World} (hs:Sat Γ N (get A) (ww L) a w) {key:Nat} (k:Kd) (x:k.T) (hk:ww L key=some (.cells (k.flat x))) :
  Sat Γ N (get (UU key k x A)) (ww (K0 key k x L)) a w:=by
 obtain ⟨h1,h2,ρ,m,h3,h4,h5,h6⟩:=hs
 have hobj:=h4.obj _ _ hk
 have sel:∀q o,ww (K0 key k x L) q=some o->q≠key/\∃o',ww L q=some o'/\o=o'.frzc key k x:=by
  intro q o ho
  simp only[K0,ww] at ho
  split at ho
  ·cases ho
  ·rename_i e
   exact ⟨fun x=>e (by rw[x];exact beq_self_eq_true key),Wm ho⟩
 obtain ⟨p0,vs,T,p1,p2⟩:=hobj
 have hR:=Jt k x vs p2
 let m':Mem:=fun b=>if b=(ρ key).blk then some (.cells vs.toArray T (0,0)) else m b
 have hmb:m (ρ key).blk=none:=h4.djm key _ _ hk ⟨p0,rfl⟩
 have hm:Mle m m':=fun b o ho=>by
  show (if b=(ρ key).blk then _ else m b)=some o
  rw[if_neg (fun e=>by rw[e,hmb] at ho;cases ho)];exact ho
 have hlen:=Kd.R.len _ _ _ hR
 have hR':∃cells T fr,m' (ρ key).blk=some (.cells cells T fr)/\k.n<=cells.size/\k.R m' x (cells.toList.take k.n) :=
  ⟨vs.toArray,T,(0,0),if_pos rfl,by simp;omega,by
   have:=Kd.R.mono hm k x vs hR
   rw[List.take_of_length_le (by simp;omega)];simpa using this⟩
 have hM:∀b o,m' b=some o->w.heap[b]? = some o:=fun b o ho=>by
  by_cases e:b=(ρ key).blk
  ·have:(if b=(ρ key).blk then some (Obj.cells vs.toArray T (0,0)) else m b)=some o:=ho
   rw[if_pos e] at this;cases this;rw[e];exact p1
  ·have:(if b=(ρ key).blk then some (Obj.cells vs.toArray T (0,0)) else m b)=some o:=ho
   rw[if_neg e] at this;exact h4.mem b o this
 have hsame:∀b,m' b=m b\/foot ρ key b:=fun b=>by
  by_cases e:b=(ρ key).blk
  ·exact .inr ⟨p0,e⟩
  ·exact .inl (if_neg e)
 have hnf:∀q o b,q≠key->ww L q=some o->foot ρ q b->m' b=m b:=fun q o b hne hq hf=>(hsame b).resolve_right fun hf'=>hne (h4.dj q o key _ b hq hk hf hf')
 refine ⟨h1,h2,ρ,m',fun s y hy=>?_,⟨hM,fun q o ho=>?_,fun q o q' o' b ho ho' hf hf'=>?_,fun q o b ho hf=>?_,fun q o b ho hf=>?_,h4.lt,fun q o b ho hi=>?_⟩,⟨h5.le.trans hm,fun b hX=>?_,h5.un,h5.size,h5.os,h5.out,h5.tape⟩,h6⟩
 ·obtain ⟨y',hy',rfl⟩:=W1 hy
  obtain ⟨v,hv,hc⟩:=h3 s y' hy'
  exact ⟨v,hv,vD hm hR' y' v hc⟩
 ·obtain ⟨hne,o',ho',rfl⟩:=sel q o ho
  have:=h4.obj q o' ho'
  cases o' with
  | cells cs=>obtain ⟨p0,vs,T,p1,p2⟩:=this;exact ⟨p0,vs,T,p1,yz hm hR' cs vs p2⟩
  | rows k' ys=>exact osat.mono hm (fun _ _=>rfl) rfl (fun _ _=>rfl) (fun _ _=>rfl) this
  | ab a=>exact osat.mono hm (fun _ _=>rfl) rfl (fun _ _=>rfl) (fun _ _=>rfl) this
  | bld T o=>exact osat.mono hm (fun _ _=>rfl) rfl (fun _ _=>rfl) (fun _ _=>rfl) this
  | brw e k' ys=>exact osat.mono hm (fun _ _=>rfl) rfl (fun _ _=>rfl) (fun _ _=>rfl) this
  | emp=>exact osat.mono hm (fun _ _=>rfl) rfl (fun _ _=>rfl) (fun _ _=>rfl) this
  | arr a b c=>exact osat.mono hm (fun _ _=>rfl) rfl (fun _ _=>rfl) (fun _ _=>rfl) this
  | hrow s cs =>
   obtain ⟨q1,q2,q3,q4,vs,T,q5,q6,q7⟩:=this
   have hl:(MV.frzcL key k x cs).length=cs.length:=Z8 cs
   exact ⟨by rw[hl];exact q1,q2,q3,q4,vs,T,q5,q6,by rw[hl];exact yz hm hR' cs _ q7⟩
  | rr own e xss h=>exact Xj hm (fun x v hc=>vD hm hR' x v hc) this
  | foc p cs q=>obtain ⟨p0,v1,v2,v3,T,p1,p2,p3,p4⟩:=this;exact ⟨p0,v1,v2,v3,T,p1,CvL.mono hm p v1 (fun _ _=>rfl) p2,yz hm hR' cs v2 p3,CvL.mono hm q v3 (fun _ _=>rfl) p4⟩
 ·obtain ⟨_,o1,ho1,_⟩:=sel q o ho
  obtain ⟨_,o2,ho2,_⟩:=sel q' o' ho'
  exact h4.dj q o1 q' o2 b ho1 ho2 hf hf'
 ·obtain ⟨hne,o1,ho1,_⟩:=sel q o ho
  rw[hnf q o1 b hne ho1 hf];exact h4.djm q o1 b ho1 hf
 ·obtain ⟨hne,o1,ho1,_⟩:=sel q o ho
  exact h4.djX q o1 b ho1 hf
 ·obtain ⟨hne,o1,ho1,rfl⟩:=sel q o ho
  have hi1:=ZJ.1 hi
  obtain ⟨i1,i2,i3,i4⟩:=h4.inn q o1 b ho1 hi1
  refine ⟨by rw[(hsame b).resolve_right fun hf'=>(h4.inn q o1 b ho1 hi1).2.2.1 key _ hk hf'];exact i1,i2,fun q' o' ho' hf'=>?_,fun q' o' ho' hi'=>?_⟩
  ·obtain ⟨_,o2,ho2,_⟩:=sel q' o' ho'
   exact i3 q' o2 ho2 hf'
  ·obtain ⟨_,o2,ho2,rfl⟩:=sel q' o' ho'
   exact i4 q' o2 ho2 (ZJ.1 hi')
 ·rw[(hsame b).resolve_right (fun hf=>h4.djX key _ b hk hf hX)];exact h5.nm b hX

section
variable {P:Program} {Γ:Gd} {N:Nat} {Q:Exit->Act->World->Prop} {A A':List (Nat×MV)} {L L':List (Nat×Option MObj)} {r:Rg}
theorem Ka {ops:Array Oper} {l:List Oper} (key:Nat) (k:Kd) (x:k.T) (hk:ww L key=some (.cells (k.flat x))) (h:TL P Γ N ops Q l (UU key k x A) (K0 key k x L)):TL P Γ N ops Q l A L:=fun a w hs=>h a w (hs.freezec k x hk)
theorem GC {c:Code} (key:Nat) (k:Kd) (x:k.T) (hk:ww L key=some (.cells (k.flat x))) (h:TC P Γ N c Q (UU key k x A) (K0 key k x L)):TC P Γ N c Q A L:=fun a w hs=>h a w (hs.freezec k x hk)
theorem qi {R:Act->World->Prop} (s:Nat) (k:Kd) (hn:get A s=some .nils) (h:TE Γ N R ((s,.im (.slice k) [])::A) L):TE Γ N R A L:=by
 intro a w hs
 refine h a w ?_
 obtain ⟨h1,h2,ρ,m,h3,h4,h5,h6⟩:=hs
 refine ⟨h1,h2,ρ,m,fun t y hy=>?_,h4,h5,h6⟩
 simp only[get] at hy
 split at hy
 ·rename_i e
  have:=beq_iff_eq.1 e;subst this
  simp only[Option.some.injEq] at hy;subst hy
  obtain ⟨v,hv,hc⟩:=h3 s _ hn
  simp only[Cv] at hc;subst hc
  exact ⟨_,hv,_,rfl,.inl ⟨none,rfl,rfl⟩⟩
 ·exact h3 t y hy

theorem Zi {ops:Array Oper} {o oj:Oper} {j dj:Nat} {want:Bool} {y:MV} (hg:o.guard=some (j,want)) (hj:ops[j]? = some oj) (hdj:oj.dst=some dj) {Af:Nat->Option MV} {Lf:Nat->Option MObj} {a:Act} {w:World} (hv:Af dj=some (.cnd false y)) (hs:Sat Γ N Af Lf a w) :
  Region.wanted o (yielded ops a.tmps)=false:=by
 obtain ⟨h1,h2,ρ,m,h3,_⟩:=hs
 unfold Region.wanted
 rw[hg]
 simp only[yielded,hj,Option.bind_some,hdj]
 obtain ⟨v,hv,hc⟩:=h3 dj _ hv
 have:=hc.2 rfl;subst this
 rw[hv];cases want<;>rfl
theorem H0 (x:MV) {y:MV} {ops:Array Oper} {o oj:Oper} {l:List Oper} {j dj d:Nat} {want:Bool} (hg:o.guard=some (j,want)) (hj:ops[j]? = some oj) (hdj:oj.dst=some dj) (hv:get A dj=some (.cnd false y)) (hd:o.dst=some d) (hdN:d<N)
  (k:TL P Γ N ops Q l ((d,.cnd false x)::A) L):TL P Γ N ops Q (o::l) A L:=by
 intro a w hs
 refine wpList_step fun K hK=>?_
 rw[if_neg (by rw[Zi hg hj hdj hv hs];simp),hd]
 refine hK _ _ (k _ _ ?_)
 obtain ⟨h1,h2,ρ,m,h3,h4,h5,h6⟩:=hs
 refine ⟨by rw[xS];exact h1,by rw[jD];exact h2,ρ,m,fun s y hx=>?_,h4,h5,h6⟩
 have hc:Cv ρ m (.cnd false x) undef:=⟨fun e=>(by cases e),fun _=>rfl⟩
 exact xe (Mle.refl m) (ρ':=ρ) h3 (v:=undef) (x:=.cnd false x) (dst:=some d) (fun d' e=>by cases e;rw[h1];exact hdN) (fun _=>hc) (fun _ _ _ _ _=>rfl) s y hx
theorem Uq (x:MV) {y:MV} {vA:List (Nat×MV)} {vL:List (Nat×Option MObj)} {i j dj d:Nat} {o oj:Oper} {want:Bool} (ho:r.ops[i]? = some o) (hg:o.guard=some (j,want)) (hj:r.ops[j]? = some oj) (hdj:oj.dst=some dj) (hv:get vA dj=some (.cnd false y)) (hd:o.dst=some d) (hdN:d<N) :
  Wd P Γ N Q r vA vL ([(d,.cnd false x)],[]) i/\De.ok r i ([(d,.cnd false x)],[]):=by
 refine ⟨fun Af Lf a w hA hL _ hs K hK=>?_,fun s hs=>?_,fun k hk=>by simp[zq] at hk⟩
 ·have hw:=Zi hg hj hdj (hA _ _ hv) hs
  obtain ⟨h1,h2,ρ,m,h3,h4,h5,h6⟩:=hs
  unfold wpOp
  rw[ho]
  simp only[hw,Bool.false_eq_true,if_false,hd]
  refine hK _ _ ⟨by rw[xS];exact h1,by rw[jD];exact h2,ρ,m,fun s y hy=>?_,h4,h5,h6⟩
  rw[xf] at hy
  have hc:Cv ρ m (.cnd false x) undef:=⟨fun e=>(by cases e),fun _=>rfl⟩
  exact xe (Mle.refl m) (ρ':=ρ) h3 (v:=undef) (x:=.cnd false x) (dst:=some d) (fun d' e=>by cases e;rw[h1];exact hdN) (fun _=>hc) (fun _ _ _ _ _=>rfl) s y hy
 ·simp only[zq,List.any_cons,List.any_nil,Bool.or_false,beq_iff_eq] at hs
  rw[WE ho,hd,hs]
end
end
end Go.Fo
